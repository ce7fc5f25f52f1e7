/- Texts of the proofs of this seat, packed into one (Fv Fw Fy Ct La Lb Lc Se Ld Le Lf Lg Cn Co Cp Lh Cq Li). No statement of the seat is proved here. -/
import Derived.Lib.SlBytesConst
import Derived.Test.YtkahmepenjhcpaaDoorMb
/- The base of this seat's proofs, fifteenth part: bytes of a constant string. No statement of the seat is proved here. -/
namespace Go.Proofs.YtkahmepenjhcpaaDoor.W
open Go
set_option linter.unusedVariables false
set_option linter.unusedSimpArgs false
section op
variable {P : Program} {R : Qp} {ds : List Deferred} {n : Nat} {l : Env} {k : List KI} {w w0 : World} {ops : Array Oper} {os : List Oper}
variable {d d1 : Nat} {ty ty1 : TypeId} {ps ps1 : String} {af af1 : Array Edge} {N0 : List Nat} {L : List Own}
/-- given elements in a new row, the world told -/
theorem bslX {T E : TypeId} {sz by_ len : Nat} {zc c : List Value} {parts : List (Nat × Operand)} {qs : List (Nat × List Value)} (hE : ElT P T E sz by_ zc)
    (hp : Pts l [] (fun i => some (i * sz, sz)) parts qs) (hlen : Nat.ble (len * sz) 16777216 = true)
    (hf : fillN (List.replicate len zc).flatten qs = some c) (hn : Nat.blt d n = true)
    (h : Ro P R ds n ops ((d, [], .slice (some ⟨w.heap.size, 0, none⟩) len len) :: l) os k (w.alloc (.cells c.toArray E))) :
    Ro P R ds n ops l ({ dst := some d, op := .buildSlice T len parts.toArray, type := ty, pos := ps, after := af, guard := none } :: os) k w := by
  have hlen' : len * sz ≤ 16777216 := Nat.le_of_ble_eq_true hlen
  have hzl : ((List.replicate len zc).flatten).length = len * sz := by simp [hE.l]
  have hz : (Array.range (len * sz)).map (fun i => zc.toArray[i % zc.length]!) = ((List.replicate len zc).flatten).toArray := by
    have := range_rep zc (by rw [hE.l]; exact hE.p) len
    rwa [hE.l] at this ⊢
  generalize (List.replicate len zc).flatten = zs at hf hzl hz
  obtain ⟨i, z, g1, g2, g3, g4, g5⟩ := hE.get
  refine opw rfl rfl hn ?_ h
  intro a ha
  have hfr := fill_run _ qs zs c (Pts.get ha (show allT [] from trivial) hp) hf
  have e : (parts.toArray.map fun x => (x.1, a.eval x.2)).toList = parts.map fun p => (p.1, a.eval p.2) := by simp
  have hzc : z.cells = zc.toArray := by rw [← g5]
  have hbig : ¬ (16777216 < len * sz) := by omega
  simp only [execOp, Instr.buildSlice, Sem.run_bind, run_underlying hE.u, Result.andThen_ok, sizeOf, typeInfo, run_program, g1, Sem.run_pure, g2]
  by_cases h0 : len * sz = 0
  · have hzs : zs = [] := List.eq_nil_of_length_eq_zero (by omega)
    subst hzs
    simp [h0, newRow, Array.range_zero'] at *
    rw [hfr]
    simp
  · simp only [hbig, h0, if_false, Sem.run_ite, zeroValue, typeInfo, Sem.run_bind, run_program, Result.andThen_ok, g1, g4, Sem.run_pure, hzc]
    have e2 : (Array.range (len * sz)).map (fun x => zc.toArray[x % zc.toArray.size]!) = zs.toArray := by rw [← hz]; simp
    simp only [gt_iff_lt, Nat.reducePow, hbig, if_false, Sem.run_pure, Result.andThen_ok, e2]
    rw [e, hfr]
    simp [newRow]
/-- the bytes of a constant string: a new, marked row -/
theorem bsk {T : TypeId} {zc : List Value} {len : Nat} {b : List Int} {parts : List (Nat × Operand)} {qs : List (Nat × List Value)} (hE : ElT P T 5 1 1 zc) (h8 : P.underlying 5 = some (.int .u8)) (hb : byt b)
    (hp : Pts l [] (fun i => some (i * 1, 1)) parts qs) (hlen : Nat.ble (len * 1) 16777216 = true)
    (hf : fillN (List.replicate len zc).flatten qs = some (b.map u8)) (hl : b.length = len) (hn1 : Nat.blt d1 n = true) (hn : Nat.blt d n = true) (h0 : len ≠ 0) (S : St N0 w0 L w)
    (h : ∀ u v w', St N0 w0 L w' → Bl w w' → (∀ N, (∀ i ∈ N, i < w.heap.size) → BS N w' v b) → Ro P R ds n ops ((d, [], v) :: (d1, [], u) :: l) os k w') :
    Ro P R ds n ops l ({ dst := some d1, op := .buildSlice T len parts.toArray, type := ty1, pos := ps1, after := af1, guard := none } ::
      { dst := some d, op := .convert T T (.tmp d1), type := ty, pos := ps, after := af, guard := none } :: os) k w := by
  refine bslX hE hp hlen hf hn1 ?_
  have hB : Bl w (w.alloc (.cells (b.map u8).toArray 5 ((b.map u8).toArray.size, (b.map u8).toArray.size + 1))) := bl_alloc w _
  refine opw (v := .slice (some ⟨w.heap.size, 0, none⟩) len len) rfl rfl hn ?_ (h (.slice (some ⟨w.heap.size, 0, none⟩) len len) (.slice (some ⟨w.heap.size, 0, none⟩) len len) _ (S.call hB) hB ?_)
  · intro a ha
    have he : a.eval (.tmp d1) = .slice (some ⟨w.heap.size, 0, none⟩) len len := ha.eval (x := .tmp d1) (g := []) (by simp [ev, lk]) trivial
    simp only [execOp, he]
    rw [Sem.run_bind, Lib.run_convert_bytes_const w T 5 _ len len hE.u h8]
    rfl
  · intro N hN
    refine ⟨hb, by simp [hl], some ⟨w.heap.size, 0, none⟩, len, by rw [hl], by omega, (fun e => nomatch e), ?_⟩
    intro i hi
    refine ⟨_, rfl, rfl, fun hh => by have := hN _ hh; simp at this, ?_⟩
    have : (w.alloc (.cells (b.map u8).toArray 5 ((b.map u8).toArray.size, (b.map u8).toArray.size + 1))).heap[w.heap.size]? = some (.cells (b.map u8).toArray 5 ((b.map u8).toArray.size, (b.map u8).toArray.size + 1)) := by
      show (w.heap.push _)[w.heap.size]? = _
      simp
    simp only [Nat.zero_add]
    unfold World.cell?
    simp only [this]
    simp only [List.getElem?_toArray]
    rw [List.getElem?_eq_getElem hi]
    rfl
end op
end Go.Proofs.YtkahmepenjhcpaaDoor.W
/- The base of this seat's proofs, sixteenth part: a guard that is known. No statement of the seat is proved here. -/
namespace Go.Proofs.YtkahmepenjhcpaaDoor.W
open Go
set_option linter.unusedVariables false
/-- an operation whose guard is met goes as if it had none -/
theorem Ro.gtrue {P : Program} {R : Qp} {ds : List Deferred} {n : Nat} {l : Env} {k : List KI} {w : World} {ops : Array Oper} {os : List Oper} {dst : Option Tmp} {op : Op} {ty : TypeId} {ps : String} {af : Array Edge} {gu : Option (Nat × Bool)} {G : Gs}
    (hG : gd ops l gu = some G) (hT : allT G) (h : Ro P R ds n ops l ({ dst := dst, op := op, type := ty, pos := ps, after := af, guard := none } :: os) k w) :
    Ro P R ds n ops l ({ dst := dst, op := op, type := ty, pos := ps, after := af, guard := gu } :: os) k w := by
  intro a ha
  have q := h a ha
  have hw : Region.wanted { dst := dst, op := op, type := ty, pos := ps, after := af, guard := gu } (yielded ops a.tmps) = true := by
    rw [gd_wanted ha (o := { dst := dst, op := op, type := ty, pos := ps, after := af, guard := gu }) hG]; exact (allB_iff G).2 hT
  simp only [wpList] at q ⊢
  rw [if_pos hw]
  rw [if_pos (by rfl)] at q
  exact q
/-- what was asked for under a guard that is met stands as if there were none -/
theorem Ro.strip {P : Program} {R : Qp} {ds : List Deferred} {n : Nat} {l : Env} {k : List KI} {w : World} {ops : Array Oper} {os : List Oper} {d : Nat} {G : Gs} {v : Value}
    (hT : allT G) (h : Ro P R ds n ops ((d, [], v) :: l) os k w) : Ro P R ds n ops ((d, G, v) :: l) os k w := by
  intro a ha
  refine h a ⟨ha.defers, ha.size, ?_⟩
  intro t g u ht
  simp only [lk] at ht
  cases hb : Nat.beq d t with
  | true =>
    rw [hb] at ht
    simp only [cond_true, Option.some.injEq, Prod.mk.injEq] at ht
    obtain ⟨rfl, rfl⟩ := ht
    have := ha.at_ t G v (by simp [lk, hb])
    rw [this, gval_true hT, gval_nil]
  | false =>
    rw [hb] at ht
    exact ha.at_ t g u (by simp only [lk, hb]; exact ht)
end Go.Proofs.YtkahmepenjhcpaaDoor.W
/- The base: rows of one's own that are only read from here on; cuts; options cut. No statement of the seat is proved here. -/
namespace Go.Proofs.YtkahmepenjhcpaaDoor.W
open Go
set_option linter.unusedVariables false
set_option linter.unusedSimpArgs false
def delN {α : Type} : List α → Nat → Option (List α)
  | [], _ => none
  | _ :: r, 0 => some r
  | x :: r, i + 1 => match delN r i with
    | some r' => some (x :: r')
    | none => none
theorem delN_spec {α : Type} : ∀ (l : List α) (i : Nat) (l' : List α) (o : α), delN l i = some l' → getN l i = some o → ∃ A B, l = A ++ o :: B ∧ l' = A ++ B
  | [], i, l', o, h, _ => by simp [delN] at h
  | x :: r, 0, l', o, h, h2 => by
    simp only [delN, getN, Option.some.injEq] at h h2
    subst h; subst h2
    exact ⟨[], r, rfl, rfl⟩
  | x :: r, i + 1, l', o, h, h2 => by
    simp only [delN, getN] at h h2
    cases hd : delN r i with
    | none => rw [hd] at h; cases h
    | some r' =>
      rw [hd] at h
      simp only [Option.some.injEq] at h
      obtain ⟨A, B, h3, h4⟩ := delN_spec r i r' o hd h2
      subst h
      exact ⟨x :: A, B, by rw [h3]; rfl, by rw [h4]; rfl⟩
section
variable {N0 N1 N : List Nat} {w0 w w' : World} {L L' : List Own} {o : Own} {i j : Nat}
theorem St.layI {v : Value} {T : TypeId} {sz n : Nat} {xs : List Value} (S : St N0 w0 L w) (hk : getN L i = some (.row v T sz n xs)) (hd : delN L i = some L') : Sl (idsL L') w sz v n xs ∧ St N0 w0 L' w := by
  obtain ⟨A, B, rfl, rfl⟩ := delN_spec _ _ _ _ hd hk
  exact ⟨S.lay, S.drop⟩
theorem St.layBI {v : Value} {l : List Int} (S : St N0 w0 L w) (hk : getN L i = some (oB v l)) (hd : delN L i = some L') (hb : byt l) : BS (idsL L') w v l ∧ St N0 w0 L' w :=
  let ⟨a, b⟩ := S.layI hk hd; ⟨⟨hb, a⟩, b⟩
theorem St.layOI {v : Value} {os : List Opt} {ds : List Value} (S : St N0 w0 L w) (hk : getN L i = some (oO v os ds)) (hd : delN L i = some L') (hb : OSs N0 w0 ds os) : OS (idsL L') w v os ∧ St N0 w0 L' w :=
  let ⟨a, b⟩ := S.layI hk hd; ⟨⟨ds, a, (BSs.st b hb)⟩, b⟩
theorem OSs.st {vs : List Value} {os : List Opt} (h : OSs N0 w0 vs os) (S : St N0 w0 L w) : OSs (idsL L) w vs os := BSs.st S h
/-- bytes of one's own, the first n of them -/
theorem BS.cut0 {v : Value} {bs : List Int} {n mx : Nat} (h : BS N w v bs) (hn : n ≤ bs.length ∧ n ≤ mx ∧ mx ≤ capV v) : BS N w (W.cut v 0 n mx) (bs.take n) := by
  have := h.cut (lo := 0) (hi := n) (mx := mx) ⟨Nat.zero_le _, hn.1, hn.2.1, hn.2.2⟩
  rwa [List.drop_zero, Nat.sub_zero] at this
theorem BS.cutOne {N : List Nat} {w : World} {v : Value} {bs : List Int} (h : BS N w v bs) {lo hi mx : Nat} : (W.cut v lo hi mx).oneCell' = true := by
  obtain ⟨_, _, A, cap, rfl, _⟩ := h; rfl
theorem own_slice {v : Value} {l : List Int} (h : (oB v l).holds w) : (v = .slice none 0 0 ∧ l = []) ∨ ∃ b cap, v = .slice (some ⟨b, 0, none⟩) l.length cap ∧ l.length ≤ cap := by
  obtain ⟨h0, h⟩ := h
  rcases h with ⟨rfl, h⟩ | ⟨b, cap, c, rfl, _, hh, hn, _⟩
  · left
    exact ⟨rfl, List.eq_nil_of_length_eq_zero h⟩
  · exact .inr ⟨b, cap, rfl, hn⟩
theorem eP_cut0 {v : Value} {l : List Int} {n mx : Nat} (h : (oB v l).holds w) (hl : l ≠ []) : eP (cut v 0 n mx) = eP v := by
  rcases own_slice h with ⟨_, h2⟩ | ⟨b, cap, rfl, _⟩
  · exact absurd h2 hl
  · funext j
    simp only [cut]
    split <;> simp [eP, add_new]
theorem own_cap {v : Value} {l : List Int} (h : (oB v l).holds w) : l.length ≤ capV v := by
  rcases own_slice h with ⟨rfl, rfl⟩ | ⟨b, cap, rfl, h2⟩
  · simp
  · exact h2
end
theorem BSs.take {N : List Nat} {w : World} : ∀ {vs : List Value} {ls : List (List Int)} (n : Nat), BSs N w vs ls → BSs N w (vs.take n) (ls.take n)
  | [], [], n, h => by simp [BSs]
  | [], _ :: _, _, h => h.elim
  | _ :: _, [], _, h => h.elim
  | _ :: _, _ :: _, 0, h => by simp [BSs]
  | _ :: _, _ :: _, n + 1, h => by simp only [List.take_succ_cons]; exact ⟨h.1, BSs.take n h.2⟩
theorem optC_take : ∀ {os : List Opt} {ds : List Value} (n : Nat), ds.length = os.length → (optC os ds).take (n * 2) = optC (os.take n) (ds.take n)
  | [], [], n, _ => by simp [optC]
  | [], _ :: _, _, h => by simp at h
  | _ :: _, [], _, h => by simp at h
  | o :: os, d :: ds, 0, h => by simp [optC]
  | o :: os, d :: ds, n + 1, h => by
    have e : (n + 1) * 2 = n * 2 + 1 + 1 := by omega
    simp only [optC, e, List.take_succ_cons]
    rw [optC_take n (by simpa using h)]
theorem OS.take {N : List Nat} {w : World} {v' : Value} {os : List Opt} {ds : List Value} {n : Nat} (hB : OSs N w ds os) (hl : ds.length = os.length) (hn : n ≤ os.length) (h : Sl N w 2 v' (n - 0) (((optC os ds).drop (0 * 2)).take ((n - 0) * 2))) : OS N w v' (os.take n) := by
  refine ⟨ds.take n, ?_, ?_⟩
  · rw [Nat.sub_zero, Nat.zero_mul, List.drop_zero, optC_take n hl] at h
    rw [List.length_take, Nat.min_eq_left hn]
    exact h
  · unfold OSs
    rw [List.map_take]
    exact BSs.take n hB
theorem drop_cons' {b : List Int} {i : Nat} (h : i < b.length) : b.drop i = b.getD i 0 :: b.drop (i + 1) := by
  rw [List.drop_eq_getElem_cons h, List.getD_eq_getElem?_getD, List.getElem?_eq_getElem h]; rfl
abbrev marks : List Int := [91, 92, 93]
theorem kept_iff (a b : List Int) : ((((decide ((a.length : Int) = (b.length : Int) + 3) && decide ((a.drop 0).take (b.length - 0) = b)) && decide (a.getD b.length 0 = 91)) && decide (a.getD (b.length + 1) 0 = 92)) && decide (a.getD (b.length + 2) 0 = 93)) = decide (a = b ++ marks) := by
  by_cases h : a = b ++ marks
  · subst h
    simp [List.getD_eq_getElem?_getD]
  · rw [decide_eq_false h]
    cases hc : ((((decide ((a.length : Int) = (b.length : Int) + 3) && decide ((a.drop 0).take (b.length - 0) = b)) && decide (a.getD b.length 0 = 91)) && decide (a.getD (b.length + 1) 0 = 92)) && decide (a.getD (b.length + 2) 0 = 93)) with
    | false => rfl
    | true =>
      simp only [Bool.and_eq_true, decide_eq_true_eq, List.drop_zero, Nat.sub_zero] at hc
      obtain ⟨⟨⟨⟨h1, h2⟩, h3⟩, h4⟩, h5⟩ := hc
      have hd : a.drop b.length = marks := by
        rw [drop_cons' (by omega), drop_cons' (by omega), drop_cons' (by omega), h3, h4, h5, List.drop_eq_nil_of_le (by omega)]
      exact absurd (by rw [← List.take_append_drop b.length a, h2, hd]) h
theorem marks_byt : byt marks := by intro x hx; revert x; decide +kernel
theorem take_marks' (b : List Int) : (b ++ marks).take b.length = b := by simp
/-! ### facts of new memory, kept through a walk -/
section
variable {N0 N R : List Nat} {w0 w : World} {L : List Own} {n : Nat}
theorem mid_drop' {A B R : List Nat} : ∀ i ∈ A ++ R, i ∈ A ++ (B ++ R) := by
  intro i hi
  rcases List.mem_append.1 hi with h | h
  · exact List.mem_append_left _ h
  · exact List.mem_append_right _ (List.mem_append_right _ h)
theorem fin_sub (hN : ∀ i ∈ N, i < n) : ∀ i ∈ N, i ∈ idsL L ++ List.range n := fun i hi => List.mem_append_right _ (List.mem_range.2 (hN i hi))
theorem BS.reF {v : Value} {l : List Int} (h : BS (N0 ++ R) w0 v l) (S : St N0 w0 L w) : BS (idsL L ++ R) w v l := (h.stN (fun _ h => List.mem_append_left _ h) S).weak mid_drop'
theorem BSs.reF {vs : List Value} {ls : List (List Int)} (h : BSs (N0 ++ R) w0 vs ls) (S : St N0 w0 L w) : BSs (idsL L ++ R) w vs ls := BSs.weak mid_drop' (BSs.stN (fun _ h => List.mem_append_left _ h) S h)
theorem OSs.reF {vs : List Value} {os : List Opt} (h : OSs (N0 ++ R) w0 vs os) (S : St N0 w0 L w) : OSs (idsL L ++ R) w vs os := BSs.reF h S
theorem OS.reF {v : Value} {os : List Opt} (h : OS (N0 ++ R) w0 v os) (S : St N0 w0 L w) : OS (idsL L ++ R) w v os :=
  let ⟨vs, h1, h2⟩ := h; ⟨vs, (h1.stN (fun _ h => List.mem_append_left _ h) S).weak mid_drop', BSs.reF h2 S⟩
theorem SS.reF {v : Value} {ls : List (List Int)} (h : SS (N0 ++ R) w0 v ls) (S : St N0 w0 L w) : SS (idsL L ++ R) w v ls :=
  let ⟨vs, h1, h2⟩ := h; ⟨vs, (h1.stN (fun _ h => List.mem_append_left _ h) S).weak mid_drop', BSs.reF h2 S⟩
theorem BS.fin {v : Value} {l : List Int} (h : BS (N0 ++ List.range n) w0 v l) (S : St N0 w0 L w) (hN : ∀ i ∈ N, i < n) : BS N w v l := (h.reF S).weak (fin_sub hN)
theorem OSs.fin {vs : List Value} {os : List Opt} (h : OSs (N0 ++ List.range n) w0 vs os) (S : St N0 w0 L w) (hN : ∀ i ∈ N, i < n) : OSs N w vs os := BSs.weak (fin_sub hN) (h.reF S)
theorem OS.fin {v : Value} {os : List Opt} (h : OS (N0 ++ List.range n) w0 v os) (S : St N0 w0 L w) (hN : ∀ i ∈ N, i < n) : OS N w v os := (h.reF S).weak (fin_sub hN)
theorem SS.fin {v : Value} {ls : List (List Int)} (h : SS (N0 ++ List.range n) w0 v ls) (S : St N0 w0 L w) (hN : ∀ i ∈ N, i < n) : SS N w v ls := (h.reF S).weak (fin_sub hN)
theorem St.ltR (S : St [] w0 L w) : ∀ i ∈ idsL L ++ List.range w0.heap.size, i < w.heap.size := below_app S (fun i hi => List.mem_range.1 hi)
end
end Go.Proofs.YtkahmepenjhcpaaDoor.W
/- Contracts: small functions of the statements and of the reference. No statement of the seat is proved here. -/
namespace Go.Proofs.YtkahmepenjhcpaaDoor.W
open Go
set_option linter.unusedSimpArgs false
set_option linter.unusedVariables false
/-- what the reference has read: new memory -/
def FH (w w' : World) (o d : Value) (h : Ip4) : Prop := Bl w w' ∧ ∀ N, (∀ i ∈ N, i < w.heap.size) → OS N w' o h.opts ∧ BS N w' d h.data
set_option maxHeartbeats 1000000 in
theorem c111 (v : Value) (b : List Int) (i : Nat) (w : World) (hb : BS [] w v b) (hi : i + 1 < b.length) (hl : b.length ≤ 1099511627776) :
  CallsD Tryd.prog 111 #[v, .int .i64 i] w (.int .i64 (256 * b.getD i 0 + b.getD (i + 1) 0)) := by
 refine enter Tryd.func111 rfl Tryd.ntmps111 (l := [(0, [], _), (1, [], _)]) rfl rfl ?_
 have S := St.refl [] w
 refine Run.seq ?_
 refine Run.region ?_
 refine asg1 rfl rfl ?_
 refine Ro.nil ?_
 refine Nrm.code ?_
 refine Run.seq ?_
 refine Run.draw (by kernel_rfl) (by kernel_rfl) S ?_
 refine qmv rfl rfl rfl rfl ?_
 refine qmv rfl rfl rfl rfl ?_
 refine qixa rfl rfl hb.2 e26 rfl rfl rfl rfl (fun _ => by first | omega | (simp only [List.length_cons, List.length_nil]; omega)) ?_
 refine qldB rfl hb (fun _ S => S) T5 rfl rfl rfl (fun _ => by omega) ?_
 intro q8 hq8 hbq8
 try simp only [Int.toNat_natCast, Nat.mul_one, Int.reduceToNat] at hq8
 refine qcvi rfl rfl rfl rfl Tryd.underlying5 Tryd.underlying3 (fun _ => w64 (by omega)) ?_
 refine qmul rfl rfl rfl rfl rfl rfl (fun _ => w64 (by omega)) ?_
 refine qmv rfl rfl rfl rfl ?_
 refine qmv rfl rfl rfl rfl ?_
 refine qadd rfl rfl rfl rfl rfl rfl (fun _ => w64 (by omega)) ?_
 refine qixa rfl rfl hb.2 e26 rfl rfl rfl rfl (fun _ => by first | omega | (simp only [List.length_cons, List.length_nil]; omega)) ?_
 refine qldB rfl hb (fun _ S => S) T5 rfl rfl rfl (fun _ => by omega) ?_
 intro q15 hq15 hbq15
 try simp only [Int.toNat_natCast, Nat.mul_one, Int.reduceToNat] at hq15
 refine qcvi rfl rfl rfl rfl Tryd.underlying5 Tryd.underlying3 (fun _ => w64 (by omega)) ?_
 refine qadd rfl rfl rfl rfl rfl rfl (fun _ => w64 (by omega)) ?_
 refine qasg rfl rfl rfl rfl ?_
 refine Qo.nil (fun w1 S => ?_)
 refine Nrm.code ?_
 refine Run.ret ?_
 refine Rt.one rfl rfl ?_
 have e1 : q8 = b.getD i 0 := hq8
 have e2 : q15 = b.getD (i + 1) 0 := hq15
 exact ⟨by rw [e1, e2], S.bl⟩
set_option maxHeartbeats 1000000 in
theorem c145 (v : Value) (a : List Int) (w : World) (ha : BS [] w v a) (hl : a.length ≤ 1099511627776) :
  CallsV Tryd.prog 145 #[v] w (fun r w' => FB w w' r (a ++ marks)) := by
 refine enter Tryd.func145 rfl Tryd.ntmps145 (l := [(0, [], _)]) rfl rfl ?_
 have S := St.refl [] w
 refine Run.seq ?_
 refine Run.region ?_
 refine asg1 rfl rfl ?_
 refine Ro.nil ?_
 refine Nrm.code ?_
 refine Run.seq ?_
 refine Run.region ?_
 refine mv1 rfl rfl ?_
 refine call (vs := [_]) ⟨⟨_, _, rfl, rfl⟩, trivial⟩ k39 rfl (c39 _ _ _ (ha.now S) (by omega)) ?_
 rintro u5 w1 hF
 have S := S.fb hF
 refine asg1 rfl rfl ?_
 refine Ro.nil ?_
 refine Nrm.code ?_
 refine Run.seq ?_
 refine Run.region ?_
 refine mv1 rfl rfl ?_
 refine apBF (b := [_, _, _]) rfl e26 (qs := [(_, _), (_, _), (_, _)]) ⟨⟨_, _, _, rfl, rfl, rfl, rfl, by first | (simp [Value.cells]; done) | simp [Value.cells, encIP]⟩, ⟨_, _, _, rfl, rfl, rfl, rfl, by first | (simp [Value.cells]; done) | simp [Value.cells, encIP]⟩, ⟨_, _, _, rfl, rfl, rfl, rfl, by first | (simp [Value.cells]; done) | simp [Value.cells, encIP]⟩, trivial⟩ (by decide) rfl rfl S (i := 0) rfl rfl rfl (fun t e => by cases e; rfl) (fun _ => rfl) (by first | omega | (simp only [List.length_nil, List.length_append, List.length_cons]; omega)) ?_
 intro u_ v8 w2 S B_
 refine asg1 rfl rfl ?_
 refine Ro.nil ?_
 refine Nrm.code ?_
 refine Run.ret ?_
 refine Rt.one rfl rfl ?_
 exact S.toFB (i := 0) rfl
set_option maxHeartbeats 1000000 in
theorem c66 (v : Value) (a : List Int) (w : World) (ha : BS [] w v a) (hl : a.length ≤ 1099511627776) :
  CallsV Tryd.prog 66 #[v] w (fun r w' => FB w w' r (a ++ marks)) := by
 refine enter Tryd.func66 rfl Tryd.ntmps66 (l := [(0, [], _)]) rfl rfl ?_
 have S := St.refl [] w
 refine Run.seq ?_
 refine Run.region ?_
 refine asg1 rfl rfl ?_
 refine Ro.nil ?_
 refine Nrm.code ?_
 refine Run.seq ?_
 refine Run.region ?_
 refine mv1 rfl rfl ?_
 refine call (vs := [_]) ⟨⟨_, _, rfl, rfl⟩, trivial⟩ k39 rfl (c39 _ _ _ (ha.now S) (by omega)) ?_
 rintro u5 w1 hF
 have S := S.fb hF
 refine asg1 rfl rfl ?_
 refine Ro.nil ?_
 refine Nrm.code ?_
 refine Run.seq ?_
 refine Run.region ?_
 refine mv1 rfl rfl ?_
 refine apBF (b := [_, _, _]) rfl e26 (qs := [(_, _), (_, _), (_, _)]) ⟨⟨_, _, _, rfl, rfl, rfl, rfl, by first | (simp [Value.cells]; done) | simp [Value.cells, encIP]⟩, ⟨_, _, _, rfl, rfl, rfl, rfl, by first | (simp [Value.cells]; done) | simp [Value.cells, encIP]⟩, ⟨_, _, _, rfl, rfl, rfl, rfl, by first | (simp [Value.cells]; done) | simp [Value.cells, encIP]⟩, trivial⟩ (by decide) rfl rfl S (i := 0) rfl rfl rfl (fun t e => by cases e; rfl) (fun _ => rfl) (by first | omega | (simp only [List.length_nil, List.length_append, List.length_cons]; omega)) ?_
 intro u_ v8 w2 S B_
 refine asg1 rfl rfl ?_
 refine Ro.nil ?_
 refine Nrm.code ?_
 refine Run.ret ?_
 refine Rt.one rfl rfl ?_
 exact S.toFB (i := 0) rfl
set_option maxHeartbeats 1000000 in
theorem c148 (v u : Value) (a b : List Int) (w : World) (ha : BS [] w v a) (hb : BS [] w u b) (hl : b.length ≤ 1099511627776) :
  CallsD Tryd.prog 148 #[v, u] w (.bool (decide (a = b ++ marks))) := by
 refine enter Tryd.func148 rfl Tryd.ntmps148 (l := [(0, [], _), (1, [], _)]) rfl rfl ?_
 have S := St.refl [] w
 refine Run.seq ?_
 refine Run.region ?_
 refine asg1 rfl rfl ?_
 refine Ro.nil ?_
 refine Nrm.code ?_
 refine Run.seq ?_
 refine Run.region ?_
 refine mv1 rfl rfl ?_
 refine lenS rfl hb.2 Tryd.underlying26 rfl rfl rfl ?_
 refine asg1 rfl rfl ?_
 refine Ro.nil ?_
 refine Nrm.code ?_
 refine Run.seq ?_
 refine Run.region ?_
 refine mv1 rfl rfl ?_
 refine lenS rfl ha.2 Tryd.underlying26 rfl rfl rfl ?_
 refine mv1 rfl rfl ?_
 refine add1 rfl rfl rfl (w64 (by omega)) ?_
 refine eql1 rfl rfl rfl ?_
 refine mv1 rfl rfl ?_
 refine mv rfl rfl rfl rfl ?_
 refine mv rfl rfl rfl rfl ?_
 refine slC (lo := 0) (hi := b.length) (mx := capV v) rfl ha e26 rfl rfl rfl (i1 := none) (i2 := some (b.length)) (i3 := none) trivial ⟨_, _, _, rfl, rfl⟩ trivial rfl rfl rfl (fun h => by first | rfl | cases h) (fun hG => by (try simp [allT] at hG); have hcap := ha.cap; omega) ?_
 refine mv rfl rfl rfl rfl ?_
 refine calg (vs := [_, _]) rfl ⟨⟨_, _, rfl, rfl⟩, ⟨_, _, rfl, rfl⟩, trivial⟩ k37 rfl (fun hG => by have hG5 : (a.length : Int) = b.length + 3 := (by (simp [allT] at hG; omega)); exact c37 _ _ _ _ _ ((ha.cut (by have := ha.cap; omega)).now S) (hb.now S)) ?_
 intro w1 B_; have S := S.call B_
 refine pkA rfl rfl rfl rfl rfl rfl ?_
 refine mv1 rfl rfl ?_
 refine mv rfl rfl rfl rfl ?_
 refine mv rfl rfl rfl rfl ?_
 refine ixa rfl rfl ha.2 e26 rfl rfl rfl rfl (fun hG => by (try simp [allT] at hG); omega) ?_
 refine ldB rfl ha S T5 rfl rfl rfl (fun hG => by first | exact by omega | (simp [allT] at hG; exact by omega)) ?_
 intro q24 hq24 hbq24
 try simp only [Int.toNat_natCast, Nat.mul_one, Int.reduceToNat] at hq24
 refine eql rfl rfl rfl rfl rfl rfl ?_
 refine pkA rfl rfl rfl rfl rfl rfl ?_
 refine mv1 rfl rfl ?_
 refine mv rfl rfl rfl rfl ?_
 refine mv rfl rfl rfl rfl ?_
 refine add rfl rfl rfl rfl rfl rfl (fun hG => by first | exact w64 (by omega) | (simp [allT] at hG; exact w64 (by omega))) ?_
 refine ixa rfl rfl ha.2 e26 rfl rfl rfl rfl (fun hG => by (try simp [allT] at hG); omega) ?_
 refine ldB rfl ha S T5 rfl rfl rfl (fun hG => by first | exact by omega | (simp [allT] at hG; exact by omega)) ?_
 intro q32 hq32 hbq32
 try simp only [Int.toNat_natCast, Nat.mul_one, Int.reduceToNat] at hq32
 refine eql rfl rfl rfl rfl rfl rfl ?_
 refine pkA rfl rfl rfl rfl rfl rfl ?_
 refine mv1 rfl rfl ?_
 refine mv rfl rfl rfl rfl ?_
 refine mv rfl rfl rfl rfl ?_
 refine add rfl rfl rfl rfl rfl rfl (fun hG => by first | exact w64 (by omega) | (simp [allT] at hG; exact w64 (by omega))) ?_
 refine ixa rfl rfl ha.2 e26 rfl rfl rfl rfl (fun hG => by (try simp [allT] at hG); omega) ?_
 refine ldB rfl ha S T5 rfl rfl rfl (fun hG => by first | exact by omega | (simp [allT] at hG; exact by omega)) ?_
 intro q40 hq40 hbq40
 try simp only [Int.toNat_natCast, Nat.mul_one, Int.reduceToNat] at hq40
 refine eql rfl rfl rfl rfl rfl rfl ?_
 refine pkA rfl rfl rfl rfl rfl rfl ?_
 refine asg1 rfl rfl ?_
 refine Ro.nil ?_
 refine Nrm.code ?_
 refine Run.ret ?_
 refine Rt.one rfl rfl ?_
 have e1 : q24 = a.getD b.length 0 := hq24
 have e2 : q32 = a.getD (b.length + 1) 0 := hq32
 have e3 : q40 = a.getD (b.length + 2) 0 := hq40
 rw [e1, e2, e3]
 exact ⟨by rw [kept_iff], S.bl⟩
set_option maxHeartbeats 1000000 in
theorem c68 (v u : Value) (a b : List Int) (w : World) (ha : BS [] w v a) (hb : BS [] w u b) (hl : b.length ≤ 1099511627776) :
  CallsD Tryd.prog 68 #[v, u] w (.bool (decide (a = b ++ marks))) := by
 refine enter Tryd.func68 rfl Tryd.ntmps68 (l := [(0, [], _), (1, [], _)]) rfl rfl ?_
 have S := St.refl [] w
 refine Run.seq ?_
 refine Run.region ?_
 refine asg1 rfl rfl ?_
 refine Ro.nil ?_
 refine Nrm.code ?_
 refine Run.seq ?_
 refine Run.region ?_
 refine mv1 rfl rfl ?_
 refine lenS rfl hb.2 Tryd.underlying26 rfl rfl rfl ?_
 refine asg1 rfl rfl ?_
 refine Ro.nil ?_
 refine Nrm.code ?_
 refine Run.seq ?_
 refine Run.region ?_
 refine mv1 rfl rfl ?_
 refine lenS rfl ha.2 Tryd.underlying26 rfl rfl rfl ?_
 refine mv1 rfl rfl ?_
 refine add1 rfl rfl rfl (w64 (by omega)) ?_
 refine eql1 rfl rfl rfl ?_
 refine mv1 rfl rfl ?_
 refine mv rfl rfl rfl rfl ?_
 refine mv rfl rfl rfl rfl ?_
 refine slC (lo := 0) (hi := b.length) (mx := capV v) rfl ha e26 rfl rfl rfl (i1 := none) (i2 := some (b.length)) (i3 := none) trivial ⟨_, _, _, rfl, rfl⟩ trivial rfl rfl rfl (fun h => by first | rfl | cases h) (fun hG => by (try simp [allT] at hG); have hcap := ha.cap; omega) ?_
 refine mv rfl rfl rfl rfl ?_
 refine calg (vs := [_, _]) rfl ⟨⟨_, _, rfl, rfl⟩, ⟨_, _, rfl, rfl⟩, trivial⟩ k37 rfl (fun hG => by have hG5 : (a.length : Int) = b.length + 3 := (by (simp [allT] at hG; omega)); exact c37 _ _ _ _ _ ((ha.cut (by have := ha.cap; omega)).now S) (hb.now S)) ?_
 intro w1 B_; have S := S.call B_
 refine pkA rfl rfl rfl rfl rfl rfl ?_
 refine mv1 rfl rfl ?_
 refine mv rfl rfl rfl rfl ?_
 refine mv rfl rfl rfl rfl ?_
 refine ixa rfl rfl ha.2 e26 rfl rfl rfl rfl (fun hG => by (try simp [allT] at hG); omega) ?_
 refine ldB rfl ha S T5 rfl rfl rfl (fun hG => by first | exact by omega | (simp [allT] at hG; exact by omega)) ?_
 intro q24 hq24 hbq24
 try simp only [Int.toNat_natCast, Nat.mul_one, Int.reduceToNat] at hq24
 refine eql rfl rfl rfl rfl rfl rfl ?_
 refine pkA rfl rfl rfl rfl rfl rfl ?_
 refine mv1 rfl rfl ?_
 refine mv rfl rfl rfl rfl ?_
 refine mv rfl rfl rfl rfl ?_
 refine add rfl rfl rfl rfl rfl rfl (fun hG => by first | exact w64 (by omega) | (simp [allT] at hG; exact w64 (by omega))) ?_
 refine ixa rfl rfl ha.2 e26 rfl rfl rfl rfl (fun hG => by (try simp [allT] at hG); omega) ?_
 refine ldB rfl ha S T5 rfl rfl rfl (fun hG => by first | exact by omega | (simp [allT] at hG; exact by omega)) ?_
 intro q32 hq32 hbq32
 try simp only [Int.toNat_natCast, Nat.mul_one, Int.reduceToNat] at hq32
 refine eql rfl rfl rfl rfl rfl rfl ?_
 refine pkA rfl rfl rfl rfl rfl rfl ?_
 refine mv1 rfl rfl ?_
 refine mv rfl rfl rfl rfl ?_
 refine mv rfl rfl rfl rfl ?_
 refine add rfl rfl rfl rfl rfl rfl (fun hG => by first | exact w64 (by omega) | (simp [allT] at hG; exact w64 (by omega))) ?_
 refine ixa rfl rfl ha.2 e26 rfl rfl rfl rfl (fun hG => by (try simp [allT] at hG); omega) ?_
 refine ldB rfl ha S T5 rfl rfl rfl (fun hG => by first | exact by omega | (simp [allT] at hG; exact by omega)) ?_
 intro q40 hq40 hbq40
 try simp only [Int.toNat_natCast, Nat.mul_one, Int.reduceToNat] at hq40
 refine eql rfl rfl rfl rfl rfl rfl ?_
 refine pkA rfl rfl rfl rfl rfl rfl ?_
 refine asg1 rfl rfl ?_
 refine Ro.nil ?_
 refine Nrm.code ?_
 refine Run.ret ?_
 refine Rt.one rfl rfl ?_
 have e1 : q24 = a.getD b.length 0 := hq24
 have e2 : q32 = a.getD (b.length + 1) 0 := hq32
 have e3 : q40 = a.getD (b.length + 2) 0 := hq40
 rw [e1, e2, e3]
 exact ⟨by rw [kept_iff], S.bl⟩
set_option maxHeartbeats 1000000 in
theorem c151 (v : Value) (b : List Int) (n : Int) (w : World) (hv : (oB v b).holds w) (hn : 0 ≤ n ∧ n < 65536) (hl : b.length ≤ 1099511627776) :
  CallsV Tryd.prog 151 #[v, .int .i64 n] w (fun r w' => Tn w w' (oB v b) (oB r (b ++ [n / 256, n % 256]))) := by
 refine enter Tryd.func151 rfl Tryd.ntmps151 (l := [(0, [], _), (1, [], _)]) rfl rfl ?_
 have S := St.own0 hv
 refine Run.seq ?_
 refine Run.region ?_
 refine asg1 rfl rfl ?_
 refine Ro.nil ?_
 refine Nrm.code ?_
 refine Run.seq ?_
 refine Run.region ?_
 refine mv1 rfl rfl ?_
 refine mv1 rfl rfl ?_
 refine quo1 rfl rfl rfl (by decide) (q64 (by omega)) ?_
 refine cvi1 rfl rfl Tryd.underlying3 Tryd.underlying5 (w8of rfl (by omega)) ?_
 refine mv1 rfl rfl ?_
 refine rem1 rfl rfl rfl (by decide) (r64 (by omega)) ?_
 refine cvi1 rfl rfl Tryd.underlying3 Tryd.underlying5 (w8of rfl (by omega)) ?_
 refine apBF (b := [_, _]) rfl e26 (qs := [(_, _), (_, _)]) ⟨⟨_, _, _, rfl, rfl, rfl, rfl, by first | (simp [Value.cells]; done) | simp [Value.cells, encIP]⟩, ⟨_, _, _, rfl, rfl, rfl, rfl, by first | (simp [Value.cells]; done) | simp [Value.cells, encIP]⟩, trivial⟩ (by decide) rfl rfl S (i := 0) rfl rfl rfl (fun t e => by cases e; rfl) (fun _ => rfl) (by first | omega | (simp only [List.length_nil, List.length_append, List.length_cons]; omega)) ?_
 intro u_ v13 w1 S B_
 refine asg1 rfl rfl ?_
 refine Ro.nil ?_
 refine Nrm.code ?_
 refine Run.ret ?_
 refine Rt.one rfl rfl ?_
 exact S.toTn (i := 0) rfl
end Go.Proofs.YtkahmepenjhcpaaDoor.W
/- Contracts: the pseudo-header, of both. No statement of the seat is proved here. -/
namespace Go.Proofs.YtkahmepenjhcpaaDoor.W
open Go
set_option linter.unusedSimpArgs false
set_option linter.unusedVariables false
def six6 (x : IP) : List Int := [x.a 0, x.a 1, x.a 2, x.a 3, x.a 4, x.a 5, x.a 6, x.a 7, x.a 8, x.a 9, x.a 10, x.a 11, x.a 12, x.a 13, x.a 14, x.a 15]
def famB (s d : IP) : Bool := decide (verI s = 0) || decide (verI d ≠ verI s)
def pseE (s d : IP) (p n : Int) : Int := if famB s d = true then 20 else if (((decide (p < 0) || decide (255 < p)) || decide (n < 0)) || decide (65535 < n)) = true then 1 else 0
def pseB (s d : IP) (p n : Int) : List Int := if verI s = 4 then four4 s ++ four4 d ++ [0, p, n / 256, n % 256] else six6 s ++ six6 d ++ [0, 0, n / 256, n % 256, 0, 0, 0, p]
def pseL (s d : IP) (p n : Int) : List Int := if pseE s d p n = 0 then pseB s d p n else []
theorem six6_byt {x : IP} (h : x.ok) : byt (six6 x) := by
  intro b hb
  simp only [six6, List.mem_cons, List.not_mem_nil, or_false] at hb
  rcases hb with rfl | rfl | rfl | rfl | rfl | rfl | rfl | rfl | rfl | rfl | rfl | rfl | rfl | rfl | rfl | rfl <;> exact h.1 _ (by omega)
theorem pse_ok {s d : IP} {p n : Int} (h : pseE s d p n = 0) : famB s d = false ∧ 0 ≤ p ∧ p ≤ 255 ∧ 0 ≤ n ∧ n ≤ 65535 := by
  unfold pseE at h
  by_cases h1 : famB s d = true
  · rw [if_pos h1] at h; omega
  rw [if_neg h1] at h
  by_cases h2 : (((decide (p < 0) || decide (255 < p)) || decide (n < 0)) || decide (65535 < n)) = true
  · rw [if_pos h2] at h; omega
  simp only [Bool.or_eq_true, decide_eq_true_eq, not_or] at h2
  exact ⟨by simpa using h1, by omega, by omega, by omega, by omega⟩
theorem pseL_byt {s d : IP} (hs : s.ok) (hd : d.ok) (p n : Int) : byt (pseL s d p n) := by
  unfold pseL
  split
  · rename_i h
    obtain ⟨_, h1, h2, h3, h4⟩ := pse_ok h
    unfold pseB
    split
    · exact byt_app (byt_app (four4_byt hs) (four4_byt hd)) (by intro x hx; simp only [List.mem_cons, List.not_mem_nil, or_false] at hx; rcases hx with rfl | rfl | rfl | rfl <;> omega)
    · exact byt_app (byt_app (six6_byt hs) (six6_byt hd)) (by intro x hx; simp only [List.mem_cons, List.not_mem_nil, or_false] at hx; rcases hx with rfl | rfl | rfl | rfl | rfl | rfl | rfl | rfl <;> omega)
  · exact byt_nil
theorem pseL_len (s d : IP) (p n : Int) : (pseL s d p n).length ≤ 40 ∧ (pseL s d p n).length % 2 = 0 := by
  unfold pseL pseB
  (repeat' split) <;> simp [four4, six6]
set_option maxHeartbeats 1000000 in
theorem c58 (s d : IP) (p n : Int) (w : World) (hs : s.ok) (hd : d.ok) (hn : inI n) :
  CallsV Tryd.prog 58 #[.agg (encIP s).toArray, .agg (encIP d).toArray, .int .i64 p, .int .i64 n] w (fun r w' => ∃ u, r = .tuple #[u, .int .i64 (pseE s d p n)] ∧ FB w w' u (pseL s d p n)) := by
 refine enter Tryd.func58 rfl Tryd.ntmps58 (l := [(0, [], _), (1, [], _), (2, [], _), (3, [], _)]) rfl rfl ?_
 have S := St.refl [] w
 refine Run.seq ?_
 refine Run.region ?_
 refine boxA rfl S rfl ?_
 intro b4 w1 hb4 S B_
 refine boxA rfl S rfl ?_
 intro b5 w2 hb5 S B_
 refine asg1 rfl rfl ?_
 refine asg1 rfl rfl ?_
 refine Ro.nil ?_
 refine Nrm.code ?_
 refine Run.seq ?_
 refine Run.region ?_
 refine ldW rfl T24 S (i := 1) rfl rfl rfl rfl rfl ?_
 refine calg (vs := [_]) rfl ⟨⟨_, _, rfl, rfl⟩, trivial⟩ k125 rfl (fun hG => c125 _ _) ?_
 intro w3 B_; have S := S.call B_
 refine asg1 rfl rfl ?_
 refine Ro.nil ?_
 refine Nrm.code ?_
 refine Run.seq ?_
 refine Run.block ?_
 refine Run.seq ?_
 refine Run.region ?_
 refine mv1 rfl rfl ?_
 refine eql1 rfl rfl rfl ?_
 refine mv1 rfl rfl ?_
 refine ldW rfl T24 S (i := 0) rfl rfl rfl rfl rfl ?_
 refine calg (vs := [_]) rfl ⟨⟨_, _, rfl, rfl⟩, trivial⟩ k125 rfl (fun hG => c125 _ _) ?_
 intro w4 B_; have S := S.call B_
 refine mv rfl rfl rfl rfl ?_
 refine neq rfl rfl rfl rfl rfl rfl ?_
 refine pkO rfl rfl rfl rfl rfl rfl ?_
 refine asg1 rfl rfl ?_
 refine Ro.nil ?_
 refine Nrm.code ?_
 refine Run.cond rfl (fun hc2 => ?_) (fun hc2 => ?_)
 ·
  refine Run.seq ?_
  refine Run.region ?_
  refine asg1 rfl rfl ?_
  refine asg1 rfl rfl ?_
  refine Ro.nil ?_
  refine Nrm.code ?_
  refine Run.ret ?_
  refine Rt.two rfl rfl rfl ?_
  have he : pseE s d p n = 20 := by unfold pseE; rw [if_pos (show famB s d = true from hc2)]
  exact ⟨.slice none 0 0, by rw [he], by rw [show pseL s d p n = [] from by unfold pseL; rw [if_neg (by omega)]]; exact (S.nilB).toFB (i := 0) rfl⟩
 ·
  refine Run.seq ?_
  refine Run.region ?_
  refine mv1 rfl rfl ?_
  refine lss1 rfl rfl rfl ?_
  refine mv1 rfl rfl ?_
  refine mv rfl rfl rfl rfl ?_
  refine gtr rfl rfl rfl rfl rfl rfl ?_
  refine pkO rfl rfl rfl rfl rfl rfl ?_
  refine mv1 rfl rfl ?_
  refine mv rfl rfl rfl rfl ?_
  refine lss rfl rfl rfl rfl rfl rfl ?_
  refine pkO rfl rfl rfl rfl rfl rfl ?_
  refine mv1 rfl rfl ?_
  refine mv rfl rfl rfl rfl ?_
  refine gtr rfl rfl rfl rfl rfl rfl ?_
  refine pkO rfl rfl rfl rfl rfl rfl ?_
  refine asg1 rfl rfl ?_
  refine Ro.nil ?_
  refine Nrm.code ?_
  refine Run.cond rfl (fun hc4 => ?_) (fun hc4 => ?_)
  ·
   refine Run.seq ?_
   refine Run.region ?_
   refine asg1 rfl rfl ?_
   refine asg1 rfl rfl ?_
   refine Ro.nil ?_
   refine Nrm.code ?_
   refine Run.ret ?_
   refine Rt.two rfl rfl rfl ?_
   have he : pseE s d p n = 1 := by unfold pseE; rw [if_neg (by rw [show famB s d = false from hc2]; simp), if_pos hc4]
   exact ⟨.slice none 0 0, by rw [he], by rw [show pseL s d p n = [] from by unfold pseL; rw [if_neg (by omega)]]; exact (S.nilB).toFB (i := 0) rfl⟩
  ·
   refine Run.skip ?_
   refine Nrm.blk ?_
   refine Nrm.code ?_
   refine Run.seq ?_
   have he : pseE s d p n = 0 := by unfold pseE; rw [if_neg (by rw [show famB s d = false from hc2]; simp), if_neg (by rw [hc4]; simp)]
   have hpo := pse_ok he
   refine Run.region ?_
   refine asg1 rfl rfl ?_
   have S := S.nilB
   refine Ro.nil ?_
   refine Nrm.code ?_
   refine Run.seq ?_
   refine Run.seq ?_
   refine Run.region ?_
   refine mv1 rfl rfl ?_
   refine eql1 rfl rfl rfl ?_
   refine Ro.nil ?_
   refine Nrm.code ?_
   refine Run.cond rfl (fun hc7 => ?_) (fun hc7 => ?_)
   ·
    try simp only [Bool.or_eq_true, Bool.and_eq_true, Bool.or_eq_false_iff, Bool.and_eq_false_iff, decide_eq_true_eq, decide_eq_false_iff_not, Bool.not_eq_true', Bool.not_eq_false', Bool.not_eq_true, Bool.not_eq_false] at hc7
    refine Run.seq ?_
    refine Run.region ?_
    refine mv1 rfl rfl ?_
    refine fld (o' := 1) rfl fo24_1 rfl rfl rfl rfl ?_
    refine slAT rfl Tryd.underlying22 T5 rfl rfl rfl (i2 := some 4) ⟨_, _, _, rfl, rfl⟩ rfl (by decide) (by decide) ?_
    refine apB rfl rfl e26 ⟨four4_byt hs, S.varSl (i := 2) (m := 4) (sz := 1) rfl rfl rfl (by decide)⟩ S (i := 0) rfl rfl (fun _ => rfl) (by simp [four4]) ?_
    intro u8 w5 S B_
    refine asg1 rfl rfl ?_
    refine Ro.nil ?_
    refine Nrm.code ?_
    refine Run.seq ?_
    refine Run.region ?_
    refine mv1 rfl rfl ?_
    refine fld (o' := 1) rfl fo24_1 rfl rfl rfl rfl ?_
    refine slAT rfl Tryd.underlying22 T5 rfl rfl rfl (i2 := some 4) ⟨_, _, _, rfl, rfl⟩ rfl (by decide) (by decide) ?_
    refine apB rfl rfl e26 ⟨four4_byt hd, S.varSl (i := 1) (m := 4) (sz := 1) rfl rfl rfl (by decide)⟩ S (i := 0) rfl rfl (fun _ => rfl) (by simp [four4]) ?_
    intro u9 w6 S B_
    refine asg1 rfl rfl ?_
    refine Ro.nil ?_
    refine Nrm.code ?_
    refine Run.seq ?_
    refine Run.region ?_
    refine mv1 rfl rfl ?_
    refine mv1 rfl rfl ?_
    refine cvi1 rfl rfl Tryd.underlying3 Tryd.underlying5 (w8of rfl (by omega)) ?_
    refine mv1 rfl rfl ?_
    refine shr rfl rfl rfl rfl rfl rfl (fun _ => by decide) (fun _ => sh8 _) ?_
    refine cvi1 rfl rfl Tryd.underlying3 Tryd.underlying5 (w8of rfl (by omega)) ?_
    refine mv1 rfl rfl ?_
    refine cvi1 rfl rfl Tryd.underlying3 Tryd.underlying5 (w8m _) ?_
    refine apBF (b := [_, _, _, _]) rfl e26 (qs := [(_, _), (_, _), (_, _), (_, _)]) ⟨⟨_, _, _, rfl, rfl, rfl, rfl, by first | (simp [Value.cells]; done) | simp [Value.cells, encIP]⟩, ⟨_, _, _, rfl, rfl, rfl, rfl, by first | (simp [Value.cells]; done) | simp [Value.cells, encIP]⟩, ⟨_, _, _, rfl, rfl, rfl, rfl, by first | (simp [Value.cells]; done) | simp [Value.cells, encIP]⟩, ⟨_, _, _, rfl, rfl, rfl, rfl, by first | (simp [Value.cells]; done) | simp [Value.cells, encIP]⟩, trivial⟩ (by decide) rfl rfl S (i := 0) rfl rfl rfl (fun t e => by cases e; rfl) (fun _ => rfl) (by simp [four4]) ?_
    intro u_ uz w7 S B_
    refine asg1 rfl rfl ?_
    refine asg1 rfl rfl ?_
    refine Ro.nil ?_
    refine Nrm.code ?_
    refine Run.ret ?_
    refine Rt.two rfl rfl rfl ?_
    exact ⟨_, by rw [he], by rw [show pseL s d p n = pseB s d p n from by unfold pseL; rw [if_pos he], pseB, if_pos hc7]; simpa [four4, six6] using S.toFB (i := 0) rfl⟩
   ·
    try simp only [Bool.or_eq_true, Bool.and_eq_true, Bool.or_eq_false_iff, Bool.and_eq_false_iff, decide_eq_true_eq, decide_eq_false_iff_not, Bool.not_eq_true', Bool.not_eq_false', Bool.not_eq_true, Bool.not_eq_false] at hc7
    refine Run.skip ?_
    refine Nrm.code ?_
    refine Run.seq ?_
    refine Run.region ?_
    refine mv1 rfl rfl ?_
    refine fld (o' := 1) rfl fo24_1 rfl rfl rfl rfl ?_
    refine slAT rfl Tryd.underlying22 T5 rfl rfl rfl (i2 := none) trivial rfl (by decide) (by decide) ?_
    refine apB rfl rfl e26 ⟨six6_byt hs, S.varSl (i := 2) (m := 16) (sz := 1) rfl rfl rfl (by decide)⟩ S (i := 0) rfl rfl (fun _ => rfl) (by simp [six6]) ?_
    intro u11 w5 S B_
    refine asg1 rfl rfl ?_
    refine Ro.nil ?_
    refine Nrm.code ?_
    refine Run.seq ?_
    refine Run.region ?_
    refine mv1 rfl rfl ?_
    refine fld (o' := 1) rfl fo24_1 rfl rfl rfl rfl ?_
    refine slAT rfl Tryd.underlying22 T5 rfl rfl rfl (i2 := none) trivial rfl (by decide) (by decide) ?_
    refine apB rfl rfl e26 ⟨six6_byt hd, S.varSl (i := 1) (m := 16) (sz := 1) rfl rfl rfl (by decide)⟩ S (i := 0) rfl rfl (fun _ => rfl) (by simp [six6]) ?_
    intro u12 w6 S B_
    refine asg1 rfl rfl ?_
    refine Ro.nil ?_
    refine Nrm.code ?_
    refine Run.seq ?_
    refine Run.region ?_
    refine mv1 rfl rfl ?_
    refine mv1 rfl rfl ?_
    refine shr rfl rfl rfl rfl rfl rfl (fun _ => by decide) (fun _ => sh8 _) ?_
    refine cvi1 rfl rfl Tryd.underlying3 Tryd.underlying5 (w8of rfl (by omega)) ?_
    refine mv1 rfl rfl ?_
    refine cvi1 rfl rfl Tryd.underlying3 Tryd.underlying5 (w8m _) ?_
    refine mv1 rfl rfl ?_
    refine cvi1 rfl rfl Tryd.underlying3 Tryd.underlying5 (w8of rfl (by omega)) ?_
    refine apBF (b := [_, _, _, _, _, _, _, _]) rfl e26 (qs := [(_, _), (_, _), (_, _), (_, _), (_, _), (_, _), (_, _), (_, _)]) ⟨⟨_, _, _, rfl, rfl, rfl, rfl, by first | (simp [Value.cells]; done) | simp [Value.cells, encIP]⟩, ⟨_, _, _, rfl, rfl, rfl, rfl, by first | (simp [Value.cells]; done) | simp [Value.cells, encIP]⟩, ⟨_, _, _, rfl, rfl, rfl, rfl, by first | (simp [Value.cells]; done) | simp [Value.cells, encIP]⟩, ⟨_, _, _, rfl, rfl, rfl, rfl, by first | (simp [Value.cells]; done) | simp [Value.cells, encIP]⟩, ⟨_, _, _, rfl, rfl, rfl, rfl, by first | (simp [Value.cells]; done) | simp [Value.cells, encIP]⟩, ⟨_, _, _, rfl, rfl, rfl, rfl, by first | (simp [Value.cells]; done) | simp [Value.cells, encIP]⟩, ⟨_, _, _, rfl, rfl, rfl, rfl, by first | (simp [Value.cells]; done) | simp [Value.cells, encIP]⟩, ⟨_, _, _, rfl, rfl, rfl, rfl, by first | (simp [Value.cells]; done) | simp [Value.cells, encIP]⟩, trivial⟩ (by decide) rfl rfl S (i := 0) rfl rfl rfl (fun t e => by cases e; rfl) (fun _ => rfl) (by simp [six6]) ?_
    intro u_ uz w7 S B_
    refine asg1 rfl rfl ?_
    refine asg1 rfl rfl ?_
    refine Ro.nil ?_
    refine Nrm.code ?_
    refine Run.ret ?_
    refine Rt.two rfl rfl rfl ?_
    exact ⟨_, by rw [he], by rw [show pseL s d p n = pseB s d p n from by unfold pseL; rw [if_pos he], pseB, if_neg hc7]; simpa [four4, six6] using S.toFB (i := 0) rfl⟩
end Go.Proofs.YtkahmepenjhcpaaDoor.W
/- Contracts: small functions of layer 9. No statement of the seat is proved here. -/
namespace Go.Proofs.YtkahmepenjhcpaaDoor.W
open Go
set_option linter.unusedSimpArgs false
set_option linter.unusedVariables false
def fitE (s d : IP) : Int := if famB s d = true then 20 else 0
theorem pse_fit (s d : IP) : pseE s d 0 0 = fitE s d := by
  unfold pseE fitE
  split
  · rfl
  · rfl
theorem fit_pse {s d : IP} {p n : Int} (h : fitE s d = 0) (h1 : 0 ≤ p ∧ p ≤ 255) (h2 : 0 ≤ n ∧ n ≤ 65535) : pseE s d p n = 0 := by
  unfold fitE at h
  unfold pseE
  by_cases hf : famB s d = true
  · rw [if_pos hf] at h; omega
  · rw [if_neg hf, if_neg]
    simp only [Bool.or_eq_true, decide_eq_true_eq]
    omega
theorem fitE_or (s d : IP) : fitE s d = 0 ∨ fitE s d = 20 := by unfold fitE; split <;> simp
def psum (s d : IP) (p : Int) (b : List Int) : Int := sumS (pseL s d p b.length ++ b)
theorem psum_bd {s d : IP} {p : Int} {b : List Int} (hs : s.ok) (hd : d.ok) (hb : byt b) : 0 ≤ psum s d p b ∧ psum s d p b ≤ 65535 := by
  have hw := wsum_bd (pseL s d p b.length ++ b) true (byt_app (pseL_byt hs hd _ _) hb)
  have hf := foldS_bd hw.1
  exact hf
def wd2 (b : List Int) (i : Nat) : Int := b.getD i 0 * 256 + b.getD (i + 1) 0
def numN (b : List Int) (at_ : Nat) : Nat → Int
  | 0 => 0
  | n + 1 => 256 * numN b at_ n + b.getD (at_ + n) 0
theorem numN_bd {b : List Int} (h : byt b) (a : Nat) : 0 ≤ numN b a 0 ∧ numN b a 0 < 1 ∧ 0 ≤ numN b a 1 ∧ numN b a 1 < 256 ∧ 0 ≤ numN b a 2 ∧ numN b a 2 < 65536 ∧ 0 ≤ numN b a 3 ∧ numN b a 3 < 16777216 ∧ 0 ≤ numN b a 4 ∧ numN b a 4 < 4294967296 := by
  have h0 := byt_getD h (a + 0)
  have h1 := byt_getD h (a + 1)
  have h2 := byt_getD h (a + 2)
  have h3 := byt_getD h (a + 3)
  simp only [numN]
  omega
theorem numN_lt {b : List Int} (h : byt b) (a i : Nat) (hi : i ≤ 4) : 0 ≤ numN b a i ∧ numN b a i < 4294967296 := by
  have := numN_bd h a
  have h5 : i = 0 ∨ i = 1 ∨ i = 2 ∨ i = 3 ∨ i = 4 := by omega
  rcases h5 with rfl | rfl | rfl | rfl | rfl <;> omega
def refLen (k n : Int) : Bool := if k = 2 then decide (n = 4) else if k = 3 then decide (n = 3) else if k = 4 then decide (n = 2) else if k = 5 then (((decide (n = 10) || decide (n = 18)) || decide (n = 26)) || decide (n = 34)) else if k = 8 then decide (n = 10) else decide (2 ≤ n)
def lenT : List Int := [0, 0, 16, 8, 4, 17247241216, 0, 0, 1024]
abbrev u64 (x : Int) : Value := .int .u64 x
def tstB (t n : Int) : Bool := decide (IntKind.u64.wrap (((t.fdiv (2 ^ (min n.toNat IntKind.u64.bits)) % 2 ^ IntKind.u64.bits).toNat &&& ((1 : Int) % 2 ^ IntKind.u64.bits).toNat : Nat) : Int) = 1)
def rightB (k n : Int) : Bool := (decide (9 ≤ k) || decide (lenT.getD k.toNat 0 = 0)) || tstB (lenT.getD k.toNat 0) n
theorem tst_16 : ∀ n : Fin 65, tstB 16 n.val = decide ((n.val : Int) = 4) := by decide +kernel
theorem tst_8 : ∀ n : Fin 65, tstB 8 n.val = decide ((n.val : Int) = 3) := by decide +kernel
theorem tst_4 : ∀ n : Fin 65, tstB 4 n.val = decide ((n.val : Int) = 2) := by decide +kernel
theorem tst_1024 : ∀ n : Fin 65, tstB 1024 n.val = decide ((n.val : Int) = 10) := by decide +kernel
theorem tst_5 : ∀ n : Fin 65, tstB 17247241216 n.val = (((decide ((n.val : Int) = 10) || decide ((n.val : Int) = 18)) || decide ((n.val : Int) = 26)) || decide ((n.val : Int) = 34)) := by decide +kernel
theorem tst_big {t : Int} {n : Nat} (h : 64 ≤ n) : tstB t n = tstB t 64 := by
  unfold tstB
  have e : min ((n : Nat) : Int).toNat IntKind.u64.bits = min ((64 : Nat) : Int).toNat IntKind.u64.bits := by
    show min n 64 = min 64 64
    omega
  rw [e]; rfl
theorem right_len {k n : Int} (hk : 0 ≤ k) (hn : 2 ≤ n) : rightB k n = refLen k n := by
  obtain ⟨m, rfl⟩ := Int.eq_ofNat_of_zero_le (show 0 ≤ n by omega)
  have key : ∀ (t : Int) (f : Int → Bool), (∀ j : Fin 65, tstB t j.val = f j.val) → (∀ j : Nat, 64 ≤ j → f j = f 64) → tstB t (m : Int) = f m := by
    intro t f h1 h2
    rcases Nat.lt_or_ge m 65 with h | h
    · exact h1 ⟨m, h⟩
    · rw [tst_big (by omega), h2 m (by omega)]; exact h1 ⟨64, by decide⟩
  unfold rightB refLen
  rcases Int.lt_or_le k 9 with h9 | h9
  · obtain ⟨j, rfl⟩ := Int.eq_ofNat_of_zero_le hk
    have hj : j < 9 := by omega
    have e9 : decide ((9 : Int) ≤ (j : Int)) = false := decide_eq_false (by omega)
    rw [e9, Int.toNat_natCast, Bool.false_or]
    rcases j with _ | _ | _ | _ | _ | _ | _ | _ | _ | j
    · simp [lenT]; omega
    · simp [lenT]; omega
    · simpa [lenT] using key 16 (fun n => decide (n = 4)) tst_16 (fun j hj => by simp only [decide_eq_decide]; omega)
    · simpa [lenT] using key 8 (fun n => decide (n = 3)) tst_8 (fun j hj => by simp only [decide_eq_decide]; omega)
    · simpa [lenT] using key 4 (fun n => decide (n = 2)) tst_4 (fun j hj => by simp only [decide_eq_decide]; omega)
    · have := key 17247241216 (fun n => (((decide (n = 10) || decide (n = 18)) || decide (n = 26)) || decide (n = 34))) tst_5 (fun j hj => by
        have a1 : decide ((j : Int) = 10) = false := decide_eq_false (by omega)
        have a2 : decide ((j : Int) = 18) = false := decide_eq_false (by omega)
        have a3 : decide ((j : Int) = 26) = false := decide_eq_false (by omega)
        have a4 : decide ((j : Int) = 34) = false := decide_eq_false (by omega)
        simp only [a1, a2, a3, a4]; decide)
      simpa [lenT] using this
    · simp [lenT]; omega
    · simp [lenT]; omega
    · simpa [lenT] using key 1024 (fun n => decide (n = 10)) tst_1024 (fun j hj => by simp only [decide_eq_decide]; omega)
    · omega
  · rw [decide_eq_true h9, if_neg (by omega), if_neg (by omega), if_neg (by omega), if_neg (by omega), if_neg (by omega), Bool.true_or, Bool.true_or, decide_eq_true hn]
def beN (v : Int) (n : Nat) : List Int := (List.range n).map fun i => v / 256 ^ (n - 1 - i) % 256
def toldB (o : Opt) : Bool := decide (o.kind = 2) && decide (o.data.length = 2)
def toldN (o : Opt) : Int := if toldB o = true then wd2 o.data 0 else 0
theorem lenT_at {j : Nat} (h : j < 9) : (lenT.map u64)[j]? = some (u64 (lenT.getD j 0)) := by
  have h2 : j < lenT.length := h
  rw [List.getElem?_map, List.getElem?_eq_getElem h2, List.getD_eq_getElem?_getD, List.getElem?_eq_getElem h2]; rfl
theorem gvS {N : List Nat} {w : World} {g : Nat} {T : TypeId} {c : List Value} (h : GV N w g T c) : Sl N w 1 (.slice (some ⟨g, 0, none⟩) c.length c.length) c.length c := ⟨by simp, _, _, rfl, Nat.le_refl _, fun e => (nomatch e), h⟩
set_option maxHeartbeats 1000000 in
theorem c123 (s d : IP) (w : World) (hs : s.ok) (ht : d.ok) :
  CallsD Tryd.prog 123 #[.agg (encIP s).toArray, .agg (encIP d).toArray] w (.int .i64 (fitE s d)) := by
 refine enter Tryd.func123 rfl Tryd.ntmps123 (l := [(0, [], _), (1, [], _)]) rfl rfl ?_
 have S := St.refl [] w
 refine Run.seq ?_
 refine Run.region ?_
 refine boxA rfl S rfl ?_
 intro b2 w1 hb2 S B_
 refine boxA rfl S rfl ?_
 intro b3 w2 hb3 S B_
 refine asg1 rfl rfl ?_
 refine Ro.nil ?_
 refine Nrm.code ?_
 refine Run.seq ?_
 refine Run.region ?_
 refine ldW rfl T24 S (i := 1) rfl rfl rfl rfl rfl ?_
 refine ldW rfl T24 S (i := 0) rfl rfl rfl rfl rfl ?_
 refine call (vs := [_, _, _, _]) ⟨⟨_, _, rfl, rfl⟩, ⟨_, _, rfl, rfl⟩, ⟨_, _, rfl, rfl⟩, ⟨_, _, rfl, rfl⟩, trivial⟩ k58 rfl (c58 _ _ _ _ _ hs ht (by unfold inI; omega)) ?_
 rintro _ w3 ⟨u5, rfl, hF⟩
 have S := S.fb hF
 refine mv1 rfl rfl ?_
 refine extr1 rfl rfl rfl ?_
 refine extr1 rfl rfl rfl ?_
 refine asg1 rfl rfl ?_
 refine asg1 rfl rfl ?_
 refine Ro.nil ?_
 refine Nrm.code ?_
 refine Run.seq ?_
 refine Run.region ?_
 refine mv1 rfl rfl ?_
 refine asg1 rfl rfl ?_
 refine Ro.nil ?_
 refine Nrm.code ?_
 refine Run.ret ?_
 refine Rt.one rfl rfl ?_
 exact ⟨by first | (rw [← pse_fit]; done) | (rw [← pse_fit]; rfl), S.bl⟩
set_option maxHeartbeats 1000000 in
theorem c124 (s d : IP) (p : Int) (v : Value) (b : List Int) (w : World) (hs : s.ok) (ht : d.ok) (hb : BS [] w v b) (hl : b.length ≤ 65535) (he : pseE s d p b.length = 0) :
  CallsD Tryd.prog 124 #[.agg (encIP s).toArray, .agg (encIP d).toArray, .int .i64 p, v] w (.bool (decide (psum s d p b = 65535))) := by
 refine enter Tryd.func124 rfl Tryd.ntmps124 (l := [(0, [], _), (1, [], _), (2, [], _), (3, [], _)]) rfl rfl ?_
 have S := St.refl [] w
 refine Run.seq ?_
 refine Run.region ?_
 refine boxA rfl S rfl ?_
 intro b4 w1 hb4 S B_
 refine boxA rfl S rfl ?_
 intro b5 w2 hb5 S B_
 refine asg1 rfl rfl ?_
 refine Ro.nil ?_
 refine Nrm.code ?_
 refine Run.seq ?_
 refine Run.region ?_
 refine ldW rfl T24 S (i := 1) rfl rfl rfl rfl rfl ?_
 refine ldW rfl T24 S (i := 0) rfl rfl rfl rfl rfl ?_
 refine mv1 rfl rfl ?_
 refine mv1 rfl rfl ?_
 refine lenS rfl hb.2 Tryd.underlying26 rfl rfl rfl ?_
 refine call (vs := [_, _, _, _]) ⟨⟨_, _, rfl, rfl⟩, ⟨_, _, rfl, rfl⟩, ⟨_, _, rfl, rfl⟩, ⟨_, _, rfl, rfl⟩, trivial⟩ k58 rfl (c58 _ _ _ _ _ hs ht (by unfold inI; omega)) ?_
 rintro _ w3 ⟨up, rfl, hF⟩
 have S := S.fb hF
 refine mv1 rfl rfl ?_
 refine extr1 rfl rfl rfl ?_
 refine extr1 rfl rfl rfl ?_
 refine asg1 rfl rfl ?_
 refine asg1 rfl rfl ?_
 refine Ro.nil ?_
 refine Nrm.code ?_
 refine Run.seq ?_
 refine Run.region ?_
 refine mv1 rfl rfl ?_
 refine eql1 rfl rfl rfl ?_
 refine mv1 rfl rfl ?_
 refine mv rfl rfl rfl rfl ?_
 refine Ro.strip (by simp [allT, he]) ?_
 refine mv rfl rfl rfl rfl ?_
 refine Ro.strip (by simp [allT, he]) ?_
 refine Ro.gtrue rfl (by simp [allT, he]) ?_
 refine bsl e102 (qs := [(_, _), (_, _)]) ⟨⟨_, _, _, rfl, rfl, cells1 (S.slI (i := 0) rfl).one, rfl, List.cons_ne_nil _ _⟩, ⟨_, _, _, rfl, rfl, cells1 hb.one, rfl, List.cons_ne_nil _ _⟩, trivial⟩ rfl rfl rfl rfl S ?_
 intro u25 w4 S B_
 refine Ro.gtrue rfl (by simp [allT, he]) ?_
 have hck : CallsD Tryd.prog 36 #[u25] w4 (.bool (decide (psum s d p b = 65535))) := by
  have := c36 u25 [pseL s d p b.length, b] w4 ⟨[_, _], S.slI (i := 0) rfl, S.bsI (i := 1) rfl (pseL_byt hs ht _ _), hb.now S, trivial⟩ (by have := (pseL_len s d p b.length).1; simp; omega) (by simp)
  rw [show [pseL s d p b.length, b].flatten = pseL s d p b.length ++ b from by simp] at this
  exact this
 refine calg (vs := [_]) rfl ⟨⟨_, _, rfl, rfl⟩, trivial⟩ k36 rfl (fun hG => hck) ?_
 intro w5 B_; have S := S.call B_
 refine pkA rfl rfl rfl rfl rfl rfl ?_
 refine asg1 rfl rfl ?_
 refine Ro.nil ?_
 refine Nrm.code ?_
 refine Run.ret ?_
 refine Rt.one rfl rfl ?_
 exact ⟨by rw [he]; simp, S.bl⟩
set_option maxHeartbeats 1000000 in
theorem c127 (k n : Int) (w : World) (hk : 0 ≤ k) (hn : 0 ≤ n ∧ n ≤ 1099511627776) (hg : GV [] w 3 183 (lenT.map u64)) :
  CallsD Tryd.prog 127 #[.int .i64 k, .int .i64 n] w (.bool (rightB k n)) := by
 refine enter Tryd.func127 rfl Tryd.ntmps127 (l := [(0, [], _), (1, [], _)]) rfl rfl ?_
 have S := St.refl [] w
 refine Run.seq ?_
 refine Run.region ?_
 refine asg1 rfl rfl ?_
 refine Ro.nil ?_
 refine Nrm.code ?_
 refine Run.seq ?_
 refine Run.region ?_
 refine mv1 rfl rfl ?_
 refine geq1 rfl rfl rfl ?_
 refine mv1 rfl rfl ?_
 refine mv rfl rfl rfl rfl ?_
 refine ixP rfl rfl Tryd.underlying183 T182 rfl rfl rfl rfl (fun hG => by (simp [allT] at hG); omega) rfl ?_
 refine ldE (v := .slice (some ⟨3, 0, none⟩) 9 9) (u := u64 (lenT.getD k.toNat 0)) rfl (gvS hg) S T182 rfl rfl rfl (fun hG => by have hk9 : k.toNat < 9 := (by (simp [allT] at hG); omega); have h9 := lenT_at hk9; rw [Nat.mul_one]; exact h9) ?_
 refine eql rfl rfl rfl rfl rfl rfl ?_
 refine pkO rfl rfl rfl rfl rfl rfl ?_
 refine mv1 rfl rfl ?_
 refine mv rfl rfl rfl rfl ?_
 refine ixP rfl rfl Tryd.underlying183 T182 rfl rfl rfl rfl (fun hG => by (simp [allT] at hG); omega) rfl ?_
 refine ldE (v := .slice (some ⟨3, 0, none⟩) 9 9) (u := u64 (lenT.getD k.toNat 0)) rfl (gvS hg) S T182 rfl rfl rfl (fun hG => by have hk9 : k.toNat < 9 := (by (simp [allT] at hG); omega); have h9 := lenT_at hk9; rw [Nat.mul_one]; exact h9) ?_
 refine mv rfl rfl rfl rfl ?_
 refine cvi rfl rfl rfl rfl Tryd.underlying3 Tryd.underlying135 (fun hG => by first | exact wu64 (by omega) | (simp [allT] at hG; exact wu64 (by omega))) ?_
 refine shr rfl rfl rfl rfl rfl rfl (fun hG => by first | exact by omega | (simp [allT] at hG; exact by omega)) (fun hG => by first | exact rfl | (simp [allT] at hG; exact rfl)) ?_
 refine band rfl rfl rfl rfl rfl rfl (fun hG => by first | exact rfl | (simp [allT] at hG; exact rfl)) ?_
 refine eql rfl rfl rfl rfl rfl rfl ?_
 refine pkO rfl rfl rfl rfl rfl rfl ?_
 refine asg1 rfl rfl ?_
 refine Ro.nil ?_
 refine Nrm.code ?_
 refine Run.ret ?_
 refine Rt.one rfl rfl ?_
 exact ⟨rfl, S.bl⟩
end Go.Proofs.YtkahmepenjhcpaaDoor.W
/- Contracts: numbers written, what an option tells. No statement of the seat is proved here. -/
namespace Go.Proofs.YtkahmepenjhcpaaDoor.W
open Go
set_option linter.unusedSimpArgs false
set_option linter.unusedVariables false
def jp (n j : Nat) (p : Int) : Prop := (n = j ∧ p = 0) ∨ (n = j + 1 ∧ p = 1) ∨ (n = j + 2 ∧ p = 256) ∨ (n = j + 3 ∧ p = 65536) ∨ (n = j + 4 ∧ p = 16777216)
set_option maxHeartbeats 1000000 in
theorem c128 (o : Opt) (v : Value) (w : World) (hb : BS [] w v o.data) :
    CallsD Tryd.prog 128 #[.agg #[i64 o.kind, v]] w (.tuple #[.int .i64 (toldN o), .bool (toldB o)]) := by
  refine enter Tryd.func128 rfl Tryd.ntmps128 (l := [(0, [], _)]) rfl rfl ?_
  have S := St.refl [] w
  refine Run.seq ?_
  refine Run.region ?_
  refine boxA rfl S rfl ?_
  intro b1 w1 hb1 S B_
  refine asg1 rfl rfl ?_
  refine asg1 rfl rfl ?_
  refine Ro.nil ?_
  refine Nrm.code ?_
  refine Run.seq ?_
  refine Run.seq ?_
  refine Run.region ?_
  refine fld (o' := 0) rfl fo93_0 rfl rfl rfl rfl ?_
  refine ld1 rfl T3 S (i := 0) rfl rfl rfl rfl rfl ?_
  refine neq1 rfl rfl rfl ?_
  refine mv1 rfl rfl ?_
  refine fld (o' := 1) rfl fo93_1 rfl rfl rfl rfl ?_
  refine ld1 rfl T26 S (i := 0) rfl rfl rfl rfl rfl ?_
  refine lenS rfl hb.2 Tryd.underlying26 rfl rfl rfl ?_
  refine neq rfl rfl rfl rfl rfl rfl ?_
  refine pkO rfl rfl rfl rfl rfl rfl ?_
  refine Ro.nil ?_
  refine Nrm.code ?_
  refine Run.cond rfl (fun hc1 => ?_) (fun hc1 => ?_)
  ·
    try simp only [Bool.or_eq_true, Bool.and_eq_true, Bool.or_eq_false_iff, Bool.and_eq_false_iff, decide_eq_true_eq, decide_eq_false_iff_not, Bool.not_eq_true', Bool.not_eq_false', Bool.not_eq_true, Bool.not_eq_false] at hc1
    refine Run.seq ?_
    refine Run.region ?_
    refine asg1 rfl rfl ?_
    refine asg1 rfl rfl ?_
    refine Ro.nil ?_
    refine Nrm.code ?_
    refine Run.ret ?_
    refine Rt.two rfl rfl rfl ?_
    have ht : toldB o = false := by
      unfold toldB
      rcases hc1 with h | h
      · simp [h]
      · have h2 : ¬ o.data.length = 2 := by omega
        simp [h2]
    exact ⟨by unfold toldN; rw [ht]; rfl, S.bl⟩
  ·
    try simp only [Bool.or_eq_true, Bool.and_eq_true, Bool.or_eq_false_iff, Bool.and_eq_false_iff, decide_eq_true_eq, decide_eq_false_iff_not, Bool.not_eq_true', Bool.not_eq_false', Bool.not_eq_true, Bool.not_eq_false] at hc1
    refine Run.skip ?_
    refine Nrm.code ?_
    refine Run.seq ?_
    refine Run.draw (by kernel_rfl) (by kernel_rfl) S ?_
    refine qfld (o' := 1) rfl fo93_1 rfl rfl rfl rfl ?_
    refine qld1 rfl T26 (fun _ S => S) (i := 0) rfl rfl rfl rfl rfl ?_
    refine qixa rfl rfl hb.2 e26 rfl rfl rfl rfl (fun _ => by first | omega | (simp only [List.length_cons, List.length_nil]; omega)) ?_
    refine qldB rfl hb (fun _ S => S) T5 rfl rfl rfl (fun _ => by omega) ?_
    intro q16 hq16 hbq16
    try simp only [Int.toNat_natCast, Nat.mul_one, Int.reduceToNat] at hq16
    refine qcvi rfl rfl rfl rfl Tryd.underlying5 Tryd.underlying3 (fun _ => w64 (by omega)) ?_
    refine qshl rfl rfl rfl rfl rfl rfl (fun _ => by decide) (fun _ => sl8 (by omega)) ?_
    refine qfld (o' := 1) rfl fo93_1 rfl rfl rfl rfl ?_
    refine qld1 rfl T26 (fun _ S => S) (i := 0) rfl rfl rfl rfl rfl ?_
    refine qixa rfl rfl hb.2 e26 rfl rfl rfl rfl (fun _ => by first | omega | (simp only [List.length_cons, List.length_nil]; omega)) ?_
    refine qldB rfl hb (fun _ S => S) T5 rfl rfl rfl (fun _ => by omega) ?_
    intro q22 hq22 hbq22
    try simp only [Int.toNat_natCast, Nat.mul_one, Int.reduceToNat] at hq22
    refine qcvi rfl rfl rfl rfl Tryd.underlying5 Tryd.underlying3 (fun _ => w64 (by omega)) ?_
    refine qbor rfl rfl rfl rfl rfl rfl (fun _ => or8 (by omega) (by omega)) ?_
    refine qasg rfl rfl rfl rfl ?_
    refine qasg rfl rfl rfl rfl ?_
    refine Qo.nil (fun w2 S => ?_)
    refine Nrm.code ?_
    refine Run.ret ?_
    refine Rt.two rfl rfl rfl ?_
    have ht : toldB o = true := by unfold toldB; simp; omega
    have e1 : q16 = o.data.getD 0 0 := hq16
    have e2 : q22 = o.data.getD 1 0 := hq22
    exact ⟨by unfold toldN; rw [ht, e1, e2]; rfl, S.bl⟩
end Go.Proofs.YtkahmepenjhcpaaDoor.W
/- Plain facts on headers: what the fields of a datagram's first twelve bytes are. No program walked here; no statement of the seat is proved here. -/
namespace Go.Proofs.YtkahmepenjhcpaaDoor.W
set_option linter.unusedVariables false
set_option linter.unusedSimpArgs false
def totI (b : List Int) : Int := b.getD 2 0 * 256 + b.getD 3 0
def offW (b : List Int) : Int := b.getD 6 0 % 32 * 256 + b.getD 7 0
theorem fv16 {l : List Int} (j : Nat) (h : ∀ k, 0 ≤ l.getD k 0 ∧ l.getD k 0 < 256) : fv l (8 * j) 16 = l.getD j 0 * 256 + l.getD (j + 1) 0 := by
  have e := fv_add l (8 * j) 8 8
  rw [show (8 + 8 : Nat) = 16 from rfl, fv8 j (h j), show 8 * j + 8 = 8 * (j + 1) from by omega, fv8 (j + 1) (h (j + 1))] at e
  rw [e]; rfl
theorem fields_ip4 {b : List Int} (h : ∀ k, 0 ≤ b.getD k 0 ∧ b.getD k 0 < 256) : fieldsS b 0 [4, 4, 8, 16, 16, 1, 1, 1, 13, 8, 8, 16] =
    [b.getD 0 0 / 16, b.getD 0 0 % 16, b.getD 1 0, totI b, b.getD 4 0 * 256 + b.getD 5 0, b.getD 6 0 / 128, b.getD 6 0 / 64 % 2, b.getD 6 0 / 32 % 2, offW b, b.getD 8 0, b.getD 9 0, b.getD 10 0 * 256 + b.getD 11 0] := by
  have e0 := fvp (l := b) 0 0 4 (h 0) (by omega)
  have e1 := fvp (l := b) 0 4 4 (h 0) (by omega)
  have e2 := fv8 (l := b) 1 (h 1)
  have e3 := fv16 (l := b) 2 h
  have e4 := fv16 (l := b) 4 h
  have e5 := fvp (l := b) 6 0 1 (h 6) (by omega)
  have e6 := fvp (l := b) 6 1 1 (h 6) (by omega)
  have e7 := fvp (l := b) 6 2 1 (h 6) (by omega)
  have e8 := fv_add b 51 5 8
  have e8a := fvp (l := b) 6 3 5 (h 6) (by omega)
  have e8b := fv8 (l := b) 7 (h 7)
  have e9 := fv8 (l := b) 8 (h 8)
  have e10 := fv8 (l := b) 9 (h 9)
  have e11 := fv16 (l := b) 10 h
  have g0 := h 0
  have g6 := h 6
  simp only [Nat.mul_zero, Nat.add_zero, Nat.zero_add, Nat.reduceMul, Nat.reduceAdd, Nat.reduceSub, Int.reducePow] at e0 e1 e2 e3 e4 e5 e6 e7 e8 e8a e8b e9 e10 e11
  simp only [fieldsS, Int.reduceToNat, Int.toNat_one, Nat.zero_add, Nat.reduceAdd, e0, e1, e2, e3, e4, e5, e6, e7, e8, e8a, e8b, e9, e10, e11, Int.ediv_one, List.cons.injEq, and_true, totI, offW]
  refine ⟨?_, trivial, trivial, trivial, trivial, ?_⟩ <;> omega
end Go.Proofs.YtkahmepenjhcpaaDoor.W
/- Contracts: UDP read, checked, compared. No statement of the seat is proved here. -/
namespace Go.Proofs.YtkahmepenjhcpaaDoor.W
open Go
set_option linter.unusedSimpArgs false
set_option linter.unusedVariables false
abbrev W16 : List Int := [16, 16, 16, 16]
def lenU (b : List Int) : Nat := (wd2 b 4).toNat
theorem wd2_bd {b : List Int} (h : byt b) (i : Nat) : 0 ≤ wd2 b i ∧ wd2 b i < 65536 := by
  have h1 := byt_getD h i
  have h2 := byt_getD h (i + 1)
  unfold wd2; omega
theorem fields_udp {b : List Int} (h : byt b) : fieldsS b 0 W16 = [wd2 b 0, wd2 b 2, (lenU b : Int), wd2 b 6] := by
  have hB := byt_getD h
  have e4 : wd2 b 4 = (lenU b : Int) := by have := wd2_bd h 4; unfold lenU; omega
  rw [← e4]
  simp only [fieldsS]
  have f0 := fv16 0 hB
  have f2 := fv16 2 hB
  have f4 := fv16 4 hB
  have f6 := fv16 6 hB
  simp only [wd2]
  rw [show (0 : Nat) = 8 * 0 from rfl, show (16 : Int).toNat = 16 from rfl]
  simp only [Nat.mul_zero, Nat.zero_add, List.cons.injEq, and_true]
  exact ⟨f0, f2, f4, f6⟩
def udpE (s d : IP) (b : List Int) : Int :=
  if 65535 < b.length then 2 else if fitE s d ≠ 0 then fitE s d else if b.length < 8 then 91 else if lenU b < 8 ∨ b.length < lenU b then 92
  else if wd2 b 6 = 0 then (if s.v = 6 then 93 else 0) else if psum s d 17 (b.take (lenU b)) ≠ 65535 then 93 else 0
def udpG (b : List Int) : Udp := ⟨wd2 b 0, wd2 b 2, decide (wd2 b 6 = 0), (b.drop 8).take (lenU b - 8)⟩
def u00 : Udp := ⟨0, 0, false, []⟩
def udpU (s d : IP) (b : List Int) : Udp := if udpE s d b = 0 then udpG b else u00
theorem udp_err {s d : IP} {b : List Int} {e : Int} (he : udpE s d b = e) (h0 : e ≠ 0) : udpU s d b = u00 := by unfold udpU; rw [if_neg (by omega)]
theorem udpE_bd (s d : IP) (b : List Int) : 0 ≤ udpE s d b ∧ udpE s d b ≤ 93 := by
  have := fitE_or s d
  unfold udpE; (repeat' split) <;> omega
def sameU (a b : Udp) : Bool := ((decide (a.sport = b.sport) && decide (a.dport = b.dport)) && (a.nosum == b.nosum)) && decide (a.data = b.data)
def badU (v : Int) (u : Udp) : Bool := (outN u.sport 65535 || outN u.dport 65535) || (u.nosum && decide (v = 6))
def chkU (v : Int) (u : Udp) : Int := if v ≠ 4 ∧ v ≠ 6 then 20 else if badU v u = true then 98 else if 65527 < u.data.length then 2 else 0
theorem chkU_bd (v : Int) (u : Udp) : 0 ≤ chkU v u ∧ chkU v u ≤ 98 := by unfold chkU; (repeat' split) <;> omega
def putUE (s d : IP) (u : Udp) : Int := if fitE s d = 0 then chkU s.v u else fitE s d
theorem putUE_bd (s d : IP) (u : Udp) : 0 ≤ putUE s d u ∧ putUE s d u ≤ 98 := by
  have := fitE_or s d
  have := chkU_bd s.v u
  unfold putUE; split <;> omega
theorem chkU_zero {v : Int} {u : Udp} (h : chkU v u = 0) : (v = 4 ∨ v = 6) ∧ 0 ≤ u.sport ∧ u.sport ≤ 65535 ∧ 0 ≤ u.dport ∧ u.dport ≤ 65535 ∧ u.data.length ≤ 65527 ∧ (u.nosum = true → v = 4) := by
  unfold chkU at h
  by_cases h1 : v ≠ 4 ∧ v ≠ 6
  · rw [if_pos h1] at h; omega
  rw [if_neg h1] at h
  by_cases h2 : badU v u = true
  · rw [if_pos h2] at h; omega
  rw [if_neg h2] at h
  by_cases h3 : 65527 < u.data.length
  · rw [if_pos h3] at h; omega
  simp only [badU, outN, Bool.or_eq_true, Bool.and_eq_true, decide_eq_true_eq, not_or, not_and] at h2
  refine ⟨by omega, by omega, by omega, by omega, by omega, by omega, fun hn => ?_⟩
  have := h2.2 hn
  omega
theorem putUE_zero {s d : IP} {u : Udp} (h : putUE s d u = 0) : fitE s d = 0 ∧ chkU s.v u = 0 := by
  have := fitE_or s d
  unfold putUE at h
  by_cases h1 : fitE s d = 0
  · rw [if_pos h1] at h; exact ⟨h1, h⟩
  · rw [if_neg h1] at h; omega
def udp8 (u : Udp) : List Int := [u.sport / 256, u.sport % 256, u.dport / 256, u.dport % 256, (8 + (u.data.length : Int)) / 256, (8 + (u.data.length : Int)) % 256, 0, 0]
def udpB0 (u : Udp) : List Int := udp8 u ++ u.data
def udpC (s d : IP) (u : Udp) : Int := if 65535 - psum s d 17 (udpB0 u) = 0 then 65535 else 65535 - psum s d 17 (udpB0 u)
def putUB (s d : IP) (u : Udp) : List Int := if u.nosum = true then udpB0 u else ((udpB0 u).set 6 (udpC s d u / 256)).set 7 (udpC s d u % 256)
def putUL (s d : IP) (u : Udp) : List Int := if putUE s d u = 0 then putUB s d u else []
theorem udpB0_len (u : Udp) : (udpB0 u).length = 8 + u.data.length := by simp [udpB0, udp8]; omega
theorem udp8_byt {v : Int} {u : Udp} (h : chkU v u = 0) : byt (udp8 u) := by
  have := chkU_zero h
  intro x hx
  simp only [udp8, List.mem_cons, List.not_mem_nil, or_false] at hx
  rcases hx with rfl | rfl | rfl | rfl | rfl | rfl | rfl | rfl <;> omega
theorem udpB0_byt {v : Int} {u : Udp} (h : chkU v u = 0) (hd : byt u.data) : byt (udpB0 u) := byt_app (udp8_byt h) hd
theorem udpC_bd {s d : IP} {u : Udp} (hs : s.ok) (ht : d.ok) (hb : byt (udpB0 u)) : 0 ≤ udpC s d u ∧ udpC s d u ≤ 65535 := by
  have := psum_bd (p := 17) hs ht hb
  unfold udpC; split <;> omega
theorem udp8_bits {v : Int} {u : Udp} (h : chkU v u = 0) : bitsB (udp8 u) = strm W16 [u.sport, u.dport, 8 + (u.data.length : Int), 0] := by
  have := chkU_zero h
  have e : udp8 u = [u.sport / 256, u.sport % 256] ++ [u.dport / 256, u.dport % 256] ++ [(8 + (u.data.length : Int)) / 256, (8 + (u.data.length : Int)) % 256] ++ [(0 : Int) / 256, (0 : Int) % 256] := rfl
  rw [e, bitsB_app, bitsB_app, bitsB_app, ← bitsOf_16 (by omega), ← bitsOf_16 (by omega), ← bitsOf_16 (by omega), ← bitsOf_16 (by omega)]
  simp only [strm, List.append_nil, List.append_assoc]
  rfl
theorem udp8_pack {v : Int} {u : Udp} (h : chkU v u = 0) : ∀ i, i < W16.length → 0 ≤ [u.sport, u.dport, 8 + (u.data.length : Int), 0].getD i 0 ∧ [u.sport, u.dport, 8 + (u.data.length : Int), 0].getD i 0 < 2 ^ (W16.getD i 0).toNat := by
  have := chkU_zero h
  intro i hi
  rcases i with _ | _ | _ | _ | i
  all_goals first
    | (simp only [W16, List.getD_cons_zero, List.getD_cons_succ, Int.reducePow, Int.reduceToNat]; omega)
    | (exfalso; simp at hi; omega)
set_option maxHeartbeats 1000000 in
theorem c57 (s d : IP) (v : Value) (b : List Int) (w : World) (hs : s.ok) (ht : d.ok) (hb : BS [] w v b) (hg1 : GV [] w 1 163 (W16.map i64)) :
    CallsV Tryd.prog 57 #[.agg (encIP s).toArray, .agg (encIP d).toArray, v] w (fun r w' => ∃ dv, r = .tuple #[.agg (encUdp (udpU s d b) dv).toArray, .int .i64 (udpE s d b)] ∧ Bl w w' ∧ ∀ N w1, BS N w1 v b → BS N w1 dv (udpU s d b).data) := by
  refine enter Tryd.func57 rfl Tryd.ntmps57 (l := [(0, [], _), (1, [], _), (2, [], _)]) rfl rfl ?_
  have S := St.refl [] w
  have hB := byt_getD hb.1
  have hfl := fields_udp hb.1
  have hLU : wd2 b 4 = (lenU b : Int) := by have := wd2_bd hb.1 4; unfold lenU; omega
  have hLb := wd2_bd hb.1 4
  have hfo := fitE_or s d
  refine Run.seq ?_
  refine Run.region ?_
  refine boxA rfl S rfl ?_
  intro b3 w1 hb3 S B_
  refine boxA rfl S rfl ?_
  intro b4 w2 hb4 S B_
  refine alc T73 S rfl ?_
  intro b6 w3 hb6 S B_
  refine asg1 rfl rfl ?_
  refine Ro.nil ?_
  refine Nrm.code ?_
  refine Run.seq ?_
  refine Run.seq ?_
  refine Run.region ?_
  refine mv1 rfl rfl ?_
  refine lenS rfl hb.2 Tryd.underlying26 rfl rfl rfl ?_
  refine gtr1 rfl rfl rfl ?_
  refine Ro.nil ?_
  refine Nrm.code ?_
  refine Run.cond rfl (fun hc1 => ?_) (fun hc1 => ?_)
  ·
    try simp only [Bool.or_eq_true, Bool.and_eq_true, Bool.or_eq_false_iff, Bool.and_eq_false_iff, decide_eq_true_eq, decide_eq_false_iff_not, Bool.not_eq_true', Bool.not_eq_false', Bool.not_eq_true, Bool.not_eq_false] at hc1
    refine Run.seq ?_
    refine Run.region ?_
    refine bld B73 (qs := []) trivial rfl rfl rfl ?_
    refine stW rfl rfl T73 rfl rfl (by simp [Value.oneCell']) S (i := 0) rfl rfl ?_
    intro w4 S
    refine asg1 rfl rfl ?_
    refine Ro.nil ?_
    refine Nrm.code ?_
    refine Run.ret ?_
    refine Rt.cell2 rfl rfl rfl T73 S (i := 0) rfl rfl ?_
    have he : udpE s d b = 2 := by
      unfold udpE
      rw [if_pos (by omega)]
    exact ⟨.slice none 0 0, by rw [udp_err he (by omega), he]; rfl, S.bl, fun _ _ _ => by rw [udp_err he (by omega)]; exact BS.nil _ _⟩
  ·
    try simp only [Bool.or_eq_true, Bool.and_eq_true, Bool.or_eq_false_iff, Bool.and_eq_false_iff, decide_eq_true_eq, decide_eq_false_iff_not, Bool.not_eq_true', Bool.not_eq_false', Bool.not_eq_true, Bool.not_eq_false] at hc1
    refine Run.skip ?_
    refine Nrm.code ?_
    refine Run.seq ?_
    refine Run.seq ?_
    refine Run.region ?_
    refine ldW rfl T24 S (i := 2) rfl rfl rfl rfl rfl ?_
    refine ldW rfl T24 S (i := 1) rfl rfl rfl rfl rfl ?_
    refine calg (vs := [_, _]) rfl ⟨⟨_, _, rfl, rfl⟩, ⟨_, _, rfl, rfl⟩, trivial⟩ k123 rfl (fun hG => c123 s d _ hs ht) ?_
    intro w4 B_; have S := S.call B_
    refine asg1 rfl rfl ?_
    refine Ro.nil ?_
    refine Nrm.code ?_
    refine Run.seq ?_
    refine Run.region ?_
    refine mv1 rfl rfl ?_
    refine neq1 rfl rfl rfl ?_
    refine Ro.nil ?_
    refine Nrm.code ?_
    refine Run.cond rfl (fun hc4 => ?_) (fun hc4 => ?_)
    ·
      try simp only [Bool.or_eq_true, Bool.and_eq_true, Bool.or_eq_false_iff, Bool.and_eq_false_iff, decide_eq_true_eq, decide_eq_false_iff_not, Bool.not_eq_true', Bool.not_eq_false', Bool.not_eq_true, Bool.not_eq_false] at hc4
      refine Run.seq ?_
      refine Run.region ?_
      refine bld B73 (qs := []) trivial rfl rfl rfl ?_
      refine mv1 rfl rfl ?_
      refine stW rfl rfl T73 rfl rfl (by simp [Value.oneCell']) S (i := 0) rfl rfl ?_
      intro w5 S
      refine asg1 rfl rfl ?_
      refine Ro.nil ?_
      refine Nrm.code ?_
      refine Run.ret ?_
      refine Rt.cell2 rfl rfl rfl T73 S (i := 0) rfl rfl ?_
      have he : udpE s d b = fitE s d := by
        unfold udpE
        rw [if_neg (by omega), if_pos (by omega)]
      exact ⟨.slice none 0 0, by rw [udp_err he (by omega), he]; rfl, S.bl, fun _ _ _ => by rw [udp_err he (by omega)]; exact BS.nil _ _⟩
    ·
      try simp only [Bool.or_eq_true, Bool.and_eq_true, Bool.or_eq_false_iff, Bool.and_eq_false_iff, decide_eq_true_eq, decide_eq_false_iff_not, Bool.not_eq_true', Bool.not_eq_false', Bool.not_eq_true, Bool.not_eq_false] at hc4
      refine Run.skip ?_
      refine Nrm.code ?_
      refine Run.seq ?_
      refine Run.seq ?_
      refine Run.region ?_
      refine mv1 rfl rfl ?_
      refine lenS rfl hb.2 Tryd.underlying26 rfl rfl rfl ?_
      refine lss1 rfl rfl rfl ?_
      refine Ro.nil ?_
      refine Nrm.code ?_
      refine Run.cond rfl (fun hc6 => ?_) (fun hc6 => ?_)
      ·
        try simp only [Bool.or_eq_true, Bool.and_eq_true, Bool.or_eq_false_iff, Bool.and_eq_false_iff, decide_eq_true_eq, decide_eq_false_iff_not, Bool.not_eq_true', Bool.not_eq_false', Bool.not_eq_true, Bool.not_eq_false] at hc6
        refine Run.seq ?_
        refine Run.region ?_
        refine bld B73 (qs := []) trivial rfl rfl rfl ?_
        refine stW rfl rfl T73 rfl rfl (by simp [Value.oneCell']) S (i := 0) rfl rfl ?_
        intro w5 S
        refine asg1 rfl rfl ?_
        refine Ro.nil ?_
        refine Nrm.code ?_
        refine Run.ret ?_
        refine Rt.cell2 rfl rfl rfl T73 S (i := 0) rfl rfl ?_
        have he : udpE s d b = 91 := by
          unfold udpE
          rw [if_neg (by omega), if_neg (by omega), if_pos (by omega)]
        exact ⟨.slice none 0 0, by rw [udp_err he (by omega), he]; rfl, S.bl, fun _ _ _ => by rw [udp_err he (by omega)]; exact BS.nil _ _⟩
      ·
        try simp only [Bool.or_eq_true, Bool.and_eq_true, Bool.or_eq_false_iff, Bool.and_eq_false_iff, decide_eq_true_eq, decide_eq_false_iff_not, Bool.not_eq_true', Bool.not_eq_false', Bool.not_eq_true, Bool.not_eq_false] at hc6
        refine Run.skip ?_
        refine Nrm.code ?_
        refine Run.seq ?_
        refine Run.region ?_
        refine ldG hg1 S T163 rfl rfl ?_
        refine alc T163 S rfl ?_
        intro b9 w5 hb9 S B_
        refine stW rfl rfl T163 rfl rfl (by simp [Value.oneCell']) S (i := 0) rfl rfl ?_
        intro w6 S
        refine Ro.nil ?_
        refine Nrm.code ?_
        refine Run.seq ?_
        refine Run.region ?_
        refine mv1 rfl rfl ?_
        refine slAT rfl Tryd.underlying163 T3 rfl rfl rfl (i2 := none) trivial rfl (by decide) (by decide) ?_
        refine call (vs := [_, _, _]) ⟨⟨_, _, rfl, rfl⟩, ⟨_, _, rfl, rfl⟩, ⟨_, _, rfl, rfl⟩, trivial⟩ k101 rfl (c101 _ _ _ W16 _ (hb.now S) (S.varSl (i := 0) (m := 4) (sz := 1) rfl rfl rfl (by decide)) (by decide) (by decide) (by decide) (by rw [show W16.sum / 8 = 8 from by decide]; omega) (by omega)) ?_
        rintro _ w7 ⟨u10, rfl, hF⟩
        rw [hfl] at hF
        have S := S.fi hF
        refine mv1 rfl rfl ?_
        refine extr1 rfl rfl rfl ?_
        refine extr1 rfl rfl rfl ?_
        refine extr1 rfl rfl rfl ?_
        refine asg1 rfl rfl ?_
        refine asg1 rfl rfl ?_
        refine asg1 rfl rfl ?_
        refine Ro.nil ?_
        refine Nrm.code ?_
        refine Run.seq ?_
        refine Run.draw (by kernel_rfl) (by kernel_rfl) S ?_
        refine qmv rfl rfl rfl rfl ?_
        refine qixa rfl rfl (S.slI (i := 0) rfl) e132 rfl rfl rfl rfl (fun _ => by first | omega | (simp only [List.length_cons, List.length_nil]; omega)) ?_
        refine qldR rfl (fun _ S => S) (i := 0) rfl T3 rfl rfl rfl (fun _ => rfl) ?_
        refine qmv rfl rfl rfl rfl ?_
        refine qixa rfl rfl (S.slI (i := 0) rfl) e132 rfl rfl rfl rfl (fun _ => by first | omega | (simp only [List.length_cons, List.length_nil]; omega)) ?_
        refine qldR rfl (fun _ S => S) (i := 0) rfl T3 rfl rfl rfl (fun _ => rfl) ?_
        refine qeql rfl rfl rfl rfl rfl rfl ?_
        refine qasg rfl rfl rfl rfl ?_
        refine qasg rfl rfl rfl rfl ?_
        refine Qo.nil (fun w8 S => ?_)
        refine Nrm.code ?_
        refine Run.seq ?_
        refine Run.block ?_
        refine Run.seq ?_
        refine Run.region ?_
        refine mv1 rfl rfl ?_
        refine lss1 rfl rfl rfl ?_
        refine mv1 rfl rfl ?_
        refine mv rfl rfl rfl rfl ?_
        refine mv rfl rfl rfl rfl ?_
        refine lenS rfl hb.2 Tryd.underlying26 rfl rfl rfl ?_
        refine gtr rfl rfl rfl rfl rfl rfl ?_
        refine pkO rfl rfl rfl rfl rfl rfl ?_
        refine asg1 rfl rfl ?_
        refine Ro.nil ?_
        refine Nrm.code ?_
        refine Run.cond rfl (fun hc11 => ?_) (fun hc11 => ?_)
        ·
          try simp only [Bool.or_eq_true, Bool.and_eq_true, Bool.or_eq_false_iff, Bool.and_eq_false_iff, decide_eq_true_eq, decide_eq_false_iff_not, Bool.not_eq_true', Bool.not_eq_false', Bool.not_eq_true, Bool.not_eq_false] at hc11
          refine Run.seq ?_
          refine Run.region ?_
          refine bld B73 (qs := []) trivial rfl rfl rfl ?_
          refine stW rfl rfl T73 rfl rfl (by simp [Value.oneCell']) S (i := 2) rfl rfl ?_
          intro w9 S
          refine asg1 rfl rfl ?_
          refine Ro.nil ?_
          refine Nrm.code ?_
          refine Run.ret ?_
          refine Rt.cell2 rfl rfl rfl T73 S (i := 2) rfl rfl ?_
          have he : udpE s d b = 92 := by
            unfold udpE
            rw [if_neg (by omega), if_neg (by omega), if_neg (by omega), if_pos (by omega)]
          exact ⟨.slice none 0 0, by rw [udp_err he (by omega), he]; rfl, S.bl, fun _ _ _ => by rw [udp_err he (by omega)]; exact BS.nil _ _⟩
        ·
          try simp only [Bool.or_eq_true, Bool.and_eq_true, Bool.or_eq_false_iff, Bool.and_eq_false_iff, decide_eq_true_eq, decide_eq_false_iff_not, Bool.not_eq_true', Bool.not_eq_false', Bool.not_eq_true, Bool.not_eq_false] at hc11
          refine Run.seq ?_
          refine Run.seq ?_
          refine Run.region ?_
          refine mv1 rfl rfl ?_
          refine mv1 rfl rfl ?_
          refine fld (o' := 0) rfl fo24_0 rfl rfl rfl rfl ?_
          refine ld1 rfl T3 S (i := 4) rfl rfl rfl rfl rfl ?_
          refine eql rfl rfl rfl rfl rfl rfl ?_
          refine pkA rfl rfl rfl rfl rfl rfl ?_
          refine asg1 rfl rfl ?_
          refine Ro.nil ?_
          refine Nrm.code ?_
          refine Run.cond rfl (fun hc13 => ?_) (fun hc13 => ?_)
          ·
            try simp only [Bool.or_eq_true, Bool.and_eq_true, Bool.or_eq_false_iff, Bool.and_eq_false_iff, decide_eq_true_eq, decide_eq_false_iff_not, Bool.not_eq_true', Bool.not_eq_false', Bool.not_eq_true, Bool.not_eq_false] at hc13
            have hA13 := hc13
            refine Run.skip ?_
            refine Nrm.code ?_
            refine Run.cond rfl (fun hc13 => ?_) (fun hc13 => ?_)
            ·
              try simp only [Bool.or_eq_true, Bool.and_eq_true, Bool.or_eq_false_iff, Bool.and_eq_false_iff, decide_eq_true_eq, decide_eq_false_iff_not, Bool.not_eq_true', Bool.not_eq_false', Bool.not_eq_true, Bool.not_eq_false] at hc13
              have hA13 := hc13
              refine Run.seq ?_
              refine Run.region ?_
              refine bld B73 (qs := []) trivial rfl rfl rfl ?_
              refine stW rfl rfl T73 rfl rfl (by simp [Value.oneCell']) S (i := 2) rfl rfl ?_
              intro w9 S
              refine asg1 rfl rfl ?_
              refine Ro.nil ?_
              refine Nrm.code ?_
              refine Run.ret ?_
              refine Rt.cell2 rfl rfl rfl T73 S (i := 2) rfl rfl ?_
              have he : udpE s d b = 93 := by
                unfold udpE
                rw [if_neg (by omega), if_neg (by omega), if_neg (by omega), if_neg (by omega), if_pos (by omega), if_pos (by omega)]
              exact ⟨.slice none 0 0, by rw [udp_err he (by omega), he]; rfl, S.bl, fun _ _ _ => by rw [udp_err he (by omega)]; exact BS.nil _ _⟩
            ·
              try simp only [Bool.or_eq_true, Bool.and_eq_true, Bool.or_eq_false_iff, Bool.and_eq_false_iff, decide_eq_true_eq, decide_eq_false_iff_not, Bool.not_eq_true', Bool.not_eq_false', Bool.not_eq_true, Bool.not_eq_false] at hc13
              exfalso; omega
          ·
            try simp only [Bool.or_eq_true, Bool.and_eq_true, Bool.or_eq_false_iff, Bool.and_eq_false_iff, decide_eq_true_eq, decide_eq_false_iff_not, Bool.not_eq_true', Bool.not_eq_false', Bool.not_eq_true, Bool.not_eq_false] at hc13
            refine Run.held (by kernel_rfl) S [true, true, true, true, true] rfl rfl rfl ?_
            intro w9 BD S SC
            refine Ho.take (i := 0) SC Pp.body rfl (by kernel_rfl) (by kernel_rfl) (by kernel_rfl) rfl rfl ?_
            refine qmv rfl rfl rfl rfl ?_
            refine Ho.back ?_
            refine Ho.take (i := 1) SC Pp.body rfl (by kernel_rfl) (by kernel_rfl) (by kernel_rfl) rfl rfl ?_
            refine qnt rfl rfl rfl rfl ?_
            refine Ho.back ?_
            refine Ho.take (i := 2) SC Pp.body rfl (by kernel_rfl) (by kernel_rfl) (by kernel_rfl) rfl rfl ?_
            refine qmv rfl rfl rfl rfl ?_
            refine Ho.back ?_
            refine Ho.take (i := 3) SC Pp.body rfl (by kernel_rfl) (by kernel_rfl) (by kernel_rfl) rfl rfl ?_
            refine qldW rfl T24 (fun _ S => S) (i := 4) rfl rfl rfl rfl rfl ?_
            refine Ho.back ?_
            refine Ho.take (i := 4) SC Pp.body rfl (by kernel_rfl) (by kernel_rfl) (by kernel_rfl) rfl rfl ?_
            refine qldW rfl T24 (fun _ S => S) (i := 3) rfl rfl rfl rfl rfl ?_
            refine Ho.back ?_
            refine Ho.take (i := 5) SC Pp.body rfl (by kernel_rfl) (by kernel_rfl) (by kernel_rfl) rfl rfl ?_
            refine qmv rfl rfl rfl rfl ?_
            refine Ho.back ?_
            refine Ho.take (i := 6) SC Pp.body rfl (by kernel_rfl) (by kernel_rfl) (by kernel_rfl) rfl rfl ?_
            refine qmv rfl rfl rfl rfl ?_
            refine Ho.back ?_
            refine Ho.take (i := 7) SC Pp.body rfl (by kernel_rfl) (by kernel_rfl) (by kernel_rfl) rfl rfl ?_
            refine qslC (lo := 0) (hi := lenU b) (mx := capV v) rfl hb e26 rfl rfl rfl (i1 := none) (i2 := some (lenU b)) (i3 := none) trivial ⟨_, _, _, rfl, rfl⟩ trivial rfl rfl rfl (fun h => by first | rfl | cases h) (fun hG => by (try simp [allT] at hG); have hcap := hb.cap; omega) ?_
            refine Ho.back ?_
            refine Ho.one (i := 8) (by kernel_rfl) rfl rfl ?_
            refine calg (vs := [_, _, _, _]) rfl ⟨⟨_, _, rfl, rfl⟩, ⟨_, _, rfl, rfl⟩, ⟨_, _, rfl, rfl⟩, ⟨_, _, rfl, rfl⟩, trivial⟩ k124 rfl (fun hG => c124 s d 17 _ (b.take (lenU b)) _ hs ht ((hb.cut (lo := 0) (hi := lenU b) (mx := capV v) (by have := hb.cap; omega)).now S) (by rw [List.length_take]; omega) (fit_pse (by omega) (by decide) (by rw [List.length_take]; omega))) ?_
            intro w10 B_; have S := S.call B_
            have SC := S.pick [true, true, true, true, true] rfl
            refine Ho.on SC ?_
            refine Ho.take (i := 9) SC Pp.body rfl (by kernel_rfl) (by kernel_rfl) (by kernel_rfl) rfl rfl ?_
            refine qnt rfl rfl rfl rfl ?_
            refine Ho.back ?_
            refine Ho.take (i := 10) SC Pp.body rfl (by kernel_rfl) (by kernel_rfl) (by kernel_rfl) rfl rfl ?_
            refine qpkA rfl rfl rfl rfl rfl rfl ?_
            refine Ho.back ?_
            refine Ho.take (i := 11) SC Pp.body rfl (by kernel_rfl) (by kernel_rfl) (by kernel_rfl) rfl rfl ?_
            refine qasg rfl rfl rfl rfl ?_
            refine Ho.back ?_
            refine Ho.done (by kernel_rfl) ?_
            refine Nrm.code ?_
            refine Run.cond rfl (fun hc14 => ?_) (fun hc14 => ?_)
            ·
              try simp only [Bool.or_eq_true, Bool.and_eq_true, Bool.or_eq_false_iff, Bool.and_eq_false_iff, decide_eq_true_eq, decide_eq_false_iff_not, Bool.not_eq_true', Bool.not_eq_false', Bool.not_eq_true, Bool.not_eq_false] at hc14
              have hz6 : ¬ wd2 b 6 = 0 := by simpa using hc14.1
              have hgd : psum s d 17 (b.take (lenU b)) ≠ 65535 := by simpa using hc14.2
              refine Run.seq ?_
              refine Run.region ?_
              refine bld B73 (qs := []) trivial rfl rfl rfl ?_
              refine stW rfl rfl T73 rfl rfl (by simp [Value.oneCell']) S (i := 2) rfl rfl ?_
              intro w11 S
              refine asg1 rfl rfl ?_
              refine Ro.nil ?_
              refine Nrm.code ?_
              refine Run.ret ?_
              refine Rt.cell2 rfl rfl rfl T73 S (i := 2) rfl rfl ?_
              have he : udpE s d b = 93 := by
                unfold udpE
                rw [if_neg (by omega), if_neg (by omega), if_neg (by omega), if_neg (by omega), if_neg hz6, if_pos hgd]
              exact ⟨.slice none 0 0, by rw [udp_err he (by omega), he]; rfl, S.bl, fun _ _ _ => by rw [udp_err he (by omega)]; exact BS.nil _ _⟩
            ·
              try simp only [Bool.or_eq_true, Bool.and_eq_true, Bool.or_eq_false_iff, Bool.and_eq_false_iff, decide_eq_true_eq, decide_eq_false_iff_not, Bool.not_eq_true', Bool.not_eq_false', Bool.not_eq_true, Bool.not_eq_false] at hc14
              refine Run.skip ?_
              refine Nrm.blk ?_
              refine Nrm.code ?_
              refine Run.seq ?_
              refine Run.heldB (by kernel_rfl) S [true, true, false, true, true] rfl rfl rfl ?_
              intro w11 BD S SC
              refine Hb.take (i := 0) SC (fun _ _ S B => S.call B) Pp.body rfl (by kernel_rfl) (by kernel_rfl) (by kernel_rfl) rfl rfl ?_
              refine qmv rfl rfl rfl rfl ?_
              refine Hb.back ?_
              refine Hb.take (i := 1) SC (fun _ _ S B => S.call B) Pp.body rfl (by kernel_rfl) (by kernel_rfl) (by kernel_rfl) rfl rfl ?_
              refine qixa rfl rfl (S.slI (i := 0) rfl) e132 rfl rfl rfl rfl (fun _ => by first | omega | (simp only [List.length_cons, List.length_nil]; omega)) ?_
              refine Hb.back ?_
              refine Hb.take (i := 2) SC (fun _ _ S B => S.call B) Pp.body rfl (by kernel_rfl) (by kernel_rfl) (by kernel_rfl) rfl rfl ?_
              refine qldR rfl (fun _ S => S) (i := 0) rfl T3 rfl rfl rfl (fun _ => rfl) ?_
              refine Hb.back ?_
              refine Hb.take (i := 3) SC (fun _ _ S B => S.call B) Pp.body rfl (by kernel_rfl) (by kernel_rfl) (by kernel_rfl) rfl rfl ?_
              refine qmv rfl rfl rfl rfl ?_
              refine Hb.back ?_
              refine Hb.take (i := 4) SC (fun _ _ S B => S.call B) Pp.body rfl (by kernel_rfl) (by kernel_rfl) (by kernel_rfl) rfl rfl ?_
              refine qixa rfl rfl (S.slI (i := 0) rfl) e132 rfl rfl rfl rfl (fun _ => by first | omega | (simp only [List.length_cons, List.length_nil]; omega)) ?_
              refine Hb.back ?_
              refine Hb.take (i := 5) SC (fun _ _ S B => S.call B) Pp.body rfl (by kernel_rfl) (by kernel_rfl) (by kernel_rfl) rfl rfl ?_
              refine qldR rfl (fun _ S => S) (i := 0) rfl T3 rfl rfl rfl (fun _ => rfl) ?_
              refine Hb.back ?_
              refine Hb.take (i := 6) SC (fun _ _ S B => S.call B) Pp.body rfl (by kernel_rfl) (by kernel_rfl) (by kernel_rfl) rfl rfl ?_
              refine qmv rfl rfl rfl rfl ?_
              refine Hb.back ?_
              refine Hb.take (i := 7) SC (fun _ _ S B => S.call B) Pp.body rfl (by kernel_rfl) (by kernel_rfl) (by kernel_rfl) rfl rfl ?_
              refine qmv rfl rfl rfl rfl ?_
              refine Hb.back ?_
              refine Hb.take (i := 8) SC (fun _ _ S B => S.call B) Pp.body rfl (by kernel_rfl) (by kernel_rfl) (by kernel_rfl) rfl rfl ?_
              refine qmv rfl rfl rfl rfl ?_
              refine Hb.back ?_
              refine Hb.take (i := 9) SC (fun _ _ S B => S.call B) Pp.body rfl (by kernel_rfl) (by kernel_rfl) (by kernel_rfl) rfl rfl ?_
              refine qmv rfl rfl rfl rfl ?_
              refine Hb.back ?_
              refine Hb.take (i := 10) SC (fun _ _ S B => S.call B) Pp.body rfl (by kernel_rfl) (by kernel_rfl) (by kernel_rfl) rfl rfl ?_
              have hv84 := hb.cut (lo := 8) (hi := lenU b) (mx := lenU b) (by have hcap := hb.cap; omega)
              refine qslC (lo := 8) (hi := lenU b) (mx := lenU b) rfl hb e26 rfl rfl rfl (i1 := some 8) (i2 := some (lenU b)) (i3 := some (lenU b)) ⟨_, _, _, rfl, rfl⟩ ⟨_, _, _, rfl, rfl⟩ ⟨_, _, _, rfl, rfl⟩ rfl rfl rfl (fun h => by first | rfl | cases h) (fun hG => by (try simp [allT] at hG); have hcap := hb.cap; omega) ?_
              refine Hb.back ?_
              refine Hb.take (i := 11) SC (fun _ _ S B => S.call B) Pp.body rfl (by kernel_rfl) (by kernel_rfl) (by kernel_rfl) rfl rfl ?_
              refine qbld B73 (qs := [(_, _), (_, _), (_, _), (_, _)]) ⟨⟨_, _, _, rfl, rfl, rfl, rfl, by first | (simp [Value.cells]; done) | simp [Value.cells, encIP]⟩, ⟨_, _, _, rfl, rfl, rfl, rfl, by first | (simp [Value.cells]; done) | simp [Value.cells, encIP]⟩, ⟨_, _, _, rfl, rfl, rfl, rfl, by first | (simp [Value.cells]; done) | simp [Value.cells, encIP]⟩, ⟨_, _, _, rfl, rfl, cells1 hv84.one, rfl, List.cons_ne_nil _ _⟩, trivial⟩ rfl rfl rfl ?_
              refine Hb.back ?_
              refine Hb.one (i := 12) (by kernel_rfl) rfl rfl ?_
              intro w12 BD; have S := S.call BD
              refine stW rfl rfl T73 rfl rfl (one_cons rfl (one_cons rfl (one_cons rfl (one_cons hv84.one one_nil)))) S (i := 2) rfl rfl ?_
              intro w13 S
              have SC := S.pick [true, true, false, true, true] rfl
              refine Hb.on SC ?_
              refine Hb.take (i := 13) SC (fun _ _ S B => S.call B) Pp.body rfl (by kernel_rfl) (by kernel_rfl) (by kernel_rfl) rfl rfl ?_
              refine qasg rfl rfl rfl rfl ?_
              refine Hb.back ?_
              refine Hb.done (by kernel_rfl) ?_
              intro w14 BD; have S := S.call BD
              refine Nrm.code ?_
              refine Run.ret ?_
              refine Rt.cell2 rfl rfl rfl T73 S (i := 2) rfl rfl ?_
              have hE : udpE s d b = 0 := by
                unfold udpE
                rw [if_neg (by omega), if_neg (by omega), if_neg (by omega), if_neg (by omega)]
                by_cases hz : wd2 b 6 = 0
                · rw [if_pos hz, if_neg (by omega)]
                · have hgd : psum s d 17 (b.take (lenU b)) = 65535 := by
                    rcases hc14 with h | h
                    · exact absurd (by simpa using h) hz
                    · simpa using h
                  rw [if_neg hz, if_neg (by omega)]
              exact ⟨cut v 8 (lenU b) (lenU b), by rw [udpU, if_pos hE, hE]; rfl, S.bl, fun N w1 h1 => by rw [udpU, if_pos hE]; exact h1.cut (by have := h1.cap; omega)⟩
set_option maxHeartbeats 1000000 in
theorem c60 (vv : Int) (u : Udp) (dv : Value) (w : World) (hd : BS [] w dv u.data) (hl : u.data.length ≤ 1099511627776) :
  CallsD Tryd.prog 60 #[.int .i64 vv, .agg (encUdp u dv).toArray] w (.int .i64 (chkU vv u)) := by
 refine enter Tryd.func60 rfl Tryd.ntmps60 (l := [(0, [], _), (1, [], _)]) rfl rfl ?_
 have S := St.refl [] w
 refine Run.seq ?_
 refine Run.region ?_
 refine boxA rfl S rfl ?_
 intro b3 w1 hb3 S B_
 refine asg1 rfl rfl ?_
 refine Ro.nil ?_
 refine Nrm.code ?_
 refine Run.seq ?_
 refine Run.block ?_
 refine Run.seq ?_
 refine Run.region ?_
 refine mv1 rfl rfl ?_
 refine neq1 rfl rfl rfl ?_
 refine mv1 rfl rfl ?_
 refine mv rfl rfl rfl rfl ?_
 refine neq rfl rfl rfl rfl rfl rfl ?_
 refine pkA rfl rfl rfl rfl rfl rfl ?_
 refine asg1 rfl rfl ?_
 refine Ro.nil ?_
 refine Nrm.code ?_
 refine Run.cond rfl (fun hc1 => ?_) (fun hc1 => ?_)
 ·
  try simp only [Bool.or_eq_true, Bool.and_eq_true, Bool.or_eq_false_iff, Bool.and_eq_false_iff, decide_eq_true_eq, decide_eq_false_iff_not, Bool.not_eq_true', Bool.not_eq_false', Bool.not_eq_true, Bool.not_eq_false] at hc1
  refine Run.seq ?_
  refine Run.region ?_
  refine asg1 rfl rfl ?_
  refine Ro.nil ?_
  refine Nrm.code ?_
  refine Run.ret ?_
  refine Rt.one rfl rfl ?_
  exact ⟨by rw [chkU, if_pos (by omega)], S.bl⟩
 ·
  try simp only [Bool.or_eq_true, Bool.and_eq_true, Bool.or_eq_false_iff, Bool.and_eq_false_iff, decide_eq_true_eq, decide_eq_false_iff_not, Bool.not_eq_true', Bool.not_eq_false', Bool.not_eq_true, Bool.not_eq_false] at hc1
  refine Run.seq ?_
  refine Run.region ?_
  refine fld (o' := 0) rfl fo73_0 rfl rfl rfl rfl ?_
  refine ld1 rfl T3 S (i := 0) rfl rfl rfl rfl rfl ?_
  refine calg (vs := [_, _]) rfl ⟨⟨_, _, rfl, rfl⟩, ⟨_, _, rfl, rfl⟩, trivial⟩ k126 rfl (fun hG => c126 _ _ _) ?_
  intro w2 B_; have S := S.call B_
  refine mv1 rfl rfl ?_
  refine fld (o' := 1) rfl fo73_1 rfl rfl rfl rfl ?_
  refine ld1 rfl T3 S (i := 0) rfl rfl rfl rfl rfl ?_
  refine calg (vs := [_, _]) rfl ⟨⟨_, _, rfl, rfl⟩, ⟨_, _, rfl, rfl⟩, trivial⟩ k126 rfl (fun hG => c126 _ _ _) ?_
  intro w3 B_; have S := S.call B_
  refine pkO rfl rfl rfl rfl rfl rfl ?_
  refine mv1 rfl rfl ?_
  refine fld (o' := 2) rfl fo73_2 rfl rfl rfl rfl ?_
  refine ld1 rfl T4 S (i := 0) rfl rfl rfl rfl rfl ?_
  refine mv rfl rfl rfl rfl ?_
  refine mv rfl rfl rfl rfl ?_
  refine eql rfl rfl rfl rfl rfl rfl ?_
  refine pkA rfl rfl rfl rfl rfl rfl ?_
  refine pkO rfl rfl rfl rfl rfl rfl ?_
  refine asg1 rfl rfl ?_
  refine Ro.nil ?_
  refine Nrm.code ?_
  refine Run.cond rfl (fun hc3 => ?_) (fun hc3 => ?_)
  ·
   refine Run.seq ?_
   refine Run.region ?_
   refine asg1 rfl rfl ?_
   refine Ro.nil ?_
   refine Nrm.code ?_
   refine Run.ret ?_
   refine Rt.one rfl rfl ?_
   exact ⟨by rw [chkU, if_neg (by omega), if_pos (show badU vv u = true from hc3)], S.bl⟩
  ·
   refine Run.seq ?_
   refine Run.region ?_
   refine fld (o' := 3) rfl fo73_3 rfl rfl rfl rfl ?_
   refine ld1 rfl T26 S (i := 0) rfl rfl rfl rfl rfl ?_
   refine lenS rfl hd.2 Tryd.underlying26 rfl rfl rfl ?_
   refine gtr1 rfl rfl rfl ?_
   refine asg1 rfl rfl ?_
   refine Ro.nil ?_
   refine Nrm.code ?_
   refine Run.cond rfl (fun hc5 => ?_) (fun hc5 => ?_)
   ·
    try simp only [Bool.or_eq_true, Bool.and_eq_true, Bool.or_eq_false_iff, Bool.and_eq_false_iff, decide_eq_true_eq, decide_eq_false_iff_not, Bool.not_eq_true', Bool.not_eq_false', Bool.not_eq_true, Bool.not_eq_false] at hc5
    refine Run.seq ?_
    refine Run.region ?_
    refine asg1 rfl rfl ?_
    refine Ro.nil ?_
    refine Nrm.code ?_
    refine Run.ret ?_
    refine Rt.one rfl rfl ?_
    exact ⟨by rw [chkU, if_neg (by omega), if_neg (by rw [show badU vv u = false from hc3]; simp), if_pos (by omega)], S.bl⟩
   ·
    try simp only [Bool.or_eq_true, Bool.and_eq_true, Bool.or_eq_false_iff, Bool.and_eq_false_iff, decide_eq_true_eq, decide_eq_false_iff_not, Bool.not_eq_true', Bool.not_eq_false', Bool.not_eq_true, Bool.not_eq_false] at hc5
    refine Run.skip ?_
    refine Nrm.blk ?_
    refine Nrm.code ?_
    refine Run.seq ?_
    refine Run.region ?_
    refine asg1 rfl rfl ?_
    refine Ro.nil ?_
    refine Nrm.code ?_
    refine Run.ret ?_
    refine Rt.one rfl rfl ?_
    exact ⟨by rw [chkU, if_neg (by omega), if_neg (by rw [show badU vv u = false from hc3]; simp), if_neg (by omega)], S.bl⟩
set_option maxHeartbeats 1000000 in
theorem c59 (a b : Udp) (d1 d2 : Value) (w : World) (hd : BS [] w d1 a.data) (he : BS [] w d2 b.data) :
  CallsD Tryd.prog 59 #[.agg (encUdp a d1).toArray, .agg (encUdp b d2).toArray] w (.bool (sameU a b)) := by
 refine enter Tryd.func59 rfl Tryd.ntmps59 (l := [(0, [], _), (1, [], _)]) rfl rfl ?_
 have S := St.refl [] w
 refine Run.seq ?_
 refine Run.region ?_
 refine boxA rfl S rfl ?_
 intro b2 w1 hb2 S B_
 refine boxA rfl S rfl ?_
 intro b3 w2 hb3 S B_
 refine asg1 rfl rfl ?_
 refine Ro.nil ?_
 refine Nrm.code ?_
 refine Run.seq ?_
 refine Run.region ?_
 refine fld (o' := 0) rfl fo73_0 rfl rfl rfl rfl ?_
 refine ld1 rfl T3 S (i := 1) rfl rfl rfl rfl rfl ?_
 refine fld (o' := 0) rfl fo73_0 rfl rfl rfl rfl ?_
 refine ld1 rfl T3 S (i := 0) rfl rfl rfl rfl rfl ?_
 refine eql1 rfl rfl rfl ?_
 refine mv1 rfl rfl ?_
 refine fld (o' := 1) rfl fo73_1 rfl rfl rfl rfl ?_
 refine ld1 rfl T3 S (i := 1) rfl rfl rfl rfl rfl ?_
 refine fld (o' := 1) rfl fo73_1 rfl rfl rfl rfl ?_
 refine ld1 rfl T3 S (i := 0) rfl rfl rfl rfl rfl ?_
 refine eql rfl rfl rfl rfl rfl rfl ?_
 refine pkA rfl rfl rfl rfl rfl rfl ?_
 refine mv1 rfl rfl ?_
 refine fld (o' := 2) rfl fo73_2 rfl rfl rfl rfl ?_
 refine ld1 rfl T4 S (i := 1) rfl rfl rfl rfl rfl ?_
 refine fld (o' := 2) rfl fo73_2 rfl rfl rfl rfl ?_
 refine ld1 rfl T4 S (i := 0) rfl rfl rfl rfl rfl ?_
 refine eqB rfl rfl Tryd.underlying4 rfl rfl rfl rfl ?_
 refine pkA rfl rfl rfl rfl rfl rfl ?_
 refine mv1 rfl rfl ?_
 refine fld (o' := 3) rfl fo73_3 rfl rfl rfl rfl ?_
 refine ld1 rfl T26 S (i := 1) rfl rfl rfl rfl rfl ?_
 refine fld (o' := 3) rfl fo73_3 rfl rfl rfl rfl ?_
 refine ld1 rfl T26 S (i := 0) rfl rfl rfl rfl rfl ?_
 refine calg (vs := [_, _]) rfl ⟨⟨_, _, rfl, rfl⟩, ⟨_, _, rfl, rfl⟩, trivial⟩ k37 rfl (fun hG => c37 _ _ _ _ _ (hd.now S) (he.now S)) ?_
 intro w3 B_; have S := S.call B_
 refine pkA rfl rfl rfl rfl rfl rfl ?_
 refine asg1 rfl rfl ?_
 refine Ro.nil ?_
 refine Nrm.code ?_
 refine Run.ret ?_
 refine Rt.one rfl rfl ?_
 exact ⟨rfl, S.bl⟩
end Go.Proofs.YtkahmepenjhcpaaDoor.W
/- Contracts: UDP written. No statement of the seat is proved here. -/
namespace Go.Proofs.YtkahmepenjhcpaaDoor.W
open Go
set_option linter.unusedSimpArgs false
set_option linter.unusedVariables false
theorem putUE_fit {s d : IP} {u : Udp} (h : fitE s d = 0) : putUE s d u = chkU s.v u := by unfold putUE; rw [if_pos h]
theorem putUE_no {s d : IP} {u : Udp} (h : fitE s d ≠ 0) : putUE s d u = fitE s d := by unfold putUE; rw [if_neg h]
set_option maxHeartbeats 1000000 in
theorem c55 (s d : IP) (u : Udp) (dv : Value) (w : World) (hs : s.ok) (ht : d.ok) (hd : BS [] w dv u.data) (hl : u.data.length ≤ 1099511627776) (hg1 : GV [] w 1 163 (W16.map i64)) :
  CallsV Tryd.prog 55 #[.agg (encIP s).toArray, .agg (encIP d).toArray, .agg (encUdp u dv).toArray] w (fun r w' => ∃ v, r = .tuple #[v, .int .i64 (putUE s d u)] ∧ FB w w' v (putUL s d u)) := by
 refine enter Tryd.func55 rfl Tryd.ntmps55 (l := [(0, [], _), (1, [], _), (2, [], _)]) rfl rfl ?_
 have S := St.refl [] w
 have hpb := putUE_bd s d u
 have hfo := fitE_or s d
 refine Run.seq ?_
 refine Run.region ?_
 refine boxA rfl S rfl ?_
 intro b3 w1 hb3 S B_
 refine boxA rfl S rfl ?_
 intro b4 w2 hb4 S B_
 refine boxA rfl S rfl ?_
 intro b5 w3 hb5 S B_
 refine asg1 rfl rfl ?_
 refine asg1 rfl rfl ?_
 refine Ro.nil ?_
 refine Nrm.code ?_
 refine Run.seq ?_
 refine Run.region ?_
 refine ldW rfl T24 S (i := 2) rfl rfl rfl rfl rfl ?_
 refine ldW rfl T24 S (i := 1) rfl rfl rfl rfl rfl ?_
 refine calg (vs := [_, _]) rfl ⟨⟨_, _, rfl, rfl⟩, ⟨_, _, rfl, rfl⟩, trivial⟩ k123 rfl (fun hG => c123 s d _ hs ht) ?_
 intro w4 B_; have S := S.call B_
 refine asg1 rfl rfl ?_
 refine Ro.nil ?_
 refine Nrm.code ?_
 refine Run.cut (γ := Unit) (fun g w_ => St [] w [.var b5 73 (encUdp u dv), .var b4 24 (encIP d), .var b3 24 (encIP s)] w_) (fun g => [(3, [], .pointer (some ⟨b3, 0, none⟩)), (4, [], .pointer (some ⟨b4, 0, none⟩)), (5, [], .pointer (some ⟨b5, 0, none⟩)), (8, [], .int .i64 (putUE s d u))]) ?_ ?_
 ·
  refine Run.seq ?_
  refine Run.region ?_
  refine mv1 rfl rfl ?_
  refine eql1 rfl rfl rfl ?_
  refine Ro.nil ?_
  refine Nrm.code ?_
  refine Run.cond rfl (fun hc2 => ?_) (fun hc2 => ?_)
  ·
   try simp only [Bool.or_eq_true, Bool.and_eq_true, Bool.or_eq_false_iff, Bool.and_eq_false_iff, decide_eq_true_eq, decide_eq_false_iff_not, Bool.not_eq_true', Bool.not_eq_false', Bool.not_eq_true, Bool.not_eq_false] at hc2
   refine Run.region ?_
   refine fld (o' := 0) rfl fo24_0 rfl rfl rfl rfl ?_
   refine ld1 rfl T3 S (i := 2) rfl rfl rfl rfl rfl ?_
   refine ldW rfl T73 S (i := 0) rfl rfl rfl rfl rfl ?_
   refine calg (vs := [_, _]) rfl ⟨⟨_, _, rfl, rfl⟩, ⟨_, _, rfl, rfl⟩, trivial⟩ k60 rfl (fun hG => c60 _ u dv _ (hd.now S) (by omega)) ?_
   intro w5 B_; have S := S.call B_
   refine asg1 rfl rfl ?_
   refine Ro.nil ?_
   exact Nrm.cut () S ⟨rfl, rfl, rfl, (by rw [putUE_fit hc2]; rfl), trivial⟩
  ·
   try simp only [Bool.or_eq_true, Bool.and_eq_true, Bool.or_eq_false_iff, Bool.and_eq_false_iff, decide_eq_true_eq, decide_eq_false_iff_not, Bool.not_eq_true', Bool.not_eq_false', Bool.not_eq_true, Bool.not_eq_false] at hc2
   refine Run.skip ?_
   exact Nrm.cut () S ⟨rfl, rfl, rfl, (by rw [putUE_no hc2]; rfl), trivial⟩
 ·
  rintro g4 w5 S
  refine Run.seq ?_
  refine Run.seq ?_
  refine Run.region ?_
  refine mv1 rfl rfl ?_
  refine neq1 rfl rfl rfl ?_
  refine Ro.nil ?_
  refine Nrm.code ?_
  refine Run.cond rfl (fun hc4 => ?_) (fun hc4 => ?_)
  ·
   try simp only [Bool.or_eq_true, Bool.and_eq_true, Bool.or_eq_false_iff, Bool.and_eq_false_iff, decide_eq_true_eq, decide_eq_false_iff_not, Bool.not_eq_true', Bool.not_eq_false', Bool.not_eq_true, Bool.not_eq_false] at hc4
   refine Run.seq ?_
   refine Run.region ?_
   refine mv1 rfl rfl ?_
   refine asg1 rfl rfl ?_
   refine asg1 rfl rfl ?_
   refine Ro.nil ?_
   refine Nrm.code ?_
   refine Run.ret ?_
   refine Rt.two rfl rfl rfl ?_
   have hl0 : putUL s d u = [] := by unfold putUL; rw [if_neg (by omega)]
   exact ⟨.slice none 0 0, by rfl, by rw [hl0]; exact (S.nilB).toFB (i := 0) rfl⟩
  ·
   try simp only [Bool.or_eq_true, Bool.and_eq_true, Bool.or_eq_false_iff, Bool.and_eq_false_iff, decide_eq_true_eq, decide_eq_false_iff_not, Bool.not_eq_true', Bool.not_eq_false', Bool.not_eq_true, Bool.not_eq_false] at hc4
   have hpe : putUE s d u = 0 := by omega
   have hz := putUE_zero hpe
   have hzz := chkU_zero hz.2
   have hbB := udpB0_byt hz.2 hd.1
   have hlB := udpB0_len u
   refine Run.skip ?_
   refine Nrm.code ?_
   refine Run.seq ?_
   refine Run.region ?_
   refine ldG hg1 S T163 rfl rfl ?_
   refine alc T163 S rfl ?_
   intro b9 w6 hb9 S B_
   refine stW rfl rfl T163 rfl rfl (by simp [Value.oneCell']) S (i := 0) rfl rfl ?_
   intro w7 S
   refine Ro.nil ?_
   refine Nrm.code ?_
   refine Run.seq ?_
   refine Run.heldB (by kernel_rfl) S [true, true, true, true] rfl rfl rfl ?_
   intro w8 BD S SC
   refine Hb.take (i := 0) SC (fun _ _ S B => S.call B) Pp.body rfl (by kernel_rfl) (by kernel_rfl) (by kernel_rfl) rfl rfl ?_
   refine qslAT rfl Tryd.underlying163 T3 rfl rfl rfl (i2 := none) trivial rfl (by decide) (by decide) ?_
   refine Hb.back ?_
   refine Hb.take (i := 1) SC (fun _ _ S B => S.call B) Pp.body rfl (by kernel_rfl) (by kernel_rfl) (by kernel_rfl) rfl rfl ?_
   refine qfld (o' := 0) rfl fo73_0 rfl rfl rfl rfl ?_
   refine Hb.back ?_
   refine Hb.take (i := 2) SC (fun _ _ S B => S.call B) Pp.body rfl (by kernel_rfl) (by kernel_rfl) (by kernel_rfl) rfl rfl ?_
   refine qld1 rfl T3 (fun _ S => S) (i := 1) rfl rfl rfl rfl rfl ?_
   refine Hb.back ?_
   refine Hb.take (i := 3) SC (fun _ _ S B => S.call B) Pp.body rfl (by kernel_rfl) (by kernel_rfl) (by kernel_rfl) rfl rfl ?_
   refine qfld (o' := 1) rfl fo73_1 rfl rfl rfl rfl ?_
   refine Hb.back ?_
   refine Hb.take (i := 4) SC (fun _ _ S B => S.call B) Pp.body rfl (by kernel_rfl) (by kernel_rfl) (by kernel_rfl) rfl rfl ?_
   refine qld1 rfl T3 (fun _ S => S) (i := 1) rfl rfl rfl rfl rfl ?_
   refine Hb.back ?_
   refine Hb.take (i := 5) SC (fun _ _ S B => S.call B) Pp.body rfl (by kernel_rfl) (by kernel_rfl) (by kernel_rfl) rfl rfl ?_
   refine qfld (o' := 3) rfl fo73_3 rfl rfl rfl rfl ?_
   refine Hb.back ?_
   refine Hb.take (i := 6) SC (fun _ _ S B => S.call B) Pp.body rfl (by kernel_rfl) (by kernel_rfl) (by kernel_rfl) rfl rfl ?_
   refine qld1 rfl T26 (fun _ S => S) (i := 1) rfl rfl rfl rfl rfl ?_
   refine Hb.back ?_
   refine Hb.take (i := 7) SC (fun _ _ S B => S.call B) Pp.body rfl (by kernel_rfl) (by kernel_rfl) (by kernel_rfl) rfl rfl ?_
   refine qlenS rfl hd.2 Tryd.underlying26 rfl rfl rfl ?_
   refine Hb.back ?_
   refine Hb.take (i := 8) SC (fun _ _ S B => S.call B) Pp.body rfl (by kernel_rfl) (by kernel_rfl) (by kernel_rfl) rfl rfl ?_
   refine qadd rfl rfl rfl rfl rfl rfl (fun _ => w64 (by omega)) ?_
   refine Hb.back ?_
   refine Hb.one (i := 9) (by kernel_rfl) rfl rfl ?_
   intro w9 BD; have S := S.call BD
   refine bsl e132 (qs := [(_, _), (_, _), (_, _), (_, _)]) ⟨⟨_, _, _, rfl, rfl, rfl, rfl, by first | (simp [Value.cells]; done) | simp [Value.cells, encIP]⟩, ⟨_, _, _, rfl, rfl, rfl, rfl, by first | (simp [Value.cells]; done) | simp [Value.cells, encIP]⟩, ⟨_, _, _, rfl, rfl, rfl, rfl, by first | (simp [Value.cells]; done) | simp [Value.cells, encIP]⟩, ⟨_, _, _, rfl, rfl, rfl, rfl, by first | (simp [Value.cells]; done) | simp [Value.cells, encIP]⟩, trivial⟩ rfl rfl rfl rfl S ?_
   intro u38 w10 S B_
   have SC := S.pick [false, true, true, true, true] rfl
   refine Hb.on SC ?_
   refine Hb.one (i := 10) (by kernel_rfl) rfl rfl ?_
   intro w11 BD; have S := S.call BD
   refine call (vs := [_, _]) ⟨⟨_, _, rfl, rfl⟩, ⟨_, _, rfl, rfl⟩, trivial⟩ k95 rfl (c95 _ _ W16 [u.sport, u.dport, 8 + (u.data.length : Int), 0] _ (S.varSl (i := 1) (m := 4) (sz := 1) rfl rfl rfl (by decide)) (S.isI (l := [u.sport, u.dport, 8 + (u.data.length : Int), 0]) (i := 0) rfl) (by decide) (by decide) (by decide) rfl (udp8_pack hz.2)) ?_
   rintro _ w12 ⟨u10, out, rfl, hF, hpk⟩
   have hout : out = udp8 u := bits_of_eq hpk.1 hpk.2.1 hpk.2.2.2 rfl (udp8_byt hz.2) (udp8_bits hz.2)
   subst hout
   have S := S.fb hF
   have SC := S.pick [false, false, true, true, true, true] rfl
   refine Hb.on SC ?_
   refine Hb.take (i := 11) SC (fun _ _ S B => S.call B) Pp.body rfl (by kernel_rfl) (by kernel_rfl) (by kernel_rfl) rfl rfl ?_
   refine qmv rfl rfl rfl rfl ?_
   refine Hb.back ?_
   refine Hb.take (i := 12) SC (fun _ _ S B => S.call B) Pp.body rfl (by kernel_rfl) (by kernel_rfl) (by kernel_rfl) rfl rfl ?_
   refine qextr rfl rfl rfl rfl rfl ?_
   refine Hb.back ?_
   refine Hb.take (i := 13) SC (fun _ _ S B => S.call B) Pp.body rfl (by kernel_rfl) (by kernel_rfl) (by kernel_rfl) rfl rfl ?_
   refine qextr rfl rfl rfl rfl rfl ?_
   refine Hb.back ?_
   refine Hb.take (i := 14) SC (fun _ _ S B => S.call B) Pp.body rfl (by kernel_rfl) (by kernel_rfl) (by kernel_rfl) rfl rfl ?_
   refine qasg rfl rfl rfl rfl ?_
   refine Hb.back ?_
   refine Hb.take (i := 15) SC (fun _ _ S B => S.call B) Pp.body rfl (by kernel_rfl) (by kernel_rfl) (by kernel_rfl) rfl rfl ?_
   refine qasg rfl rfl rfl rfl ?_
   refine Hb.back ?_
   refine Hb.done (by kernel_rfl) ?_
   intro w13 BD; have S := S.call BD
   refine Nrm.code ?_
   refine Run.seq ?_
   refine Run.region ?_
   refine mv1 rfl rfl ?_
   refine fld (o' := 3) rfl fo73_3 rfl rfl rfl rfl ?_
   refine ld1 rfl T26 S (i := 3) rfl rfl rfl rfl rfl ?_
   refine apB rfl rfl e26 (hd.now S) S (i := 0) rfl rfl (fun _ => rfl) (by simp [udp8]; omega) ?_
   intro u10b w14 S B_
   have S : St [] w (oB u10b (udpB0 u) :: _) w14 := S
   refine asg1 rfl rfl ?_
   refine Ro.nil ?_
   refine Nrm.code ?_
   refine Run.seq ?_
   refine Run.seq ?_
   refine Run.region ?_
   refine fld (o' := 2) rfl fo73_2 rfl rfl rfl rfl ?_
   refine ld1 rfl T4 S (i := 3) rfl rfl rfl rfl rfl ?_
   refine Ro.nil ?_
   refine Nrm.code ?_
   refine Run.cond rfl (fun hc9 => ?_) (fun hc9 => ?_)
   ·
    try simp only [Bool.or_eq_true, Bool.and_eq_true, Bool.or_eq_false_iff, Bool.and_eq_false_iff, decide_eq_true_eq, decide_eq_false_iff_not, Bool.not_eq_true', Bool.not_eq_false', Bool.not_eq_true, Bool.not_eq_false] at hc9
    refine Run.seq ?_
    refine Run.region ?_
    refine mv1 rfl rfl ?_
    refine asg1 rfl rfl ?_
    refine asg1 rfl rfl ?_
    refine Ro.nil ?_
    refine Nrm.code ?_
    refine Run.ret ?_
    refine Rt.two rfl rfl rfl ?_
    have hl0 : putUL s d u = udpB0 u := by unfold putUL putUB; rw [if_pos hpe, if_pos hc9]
    exact ⟨_, by rw [hpe], by rw [hl0]; exact S.toFB (i := 0) rfl⟩
   ·
    try simp only [Bool.or_eq_true, Bool.and_eq_true, Bool.or_eq_false_iff, Bool.and_eq_false_iff, decide_eq_true_eq, decide_eq_false_iff_not, Bool.not_eq_true', Bool.not_eq_false', Bool.not_eq_true, Bool.not_eq_false] at hc9
    have hCb := udpC_bd (s := s) (d := d) hs ht hbB
    have hpb2 := psum_bd (p := 17) hs ht hbB
    refine Run.skip ?_
    refine Nrm.code ?_
    refine Run.seq ?_
    refine Run.region ?_
    refine ldW rfl T24 S (i := 5) rfl rfl rfl rfl rfl ?_
    refine ldW rfl T24 S (i := 4) rfl rfl rfl rfl rfl ?_
    refine mv1 rfl rfl ?_
    refine lenS rfl (S.slI (i := 0) rfl) Tryd.underlying26 rfl rfl rfl ?_
    refine call (vs := [_, _, _, _]) ⟨⟨_, _, rfl, rfl⟩, ⟨_, _, rfl, rfl⟩, ⟨_, _, rfl, rfl⟩, ⟨_, _, rfl, rfl⟩, trivial⟩ k58 rfl (c58 _ _ _ _ _ hs ht (by unfold inI; omega)) ?_
    rintro _ w15 ⟨up, rfl, hF⟩
    have S := S.fb hF
    refine mv1 rfl rfl ?_
    refine extr1 rfl rfl rfl ?_
    refine extr1 rfl rfl rfl ?_
    refine asg1 rfl rfl ?_
    refine asg1 rfl rfl ?_
    refine Ro.nil ?_
    refine Nrm.code ?_
    refine Run.seq ?_
    refine Run.region ?_
    refine mv1 rfl rfl ?_
    refine mv1 rfl rfl ?_
    refine bsl e102 (qs := [(_, _), (_, _)]) ⟨⟨_, _, _, rfl, rfl, cells1 (S.slI (i := 0) rfl).one, rfl, List.cons_ne_nil _ _⟩, ⟨_, _, _, rfl, rfl, cells1 (S.slI (i := 1) rfl).one, rfl, List.cons_ne_nil _ _⟩, trivial⟩ rfl rfl rfl rfl S ?_
    intro u59 w16 S B_
    have hck : CallsD Tryd.prog 97 #[u59] w16 (.int .i64 (65535 - psum s d 17 (udpB0 u))) := by
     have := c97 u59 [pseL s d 17 (udpB0 u).length, udpB0 u] w16 ⟨[_, _], S.slI (i := 0) rfl, S.bsI (i := 1) rfl (pseL_byt hs ht _ _), S.bsI (i := 2) rfl hbB, trivial⟩ (by have := (pseL_len s d 17 (udpB0 u).length).1; simp; omega) (by simp)
     rw [show [pseL s d 17 (udpB0 u).length, udpB0 u].flatten = pseL s d 17 (udpB0 u).length ++ udpB0 u from by simp] at this
     exact this
    refine calg (vs := [_]) rfl ⟨⟨_, _, rfl, rfl⟩, trivial⟩ k97 rfl (fun hG => hck) ?_
    intro w17 B_; have S := S.call B_
    refine asg1 rfl rfl ?_
    refine Ro.nil ?_
    refine Nrm.code ?_
    refine Run.cut (γ := Unit) (fun g w_ => St [] w [oB u10b (udpB0 u)] w_) (fun g => [(10, [], u10b), (14, [], .int .i64 (udpC s d u))]) ?_ ?_
    ·
     refine Run.seq ?_
     refine Run.region ?_
     refine mv1 rfl rfl ?_
     refine eql1 rfl rfl rfl ?_
     refine Ro.nil ?_
     refine Nrm.code ?_
     refine Run.cond rfl (fun hc13 => ?_) (fun hc13 => ?_)
     ·
      try simp only [Bool.or_eq_true, Bool.and_eq_true, Bool.or_eq_false_iff, Bool.and_eq_false_iff, decide_eq_true_eq, decide_eq_false_iff_not, Bool.not_eq_true', Bool.not_eq_false', Bool.not_eq_true, Bool.not_eq_false] at hc13
      refine Run.region ?_
      refine asg1 rfl rfl ?_
      refine Ro.nil ?_
      exact Nrm.cut () (S.pick [false, false, true, false, false, false, false, false] rfl) ⟨rfl, (by unfold udpC; rw [if_pos (by omega)]; rfl), trivial⟩
     ·
      try simp only [Bool.or_eq_true, Bool.and_eq_true, Bool.or_eq_false_iff, Bool.and_eq_false_iff, decide_eq_true_eq, decide_eq_false_iff_not, Bool.not_eq_true', Bool.not_eq_false', Bool.not_eq_true, Bool.not_eq_false] at hc13
      refine Run.skip ?_
      exact Nrm.cut () (S.pick [false, false, true, false, false, false, false, false] rfl) ⟨rfl, (by unfold udpC; rw [if_neg (by omega)]; rfl), trivial⟩
    ·
     rintro g15 w18 S
     refine Run.seq ?_
     refine Run.region ?_
     refine mv1 rfl rfl ?_
     refine mv1 rfl rfl ?_
     refine mv1 rfl rfl ?_
     refine shr rfl rfl rfl rfl rfl rfl (fun _ => by decide) (fun _ => sh8 _) ?_
     refine cvi1 rfl rfl Tryd.underlying3 Tryd.underlying5 (w8of rfl (by omega)) ?_
     refine mv1 rfl rfl ?_
     refine cvi1 rfl rfl Tryd.underlying3 Tryd.underlying5 (w8m _) ?_
     refine ixa rfl rfl (S.slI (i := 0) rfl) e26 rfl rfl rfl rfl (fun _ => by omega) ?_
     refine stB rfl rfl T5 S (i := 0) rfl (by omega) rfl ?_
     intro w19 S
     refine ixa rfl rfl (S.slI (i := 0) rfl) e26 rfl rfl rfl rfl (fun _ => by rw [List.length_set]; omega) ?_
     refine stB rfl rfl T5 S (i := 0) rfl (by rw [List.length_set]; omega) rfl ?_
     intro w20 S
     refine Ro.nil ?_
     refine Nrm.code ?_
     refine Run.seq ?_
     refine Run.region ?_
     refine mv1 rfl rfl ?_
     refine asg1 rfl rfl ?_
     refine asg1 rfl rfl ?_
     refine Ro.nil ?_
     refine Nrm.code ?_
     refine Run.ret ?_
     refine Rt.two rfl rfl rfl ?_
     have hl0 : putUL s d u = ((udpB0 u).set 6 (udpC s d u / 256)).set 7 (udpC s d u % 256) := by unfold putUL putUB; rw [if_pos hpe, if_neg (by simp [hc9])]
     exact ⟨_, by rw [hpe], by rw [hl0]; exact S.toFB (i := 0) rfl⟩
end Go.Proofs.YtkahmepenjhcpaaDoor.W
/- Contracts: options of segments read. No statement of the seat is proved here. -/
namespace Go.Proofs.YtkahmepenjhcpaaDoor.W
open Go
set_option linter.unusedSimpArgs false
set_option linter.unusedVariables false
def refO (o : Opt) : Bool := refLen o.kind (2 + (o.data.length : Int))
def toptsG (b : List Int) : Option (List Opt) := (optsG b).bind fun l => if l.all refO = true then some l else none
def tE (b : List Int) : Int := if 40 < b.length then 97 else if (toptsG b).isSome then 0 else 97
def tL (b : List Int) : List Opt := if 40 < b.length then [] else (toptsG b).getD []
def toptAcc (b : List Int) (acc : List Opt) (i : Nat) : Prop := toptsG b = (toptsG (b.drop i)).map (acc ++ ·)
theorem toptAcc.zero (b : List Int) : toptAcc b [] 0 := by
  unfold toptAcc
  rw [List.drop_zero]
  cases toptsG b <;> simp
theorem toptAcc.step {b : List Int} {acc : List Opt} {i j : Nat} {o : Opt} (h : toptAcc b acc i) (hs : toptsG (b.drop i) = (toptsG (b.drop j)).map (o :: ·)) : toptAcc b (acc ++ [o]) j := by
  unfold toptAcc at *
  rw [h, hs]
  cases toptsG (b.drop j) <;> simp
theorem toptAcc.skip {b : List Int} {acc : List Opt} {i j : Nat} (h : toptAcc b acc i) (hs : toptsG (b.drop i) = toptsG (b.drop j)) : toptAcc b acc j := by
  unfold toptAcc at *; rw [h, hs]
theorem toptAcc.bad {b : List Int} {acc : List Opt} {i : Nat} (h : toptAcc b acc i) (h4 : b.length ≤ 40) (hs : toptsG (b.drop i) = none) : tE b = 97 ∧ tL b = [] := by
  unfold toptAcc at h
  rw [hs] at h
  have h40 : ¬ 40 < b.length := by omega
  simp [tE, tL, h40, h]
theorem toptAcc.good {b : List Int} {acc : List Opt} {i : Nat} (h : toptAcc b acc i) (h4 : b.length ≤ 40) (hs : toptsG (b.drop i) = some []) : tE b = 0 ∧ tL b = acc := by
  unfold toptAcc at h
  rw [hs] at h
  have h40 : ¬ 40 < b.length := by omega
  simp [tE, tL, h40, h]
theorem topt_long {b : List Int} (h : 40 < b.length) : tE b = 97 ∧ tL b = [] := by simp [tE, tL, h]
theorem topts_zero {b : List Int} {i : Nat} (h : i < b.length) (h0 : b.getD i 0 = 0) : toptsG (b.drop i) = some [] := by unfold toptsG; rw [optsG_zero h h0]; rfl
theorem topts_nil {b : List Int} {i : Nat} (h : b.length ≤ i) : toptsG (b.drop i) = some [] := by unfold toptsG; rw [optsG_nil h]; rfl
theorem topts_one {b : List Int} {i : Nat} (h : i < b.length) (h0 : b.getD i 0 = 1) : toptsG (b.drop i) = toptsG (b.drop (i + 1)) := by unfold toptsG; rw [optsG_one h h0]
theorem topts_end {b : List Int} {i : Nat} (h : i + 1 = b.length) (h0 : b.getD i 0 ≠ 0) (h1 : b.getD i 0 ≠ 1) : toptsG (b.drop i) = none := by unfold toptsG; rw [optsG_end h h0 h1]; rfl
theorem topts_bad {b : List Int} {i : Nat} (h : i + 1 < b.length) (h0 : b.getD i 0 ≠ 0) (h1 : b.getD i 0 ≠ 1) (hn : b.getD (i + 1) 0 < 2 ∨ (b.length : Int) < i + b.getD (i + 1) 0) : toptsG (b.drop i) = none := by unfold toptsG; rw [optsG_bad h h0 h1 hn]; rfl
theorem topt_len {b : List Int} {i m : Nat} (h2 : 2 ≤ m) (h3 : i + m ≤ b.length) : ((b.drop (i + 2)).take (i + m - (i + 2))).length = m - 2 := by rw [List.length_take, List.length_drop]; omega
theorem topts_go {b : List Int} {i m : Nat} (h0 : b.getD i 0 ≠ 0) (h1 : b.getD i 0 ≠ 1) (hm : b.getD (i + 1) 0 = m) (h2 : 2 ≤ m) (h3 : i + m ≤ b.length) (hr : refLen (b.getD i 0) m = true) :
    toptsG (b.drop i) = (toptsG (b.drop (i + m))).map (⟨b.getD i 0, (b.drop (i + 2)).take (i + m - (i + 2))⟩ :: ·) := by
  unfold toptsG
  rw [optsG_go h0 h1 hm h2 h3]
  have ho : refO ⟨b.getD i 0, (b.drop (i + 2)).take (i + m - (i + 2))⟩ = true := by
    unfold refO
    rw [show (2 : Int) + (((b.drop (i + 2)).take (i + m - (i + 2))).length : Int) = m from by rw [topt_len h2 h3]; omega]
    exact hr
  cases optsG (b.drop (i + m)) with
  | none => rfl
  | some l =>
    simp only [Option.map_some, Option.bind_some, List.all_cons, ho, Bool.true_and]
    split <;> rfl
theorem topts_no {b : List Int} {i m : Nat} (h0 : b.getD i 0 ≠ 0) (h1 : b.getD i 0 ≠ 1) (hm : b.getD (i + 1) 0 = m) (h2 : 2 ≤ m) (h3 : i + m ≤ b.length) (hr : refLen (b.getD i 0) m = false) : toptsG (b.drop i) = none := by
  unfold toptsG
  rw [optsG_go h0 h1 hm h2 h3]
  have ho : refO ⟨b.getD i 0, (b.drop (i + 2)).take (i + m - (i + 2))⟩ = false := by
    unfold refO
    rw [show (2 : Int) + (((b.drop (i + 2)).take (i + m - (i + 2))).length : Int) = m from by rw [topt_len h2 h3]; omega]
    exact hr
  cases optsG (b.drop (i + m)) with
  | none => rfl
  | some l => simp only [Option.map_some, Option.bind_some, List.all_cons, ho, Bool.false_and]; rfl
def tputOk (l : List Opt) : Bool := l.all refO && putOk l
def tputE (l : List Opt) : Int := if tputOk l = true then 0 else 97
def tputL (l : List Opt) : List Int := if tputOk l = true then pad4 (optsB l) else []
theorem tputE_or (l : List Opt) : tputE l = 0 ∨ tputE l = 97 := by unfold tputE; split <;> simp
theorem tput_put {l : List Opt} (h : tputOk l = true) : l.all refO = true ∧ putOk l = true := by unfold tputOk at h; simpa using h
theorem tputL_putL {l : List Opt} (h : tputOk l = true) : tputL l = putL l := by unfold tputL putL; rw [if_pos h, if_pos (tput_put h).2]
theorem tputL_len (l : List Opt) : (tputL l).length ≤ 40 ∧ (tputL l).length % 4 = 0 := by
  by_cases h : tputOk l = true
  · rw [tputL_putL h]; exact putL_len l
  · unfold tputL; rw [if_neg h]; simp
theorem tputL_byt {os : List Opt} (hd : ∀ o ∈ os, W.byt o.data) : W.byt (tputL os) := by
  by_cases h : tputOk os = true
  · rw [tputL_putL h]; exact putL_byt hd
  · unfold tputL; rw [if_neg h]; exact byt_nil
theorem tput_noR {l : List Opt} {i : Nat} (h : i < l.length) (hb : refO (l.getD i o0) = false) : tputOk l = false := by
  unfold tputOk
  have : l.all refO = false := by
    rw [List.all_eq_false]
    exact ⟨l.getD i o0, getD_mem' h, by rw [hb]; simp⟩
  rw [this]; rfl
theorem tput_noP {l : List Opt} (h : putOk l = false) : tputOk l = false := by unfold tputOk; rw [h, Bool.and_false]
theorem all_refO_succ {l : List Opt} {i : Nat} (h : i < l.length) (h1 : (l.take i).all refO = true) (h2 : refO (l.getD i o0) = true) : (l.take (i + 1)).all refO = true := by
  rw [take_succ_getD h (d := o0), List.all_append, h1, List.all_cons, h2]
  rfl
set_option maxHeartbeats 1000000 in
theorem c67 (v : Value) (b : List Int) (w : World) (hb : BS [] w v b) (hg3 : GV [] w 3 183 (lenT.map u64)) :
    CallsV Tryd.prog 67 #[v] w (fun r w' => ∃ u vs, r = .tuple #[u, .int .i64 (tE b)] ∧ FO w w' u (tL b) vs ∧ ∀ N w1, BS N w1 v b → OSs N w1 vs (tL b)) := by
  refine enter Tryd.func67 rfl Tryd.ntmps67 (l := [(0, [], _)]) rfl rfl ?_
  have S := St.refl [] w
  refine Run.seq ?_
  refine Run.region ?_
  refine asg1 rfl rfl ?_
  refine asg1 rfl rfl ?_
  refine Ro.nil ?_
  refine Nrm.code ?_
  refine Run.seq ?_
  refine Run.seq ?_
  refine Run.region ?_
  refine mv1 rfl rfl ?_
  refine lenS rfl hb.2 Tryd.underlying26 rfl rfl rfl ?_
  refine gtr1 rfl rfl rfl ?_
  refine Ro.nil ?_
  refine Nrm.code ?_
  refine Run.cond rfl (fun hc1 => ?_) (fun hc1 => ?_)
  ·
    try simp only [Bool.or_eq_true, Bool.and_eq_true, Bool.or_eq_false_iff, Bool.and_eq_false_iff, decide_eq_true_eq, decide_eq_false_iff_not, Bool.not_eq_true', Bool.not_eq_false', Bool.not_eq_true, Bool.not_eq_false] at hc1
    refine Run.seq ?_
    refine Run.region ?_
    refine asg1 rfl rfl ?_
    refine asg1 rfl rfl ?_
    refine Ro.nil ?_
    refine Nrm.code ?_
    refine Run.ret ?_
    refine Rt.two rfl rfl rfl ?_
    have hbad := topt_long (b := b) (by omega)
    have S := S.nilO
    exact ⟨.slice none 0 0, [], by rw [hbad.1], by rw [hbad.2]; exact S.toFO (i := 0) rfl, fun _ _ _ => by rw [hbad.2]; trivial⟩
  ·
    try simp only [Bool.or_eq_true, Bool.and_eq_true, Bool.or_eq_false_iff, Bool.and_eq_false_iff, decide_eq_true_eq, decide_eq_false_iff_not, Bool.not_eq_true', Bool.not_eq_false', Bool.not_eq_true, Bool.not_eq_false] at hc1
    refine Run.skip ?_
    refine Nrm.code ?_
    refine Run.seq ?_
    refine Run.region ?_
    refine asg1 rfl rfl ?_
    have S := S.nilO
    refine Ro.nil ?_
    refine Nrm.code ?_
    refine Run.seq ?_
    refine Run.seq ?_
    refine Run.region ?_
    refine asg1 rfl rfl ?_
    refine Ro.nil ?_
    refine Nrm.code ?_
    refine Run.block ?_
    refine Run.loop4 (fun (i : Nat) (u : Value) (acc : List Opt) (vs : List Value) w_ => i ≤ b.length ∧ vs.length = acc.length ∧ acc.length ≤ i ∧ toptAcc b acc i ∧ (∀ N w1, BS N w1 v b → OSs N w1 vs acc) ∧ St [] w [oO u acc vs] w_) (fun (i : Nat) (u : Value) (acc : List Opt) (vs : List Value) => [(0, [], v), (4, [], u), (5, [], .int .i64 i)]) (fun (i : Nat) (u : Value) (acc : List Opt) (vs : List Value) => b.length - i) (0) (_) ([]) ([]) ⟨Nat.zero_le _, rfl, Nat.le_refl _, toptAcc.zero b, fun _ _ _ => trivial, S⟩ ⟨rfl, rfl, rfl, trivial⟩ ?_
    rintro i u acc vs w1 ⟨hi, hvl, hal, hacc, hvs, S⟩
    refine Run.seq ?_
    refine Run.seq ?_
    refine Run.region ?_
    refine mv1 rfl rfl ?_
    refine mv1 rfl rfl ?_
    refine lenS rfl hb.2 Tryd.underlying26 rfl rfl rfl ?_
    refine lss1 rfl rfl rfl ?_
    refine Ro.nil ?_
    refine Nrm.code ?_
    refine Run.cond rfl (fun hc5 => ?_) (fun hc5 => ?_)
    ·
      try simp only [Bool.or_eq_true, Bool.and_eq_true, Bool.or_eq_false_iff, Bool.and_eq_false_iff, decide_eq_true_eq, decide_eq_false_iff_not, Bool.not_eq_true', Bool.not_eq_false', Bool.not_eq_true, Bool.not_eq_false] at hc5
      refine Run.skip ?_
      refine Nrm.code ?_
      refine Run.block ?_
      refine Run.seq ?_
      refine Run.region ?_
      refine mv1 rfl rfl ?_
      refine mv1 rfl rfl ?_
      refine ixa rfl rfl hb.2 e26 rfl rfl rfl rfl (fun _ => by first | omega | (simp only [List.length_cons, List.length_nil]; omega)) ?_
      refine ldB rfl hb S T5 rfl rfl rfl (fun _ => by omega) ?_
      intro q18 hq18 hbq18
      try simp only [Int.toNat_natCast, Nat.mul_one, Int.reduceToNat] at hq18
      refine cvi1 rfl rfl Tryd.underlying5 Tryd.underlying3 (w64 (by omega)) ?_
      refine asg1 rfl rfl ?_
      refine Ro.nil ?_
      refine Nrm.code ?_
      refine Run.seq ?_
      refine Run.seq ?_
      refine Run.region ?_
      refine mv1 rfl rfl ?_
      refine eql1 rfl rfl rfl ?_
      refine Ro.nil ?_
      refine Nrm.code ?_
      refine Run.cond rfl (fun hc7 => ?_) (fun hc7 => ?_)
      ·
        try simp only [Bool.or_eq_true, Bool.and_eq_true, Bool.or_eq_false_iff, Bool.and_eq_false_iff, decide_eq_true_eq, decide_eq_false_iff_not, Bool.not_eq_true', Bool.not_eq_false', Bool.not_eq_true, Bool.not_eq_false] at hc7
        refine Run.exit ?_
        refine Lv.code ?_
        refine Lv.miss rfl ?_
        refine Lv.back ?_
        refine Lv.hit ?_
        refine Nrm.code ?_
        refine Run.seq ?_
        refine Run.region ?_
        refine mv1 rfl rfl ?_
        refine asg1 rfl rfl ?_
        refine asg1 rfl rfl ?_
        refine Ro.nil ?_
        refine Nrm.code ?_
        refine Run.ret ?_
        refine Rt.two rfl rfl rfl ?_
        have hg := hacc.good (by omega) (topts_zero (by omega) (by omega))
        exact ⟨u, vs, by rw [hg.1], by rw [hg.2]; exact S.toFO (i := 0) rfl, by rw [hg.2]; exact hvs⟩
      ·
        try simp only [Bool.or_eq_true, Bool.and_eq_true, Bool.or_eq_false_iff, Bool.and_eq_false_iff, decide_eq_true_eq, decide_eq_false_iff_not, Bool.not_eq_true', Bool.not_eq_false', Bool.not_eq_true, Bool.not_eq_false] at hc7
        refine Run.skip ?_
        refine Nrm.code ?_
        refine Run.seq ?_
        refine Run.seq ?_
        refine Run.region ?_
        refine mv1 rfl rfl ?_
        refine eql1 rfl rfl rfl ?_
        refine Ro.nil ?_
        refine Nrm.code ?_
        refine Run.cond rfl (fun hc8 => ?_) (fun hc8 => ?_)
        ·
          try simp only [Bool.or_eq_true, Bool.and_eq_true, Bool.or_eq_false_iff, Bool.and_eq_false_iff, decide_eq_true_eq, decide_eq_false_iff_not, Bool.not_eq_true', Bool.not_eq_false', Bool.not_eq_true, Bool.not_eq_false] at hc8
          refine Run.seq ?_
          refine Run.region ?_
          refine mv1 rfl rfl ?_
          refine add1 rfl rfl rfl (w64 (by omega)) ?_
          refine asg1 rfl rfl ?_
          refine Ro.nil ?_
          refine Nrm.code ?_
          refine Run.exit ?_
          refine Lv.code ?_
          refine Lv.hit ?_
          refine Nrm.loop4 (i + 1) (_) (_) (_) ⟨by omega, hvl, by omega, hacc.skip (topts_one (by omega) (by omega)), hvs, S⟩ (by omega) ⟨rfl, rfl, rfl, trivial⟩
        ·
          try simp only [Bool.or_eq_true, Bool.and_eq_true, Bool.or_eq_false_iff, Bool.and_eq_false_iff, decide_eq_true_eq, decide_eq_false_iff_not, Bool.not_eq_true', Bool.not_eq_false', Bool.not_eq_true, Bool.not_eq_false] at hc8
          refine Run.skip ?_
          refine Nrm.code ?_
          refine Run.seq ?_
          refine Run.seq ?_
          refine Run.region ?_
          refine mv1 rfl rfl ?_
          refine add1 rfl rfl rfl (w64 (by omega)) ?_
          refine mv1 rfl rfl ?_
          refine lenS rfl hb.2 Tryd.underlying26 rfl rfl rfl ?_
          refine eql1 rfl rfl rfl ?_
          refine Ro.nil ?_
          refine Nrm.code ?_
          refine Run.cond rfl (fun hc10 => ?_) (fun hc10 => ?_)
          ·
            try simp only [Bool.or_eq_true, Bool.and_eq_true, Bool.or_eq_false_iff, Bool.and_eq_false_iff, decide_eq_true_eq, decide_eq_false_iff_not, Bool.not_eq_true', Bool.not_eq_false', Bool.not_eq_true, Bool.not_eq_false] at hc10
            refine Run.seq ?_
            refine Run.region ?_
            refine asg1 rfl rfl ?_
            refine asg1 rfl rfl ?_
            refine Ro.nil ?_
            refine Nrm.code ?_
            refine Run.ret ?_
            refine Rt.two rfl rfl rfl ?_
            have hbad := hacc.bad (by omega) (topts_end (by omega) (by omega) (by omega))
            have S := S.nilO
            exact ⟨.slice none 0 0, [], by rw [hbad.1], by rw [hbad.2]; exact S.toFO (i := 0) rfl, fun _ _ _ => by rw [hbad.2]; trivial⟩
          ·
            try simp only [Bool.or_eq_true, Bool.and_eq_true, Bool.or_eq_false_iff, Bool.and_eq_false_iff, decide_eq_true_eq, decide_eq_false_iff_not, Bool.not_eq_true', Bool.not_eq_false', Bool.not_eq_true, Bool.not_eq_false] at hc10
            refine Run.skip ?_
            refine Nrm.code ?_
            refine Run.seq ?_
            refine Run.region ?_
            refine mv1 rfl rfl ?_
            refine mv1 rfl rfl ?_
            refine add1 rfl rfl rfl (w64 (by omega)) ?_
            refine ixa rfl rfl hb.2 e26 rfl rfl rfl rfl (fun _ => by first | omega | (simp only [List.length_cons, List.length_nil]; omega)) ?_
            refine ldB rfl hb S T5 rfl rfl rfl (fun _ => by omega) ?_
            intro q35 hq35 hbq35
            try simp only [Int.toNat_natCast, Nat.mul_one, Int.reduceToNat] at hq35
            replace hq35 : q35 = b.getD (i + 1) 0 := hq35
            refine cvi1 rfl rfl Tryd.underlying5 Tryd.underlying3 (w64 (by omega)) ?_
            refine asg1 rfl rfl ?_
            refine Ro.nil ?_
            refine Nrm.code ?_
            refine Run.seq ?_
            refine Run.seq ?_
            refine Run.region ?_
            refine mv1 rfl rfl ?_
            refine lss1 rfl rfl rfl ?_
            refine mv1 rfl rfl ?_
            refine mv rfl rfl rfl rfl ?_
            refine mv rfl rfl rfl rfl ?_
            refine add rfl rfl rfl rfl rfl rfl (fun hG => by first | exact w64 (by omega) | (simp [allT] at hG; exact w64 (by omega))) ?_
            refine mv rfl rfl rfl rfl ?_
            refine lenS rfl hb.2 Tryd.underlying26 rfl rfl rfl ?_
            refine gtr rfl rfl rfl rfl rfl rfl ?_
            refine pkO rfl rfl rfl rfl rfl rfl ?_
            refine mv1 rfl rfl ?_
            refine mv rfl rfl rfl rfl ?_
            refine mv rfl rfl rfl rfl ?_
            refine calg (vs := [_, _]) rfl ⟨⟨_, _, rfl, rfl⟩, ⟨_, _, rfl, rfl⟩, trivial⟩ k127 rfl (fun hG => by have h127 := c127 q18 q35 _ (by omega) (by omega) (hg3.now S); rw [right_len (by omega) (by (simp [allT] at hG); omega)] at h127; exact h127) ?_
            intro w2 B_; have S := S.call B_
            refine nt rfl rfl rfl rfl ?_
            refine pkO rfl rfl rfl rfl rfl rfl ?_
            refine Ro.nil ?_
            refine Nrm.code ?_
            refine Run.cond rfl (fun hc13 => ?_) (fun hc13 => ?_)
            ·
              try simp only [Bool.or_eq_true, Bool.and_eq_true, Bool.or_eq_false_iff, Bool.and_eq_false_iff, decide_eq_true_eq, decide_eq_false_iff_not, Bool.not_eq_true', Bool.not_eq_false', Bool.not_eq_true, Bool.not_eq_false] at hc13
              refine Run.seq ?_
              refine Run.region ?_
              refine asg1 rfl rfl ?_
              refine asg1 rfl rfl ?_
              refine Ro.nil ?_
              refine Nrm.code ?_
              refine Run.ret ?_
              refine Rt.two rfl rfl rfl ?_
              have hno : toptsG (b.drop i) = none := by
                by_cases hlt : q35 < 2 ∨ (b.length : Int) < i + q35
                · exact topts_bad (by omega) (by omega) (by omega) (by omega)
                · obtain ⟨m, hm⟩ : ∃ m : Nat, q35 = m := ⟨q35.toNat, by omega⟩
                  have hrf : refLen q18 q35 = false := by
                    rcases hc13 with h | h
                    · exact absurd h hlt
                    · exact h
                  rw [hm, hq18] at hrf
                  exact topts_no (by omega) (by omega) (by rw [← hm]; exact hq35.symm) (by omega) (by omega) hrf
              have hbad := hacc.bad (by omega) hno
              have S := S.nilO
              exact ⟨.slice none 0 0, [], by rw [hbad.1], by rw [hbad.2]; exact S.toFO (i := 0) rfl, fun _ _ _ => by rw [hbad.2]; trivial⟩
            ·
              try simp only [Bool.or_eq_true, Bool.and_eq_true, Bool.or_eq_false_iff, Bool.and_eq_false_iff, decide_eq_true_eq, decide_eq_false_iff_not, Bool.not_eq_true', Bool.not_eq_false', Bool.not_eq_true, Bool.not_eq_false] at hc13
              obtain ⟨m, hm⟩ : ∃ m : Nat, q35 = m := ⟨q35.toNat, by omega⟩
              subst hm
              have hrf : refLen q18 (m : Int) = true := by simpa using hc13.2
              replace hc13 := hc13.1
              replace hq35 : (m : Int) = b.getD (i + 1) 0 := hq35
              refine Run.skip ?_
              refine Nrm.code ?_
              refine Run.seq ?_
              refine Run.region ?_
              refine mv1 rfl rfl ?_
              refine mv1 rfl rfl ?_
              refine mv1 rfl rfl ?_
              refine mv1 rfl rfl ?_
              refine add1 rfl rfl rfl (w64 (by omega)) ?_
              refine mv1 rfl rfl ?_
              refine mv1 rfl rfl ?_
              refine add1 rfl rfl rfl (w64 (by omega)) ?_
              refine mv1 rfl rfl ?_
              refine mv1 rfl rfl ?_
              refine add1 rfl rfl rfl (w64 (by omega)) ?_
              refine slC (lo := i + 2) (hi := i + m) (mx := i + m) rfl hb e26 rfl rfl rfl (i1 := some (i + 2)) (i2 := some (i + m)) (i3 := some (i + m)) ⟨_, _, _, rfl, rfl⟩ ⟨_, _, _, rfl, rfl⟩ ⟨_, _, _, rfl, rfl⟩ rfl rfl rfl (fun h => by first | rfl | cases h) (fun hG => by (try simp [allT] at hG); have hcap := hb.cap; omega) ?_
              have hv64 := hb.cut (lo := i + 2) (hi := i + m) (mx := i + m) (by have hcap := hb.cap; omega)
              refine bld B93 (qs := [(_, _), (_, _)]) ⟨⟨_, _, _, rfl, rfl, rfl, rfl, by first | (simp [Value.cells]; done) | simp [Value.cells, encIP]⟩, ⟨_, _, _, rfl, rfl, cells1 hv64.one, rfl, List.cons_ne_nil _ _⟩, trivial⟩ rfl rfl rfl ?_
              refine apOF (dt := (b.drop (i + 2)).take (i + m - (i + 2))) rfl e25 (qs := [(_, _)]) ⟨⟨_, _, _, rfl, rfl, rfl, rfl, by first | (simp [Value.cells]; done) | simp [Value.cells, encIP]⟩, trivial⟩ rfl hv64.one hvl S (i := 0) rfl rfl rfl (fun t e => by cases e; rfl) (fun _ => rfl) (by first | omega | (simp only [List.length_nil, List.length_append, List.length_cons]; omega)) ?_
              intro u_ u2 w3 S B_
              refine asg1 rfl rfl ?_
              refine Ro.nil ?_
              refine Nrm.code ?_
              refine Run.region ?_
              refine mv1 rfl rfl ?_
              refine mv1 rfl rfl ?_
              refine add1 rfl rfl rfl (w64 (by omega)) ?_
              refine asg1 rfl rfl ?_
              refine Ro.nil ?_
              refine Nrm.blk ?_
              refine Nrm.loop4 (i + m) (_) (_) (_) ⟨by omega, by simp [hvl], acc_len hal _ (by omega), hacc.step (by rw [hq18]; exact topts_go (by omega) (by omega) hq35.symm (by omega) (by omega) (by rw [← hq18]; exact hrf)),
                      fun N w1 h1 => (hvs N w1 h1).snoc (h1.cut (by have := h1.cap; omega)), S⟩ (by omega) ⟨rfl, rfl, rfl, trivial⟩
    ·
      try simp only [Bool.or_eq_true, Bool.and_eq_true, Bool.or_eq_false_iff, Bool.and_eq_false_iff, decide_eq_true_eq, decide_eq_false_iff_not, Bool.not_eq_true', Bool.not_eq_false', Bool.not_eq_true, Bool.not_eq_false] at hc5
      refine Run.exit ?_
      refine Lv.code ?_
      refine Lv.back ?_
      refine Lv.hit ?_
      refine Nrm.code ?_
      refine Run.seq ?_
      refine Run.region ?_
      refine mv1 rfl rfl ?_
      refine asg1 rfl rfl ?_
      refine asg1 rfl rfl ?_
      refine Ro.nil ?_
      refine Nrm.code ?_
      refine Run.ret ?_
      refine Rt.two rfl rfl rfl ?_
      have hg := hacc.good (by omega) (topts_nil (by omega))
      exact ⟨u, vs, by rw [hg.1], by rw [hg.2]; exact S.toFO (i := 0) rfl, by rw [hg.2]; exact hvs⟩
end Go.Proofs.YtkahmepenjhcpaaDoor.W
/- Contracts: options of segments written. No statement of the seat is proved here. -/
namespace Go.Proofs.YtkahmepenjhcpaaDoor.W
open Go
set_option linter.unusedSimpArgs false
set_option linter.unusedVariables false
set_option maxHeartbeats 1000000 in
theorem c73 (v : Value) (os : List Opt) (w : World) (hO : OS [] w v os) (hl : os.length ≤ 1099511627776) (hdl : ∀ o ∈ os, o.data.length ≤ 1099511627776) (hg3 : GV [] w 3 183 (lenT.map u64)) :
    CallsV Tryd.prog 73 #[v] w (fun r w' => ∃ u, r = .tuple #[u, .int .i64 (tputE os)] ∧ FB w w' u (tputL os)) := by
  refine enter Tryd.func73 rfl Tryd.ntmps73 (l := [(0, [], _)]) rfl rfl ?_
  have S := St.refl [] w
  obtain ⟨ds, hOS, hOB⟩ := hO
  refine Run.seq ?_
  refine Run.region ?_
  refine asg1 rfl rfl ?_
  refine asg1 rfl rfl ?_
  refine Ro.nil ?_
  refine Nrm.code ?_
  refine Run.seq ?_
  refine Run.region ?_
  refine asg1 rfl rfl ?_
  have S := S.nilB
  refine Ro.nil ?_
  refine Nrm.code ?_
  refine Run.seq ?_
  refine Run.seq ?_
  refine Run.region ?_
  refine mv1 rfl rfl ?_
  refine lenS rfl hOS Tryd.underlying25 rfl rfl rfl ?_
  refine mv1 rfl rfl ?_
  refine Ro.nil ?_
  refine Nrm.code ?_
  refine Run.block ?_
  refine Run.loop3 (fun (i : Nat) (u : Value) (out : List Int) w_ => i ≤ os.length ∧ (os.take i).all okO = true ∧ (os.take i).all refO = true ∧ (optsB (os.take i)).length ≤ 40 ∧ out = optsB (os.take i) ∧ St [] w [oB u out] w_) (fun (i : Nat) (u : Value) (out : List Int) => [(4, [], u), (8, [], v), (9, [], .int .i64 os.length), (10, [], .int .i64 i)]) (fun (i : Nat) (u : Value) (out : List Int) => os.length - i) (0) (_) ([]) ⟨Nat.zero_le _, rfl, rfl, by simp [optsB], rfl, S⟩ ⟨rfl, rfl, rfl, rfl, trivial⟩ ?_
  rintro i u out w1 ⟨hi, hall, hallR, hlen, hout, S⟩
  have hlo0 : out.length = (optsB (os.take i)).length := by rw [hout]
  refine Run.seq ?_
  refine Run.region ?_
  refine lss1 rfl rfl rfl ?_
  refine Ro.nil ?_
  refine Nrm.code ?_
  refine Run.seq ?_
  refine Run.cond rfl (fun hc3 => ?_) (fun hc3 => ?_)
  ·
    try simp only [Bool.or_eq_true, Bool.and_eq_true, Bool.or_eq_false_iff, Bool.and_eq_false_iff, decide_eq_true_eq, decide_eq_false_iff_not, Bool.not_eq_true', Bool.not_eq_false', Bool.not_eq_true, Bool.not_eq_false] at hc3
    refine Run.skip ?_
    refine Nrm.code ?_
    refine Run.seq ?_
    refine Run.block ?_
    refine Run.seq ?_
    refine Run.region ?_
    obtain ⟨p, hp, hpb⟩ := hOB.at (i := i) (by omega)
    have hge : (os[i]?.getD o0).data.length = (os.getD i o0).data.length := by rw [List.getD_eq_getElem?_getD]
    have hgk : (os[i]?.getD o0).kind = (os.getD i o0).kind := by rw [List.getD_eq_getElem?_getD]
    have hdi := hdl _ (getD_mem' (d := o0) (show i < os.length by omega))
    refine ixa rfl rfl hOS e25 rfl rfl rfl rfl (fun _ => by first | omega | (simp only [List.length_cons, List.length_nil]; omega)) ?_
    refine ldEA rfl hOS S T93 rfl rfl rfl (by decide) rfl (fun _ => hOB.two (by omega) hp) ?_
    refine alc T93 S rfl ?_
    intro b6 w2 hb6 S B_
    refine stW rfl rfl T93 rfl rfl (one_cons rfl (one_cons hpb.one one_nil)) S (i := 0) rfl rfl ?_
    intro w3 S
    refine Ro.nil ?_
    refine Nrm.code ?_
    refine Run.seq ?_
    refine Run.region ?_
    refine fld (o' := 1) rfl fo93_1 rfl rfl rfl rfl ?_
    refine ld1 rfl T26 S (i := 0) rfl rfl rfl rfl rfl ?_
    refine lenS rfl hpb.2 Tryd.underlying26 rfl rfl rfl ?_
    refine add1 rfl rfl rfl (w64 (by omega)) ?_
    refine asg1 rfl rfl ?_
    refine Ro.nil ?_
    refine Nrm.code ?_
    refine Run.seq ?_
    refine Run.seq ?_
    refine Run.region ?_
    refine fld (o' := 0) rfl fo93_0 rfl rfl rfl rfl ?_
    refine ld1 rfl T3 S (i := 0) rfl rfl rfl rfl rfl ?_
    refine lss1 rfl rfl rfl ?_
    refine mv1 rfl rfl ?_
    refine fld (o' := 0) rfl fo93_0 rfl rfl rfl rfl ?_
    refine ld1 rfl T3 S (i := 0) rfl rfl rfl rfl rfl ?_
    refine gtr rfl rfl rfl rfl rfl rfl ?_
    refine pkO rfl rfl rfl rfl rfl rfl ?_
    refine mv1 rfl rfl ?_
    refine mv rfl rfl rfl rfl ?_
    refine gtr rfl rfl rfl rfl rfl rfl ?_
    refine pkO rfl rfl rfl rfl rfl rfl ?_
    refine mv1 rfl rfl ?_
    refine fld (o' := 0) rfl fo93_0 rfl rfl rfl rfl ?_
    refine ld1 rfl T3 S (i := 0) rfl rfl rfl rfl rfl ?_
    refine mv rfl rfl rfl rfl ?_
    refine calg (vs := [_, _]) rfl ⟨⟨_, _, rfl, rfl⟩, ⟨_, _, rfl, rfl⟩, trivial⟩ k127 rfl (fun hG => by have h127 := c127 (os.getD i o0).kind (2 + ((os.getD i o0).data.length : Int)) _ (by (simp [allT] at hG); omega) (by (simp [allT] at hG); omega) (hg3.now S); rw [right_len (by (simp [allT] at hG); omega) (by omega)] at h127; exact h127) ?_
    intro w4 B_; have S := S.call B_
    refine nt rfl rfl rfl rfl ?_
    refine pkO rfl rfl rfl rfl rfl rfl ?_
    refine mv1 rfl rfl ?_
    refine mv rfl rfl rfl rfl ?_
    refine lenS rfl (S.slI (i := 1) rfl) Tryd.underlying26 rfl rfl rfl ?_
    refine mv rfl rfl rfl rfl ?_
    refine add rfl rfl rfl rfl rfl rfl (fun hG => by first | exact w64 (by omega) | (simp [allT] at hG; exact w64 (by omega))) ?_
    refine gtr rfl rfl rfl rfl rfl rfl ?_
    refine pkO rfl rfl rfl rfl rfl rfl ?_
    refine Ro.nil ?_
    refine Nrm.code ?_
    refine Run.cond rfl (fun hc6 => ?_) (fun hc6 => ?_)
    ·
      try simp only [Bool.or_eq_true, Bool.and_eq_true, Bool.or_eq_false_iff, Bool.and_eq_false_iff, decide_eq_true_eq, decide_eq_false_iff_not, Bool.not_eq_true', Bool.not_eq_false', Bool.not_eq_true, Bool.not_eq_false] at hc6
      have hno : tputOk os = false := by
        by_cases hr : refO (os.getD i o0) = true
        · refine tput_noP (putOk_no (i := i) (by omega) ?_)
          have hr2 : ¬ refLen (os.getD i o0).kind (2 + ((os.getD i o0).data.length : Int)) = false := by unfold refO at hr; rw [hr]; simp
          by_cases hk : okO (os.getD i o0) = true
          · right; rw [okO_iff] at hk; rw [← hout]; rcases hc6 with ((h | h) | h)
            · omega
            · exact absurd h hr2
            · omega
          · left; simpa using hk
        · exact tput_noR (i := i) (by omega) (by simpa using hr)
      refine Run.seq ?_
      refine Run.region ?_
      refine asg1 rfl rfl ?_
      refine asg1 rfl rfl ?_
      refine Ro.nil ?_
      refine Nrm.code ?_
      refine Run.ret ?_
      refine Rt.two rfl rfl rfl ?_
      exact ⟨.slice none 0 0, by simp [tputE, hno], by simpa [tputL, hno] using (S.nilB).toFB (i := 0) rfl⟩
    ·
      try simp only [Bool.or_eq_true, Bool.and_eq_true, Bool.or_eq_false_iff, Bool.and_eq_false_iff, decide_eq_true_eq, decide_eq_false_iff_not, Bool.not_eq_true', Bool.not_eq_false', Bool.not_eq_true, Bool.not_eq_false] at hc6
      have hrO : refO (os.getD i o0) = true := by
        unfold refO
        have h2 := hc6.1.2
        simpa using h2
      replace hc6 := And.intro hc6.1.1 hc6.2
      refine Run.skip ?_
      refine Nrm.code ?_
      refine Run.seq ?_
      refine Run.region ?_
      refine mv1 rfl rfl ?_
      refine fld (o' := 0) rfl fo93_0 rfl rfl rfl rfl ?_
      refine ld1 rfl T3 S (i := 0) rfl rfl rfl rfl rfl ?_
      refine cvi1 rfl rfl Tryd.underlying3 Tryd.underlying5 (w8of rfl (by omega)) ?_
      refine mv1 rfl rfl ?_
      refine cvi1 rfl rfl Tryd.underlying3 Tryd.underlying5 (w8of rfl (by omega)) ?_
      refine apBF (b := [_, _]) rfl e26 (qs := [(_, _), (_, _)]) ⟨⟨_, _, _, rfl, rfl, rfl, rfl, by first | (simp [Value.cells]; done) | simp [Value.cells, encIP]⟩, ⟨_, _, _, rfl, rfl, rfl, rfl, by first | (simp [Value.cells]; done) | simp [Value.cells, encIP]⟩, trivial⟩ (by decide) rfl rfl S (i := 1) rfl rfl rfl (fun t e => by cases e; rfl) (fun _ => rfl) (by first | omega | (simp only [List.length_nil, List.length_append, List.length_cons]; omega)) ?_
      intro u_ v51 w5 S B_
      refine asg1 rfl rfl ?_
      refine Ro.nil ?_
      refine Nrm.code ?_
      refine Run.region ?_
      refine mv1 rfl rfl ?_
      refine fld (o' := 1) rfl fo93_1 rfl rfl rfl rfl ?_
      refine ld1 rfl T26 S (i := 0) rfl rfl rfl rfl rfl ?_
      refine apB rfl rfl e26 (hpb.now S) S (i := 1) rfl rfl (fun _ => rfl) (by first | omega | (simp only [List.length_nil, List.length_append, List.length_cons]; omega)) ?_
      intro v55 w6 S B_
      refine asg1 rfl rfl ?_
      refine Ro.nil ?_
      refine Nrm.blk ?_
      refine Nrm.code ?_
      refine Run.region ?_
      refine add1 rfl rfl rfl (w64 (by omega)) ?_
      refine mv1 rfl rfl ?_
      refine Ro.nil ?_
      refine Nrm.loop3 (i + 1) (_) (_) ⟨by omega, all_take_succ (by omega) hall (okO_iff.2 (by omega)), all_refO_succ (by omega) hallR hrO, by rw [optsB_take_succ (by omega), List.length_append, optB_len, ← hout]; omega, by rw [optsB_take_succ (by omega), hout]; simp [optB], S.drop0⟩ (by omega) ⟨rfl, rfl, rfl, rfl, trivial⟩
  ·
    try simp only [Bool.or_eq_true, Bool.and_eq_true, Bool.or_eq_false_iff, Bool.and_eq_false_iff, decide_eq_true_eq, decide_eq_false_iff_not, Bool.not_eq_true', Bool.not_eq_false', Bool.not_eq_true, Bool.not_eq_false] at hc3
    refine Run.exit ?_
    refine Lv.code ?_
    refine Lv.back ?_
    refine Lv.hit ?_
    refine Nrm.code ?_
    refine Run.seq ?_
    refine Run.block ?_
    have e : i = os.length := by omega
    rw [e, List.take_length] at hall hallR hlen hout
    refine Run.loop3 (fun (m : Nat) (u : Value) (out : List Int) w_ => m ≤ (4 - (optsB os).length % 4) % 4 ∧ out = optsB os ++ List.replicate m 0 ∧ St [] w [oB u out] w_) (fun (m : Nat) (u : Value) (out : List Int) => [(4, [], u)]) (fun (m : Nat) (u : Value) (out : List Int) => 4 - m) (0) (_) (_) ⟨Nat.zero_le _, by simp [hout], S⟩ ⟨rfl, trivial⟩ ?_
    rintro m u out w2 ⟨hm, ho, S⟩
    have hlo : out.length = (optsB os).length + m := by rw [ho]; simp
    refine Run.seq ?_
    refine Run.seq ?_
    refine Run.region ?_
    refine mv1 rfl rfl ?_
    refine lenS rfl (S.slI (i := 0) rfl) Tryd.underlying26 rfl rfl rfl ?_
    refine rem1 rfl rfl rfl (by decide) (r64 (by omega)) ?_
    refine gtr1 rfl rfl rfl ?_
    refine Ro.nil ?_
    refine Nrm.code ?_
    refine Run.cond rfl (fun hc11 => ?_) (fun hc11 => ?_)
    ·
      try simp only [Bool.or_eq_true, Bool.and_eq_true, Bool.or_eq_false_iff, Bool.and_eq_false_iff, decide_eq_true_eq, decide_eq_false_iff_not, Bool.not_eq_true', Bool.not_eq_false', Bool.not_eq_true, Bool.not_eq_false] at hc11
      refine Run.skip ?_
      refine Nrm.code ?_
      refine Run.block ?_
      refine Run.region ?_
      refine mv1 rfl rfl ?_
      refine apBF (b := [_]) rfl e26 (qs := [(_, _)]) ⟨⟨_, _, _, rfl, rfl, rfl, rfl, by first | (simp [Value.cells]; done) | simp [Value.cells, encIP]⟩, trivial⟩ (by decide) rfl rfl S (i := 0) rfl rfl rfl (fun t e => by cases e; rfl) (fun _ => rfl) (by first | omega | (simp only [List.length_nil, List.length_append, List.length_cons]; omega)) ?_
      intro u_ v63 w3 S B_
      refine asg1 rfl rfl ?_
      refine Ro.nil ?_
      refine Nrm.blk ?_
      refine Nrm.loop3 (m + 1) (_) (_) ⟨by omega, by rw [ho, rep_succ], S⟩ (by omega) ⟨rfl, trivial⟩
    ·
      try simp only [Bool.or_eq_true, Bool.and_eq_true, Bool.or_eq_false_iff, Bool.and_eq_false_iff, decide_eq_true_eq, decide_eq_false_iff_not, Bool.not_eq_true', Bool.not_eq_false', Bool.not_eq_true, Bool.not_eq_false] at hc11
      refine Run.exit ?_
      refine Lv.code ?_
      refine Lv.back ?_
      refine Lv.hit ?_
      refine Nrm.code ?_
      refine Run.seq ?_
      refine Run.region ?_
      refine mv1 rfl rfl ?_
      refine asg1 rfl rfl ?_
      refine asg1 rfl rfl ?_
      refine Ro.nil ?_
      refine Nrm.code ?_
      refine Run.ret ?_
      refine Rt.two rfl rfl rfl ?_
      have hyes : tputOk os = true := by unfold tputOk; rw [hallR, putOk_yes hall hlen]; rfl
      exact ⟨u, by simp [tputE, hyes], by rw [show tputL os = out from by simp only [tputL, hyes]; exact (pad4_of ho hm (by omega)).symm]; exact S.toFB (i := 0) rfl⟩
end Go.Proofs.YtkahmepenjhcpaaDoor.W
/- Contracts: a datagram is read. No statement of the seat is proved here. -/
namespace Go.Proofs.YtkahmepenjhcpaaDoor.W
open Go
set_option linter.unusedSimpArgs false
set_option linter.unusedVariables false
def hdN (b : List Int) : Nat := (4 * (b.getD 0 0 % 16)).toNat
def totN (b : List Int) : Nat := (totI b).toNat
def optB4 (b : List Int) : List Int := (b.drop 20).take (hdN b - 20)
def parE (b : List Int) : Int :=
  if 65535 < b.length then 2 else if b.length < 20 then 60 else if b.getD 0 0 / 16 ≠ 4 then 61 else if hdN b < 20 ∨ b.length < hdN b then 62 else if totN b < hdN b ∨ b.length < totN b then 63
  else if sumS (b.take (hdN b)) ≠ 65535 then 64 else if optE (optB4 b) ≠ 0 then optE (optB4 b) else fragE (decide (b.getD 6 0 / 32 % 2 = 1)) (8 * offW b) ((totN b : Int) - hdN b)
def ip0 : IP := ⟨0, fun _ => 0⟩
def h00 : Ip4 := ⟨0, 0, false, false, 0, 0, 0, ip0, ip0, [], []⟩
def parG (b : List Int) : Ip4 := ⟨b.getD 1 0, b.getD 4 0 * 256 + b.getD 5 0, decide (b.getD 6 0 / 64 % 2 = 1), decide (b.getD 6 0 / 32 % 2 = 1), 8 * offW b, b.getD 8 0, b.getD 9 0, ipOf b 12, ipOf b 16, optL (optB4 b), (b.drop (hdN b)).take (totN b - hdN b)⟩
def parH (b : List Int) : Ip4 := if parE b = 0 then parG b else h00
theorem parH_err {b : List Int} {e : Int} (he : parE b = e) (h0 : e ≠ 0) : parH b = h00 := by unfold parH; rw [if_neg (by omega)]
theorem byt_at {b : List Int} (h : byt b) : ∀ k, 0 ≤ b.getD k 0 ∧ b.getD k 0 < 256 := byt_getD h
theorem getD_cut {b : List Int} {i m k : Nat} (hk : k < m) : ((b.drop i).take m).getD k 0 = b.getD (i + k) 0 := by
  rw [List.getD_eq_getElem?_getD, List.getElem?_take_of_lt hk, List.getElem?_drop, List.getD_eq_getElem?_getD]
theorem ipOf_cut (b : List Int) (i : Nat) : ipOf ((b.drop i).take (i + 4 - i)) 0 = ipOf b i := by
  have e : i + 4 - i = 4 := by omega
  unfold ipOf
  rw [e, getD_cut (by omega), getD_cut (by omega), getD_cut (by omega), getD_cut (by omega)]
  rfl
theorem c103at (v : Value) (l b : List Int) (k : Nat) (w : World) (hl : BS [] w v l) (h4 : l.length = 4) (e : ipOf l 0 = ipOf b k) : CallsD Tryd.prog 103 #[v] w (.agg (encIP (ipOf b k)).toArray) := e ▸ c103 v l w hl h4
theorem optE_le (b : List Int) : optE b = 0 ∨ optE b = 65 := by unfold optE; split <;> (try split) <;> simp
set_option maxHeartbeats 1000000 in
theorem c33 (v : Value) (b : List Int) (w : World) (hb : BS [] w v b) (hg : GV [] w 0 130 (W4.map i64)) :
  CallsV Tryd.prog 33 #[v] w (fun r w' => ∃ o d vs, r = .tuple #[.agg (encIp4 (parH b) o d).toArray, .int .i64 (parE b)] ∧ FO w w' o (parH b).opts vs ∧ ∀ N w1, BS N w1 v b → OSs N w1 vs (parH b).opts ∧ BS N w1 d (parH b).data) := by
 refine enter Tryd.func33 rfl Tryd.ntmps33 (l := [(0, [], _)]) rfl rfl ?_
 have S := St.refl [] w
 have hB := byt_at hb.1
 have hfl := fields_ip4 hB
 have g0 := hB 0
 have g2 := hB 2
 have g3 := hB 3
 have g6 := hB 6
 have g7 := hB 7
 have hH : 4 * (b.getD 0 0 % 16) = (hdN b : Int) := by unfold hdN; omega
 have hT : totI b = (totN b : Int) := by unfold totN totI; omega
 have hTb : totN b < 65536 := by unfold totN totI; omega
 have hHb : hdN b ≤ 60 := by omega
 rw [hT] at hfl
 have hwb : 0 ≤ offW b ∧ offW b < 8192 := by unfold offW; omega
 have hoe := optE_le (optB4 b)
 have ho4 : optE (optB4 b) = optE ((b.drop 20).take (hdN b - 20)) := rfl
 refine Run.seq ?_
 refine Run.region ?_
 refine alc T28 S rfl ?_
 intro b2 w1 hb2 S B_
 refine asg1 rfl rfl ?_
 refine Ro.nil ?_
 refine Nrm.code ?_
 refine Run.seq ?_
 refine Run.block ?_
 refine Run.seq ?_
 refine Run.region ?_
 refine mv1 rfl rfl ?_
 refine lenS rfl hb.2 Tryd.underlying26 rfl rfl rfl ?_
 refine gtr1 rfl rfl rfl ?_
 refine asg1 rfl rfl ?_
 refine Ro.nil ?_
 refine Nrm.code ?_
 refine Run.cond rfl (fun hc1 => ?_) (fun hc1 => ?_)
 ·
  try simp only [Bool.or_eq_true, Bool.and_eq_true, Bool.or_eq_false_iff, Bool.and_eq_false_iff, decide_eq_true_eq, decide_eq_false_iff_not, Bool.not_eq_true', Bool.not_eq_false', Bool.not_eq_true, Bool.not_eq_false] at hc1
  refine Run.seq ?_
  refine Run.region ?_
  refine bld B28 (qs := []) trivial rfl rfl rfl ?_
  refine stW rfl rfl T28 rfl rfl (by simp [Value.oneCell']) S (i := 0) rfl rfl ?_
  intro w2 S
  refine asg1 rfl rfl ?_
  refine Ro.nil ?_
  refine Nrm.code ?_
  refine Run.ret ?_
  refine Rt.cell2 rfl rfl rfl T28 S (i := 0) rfl rfl ?_
  have he : parE b = 2 := by
   unfold parE
   rw [if_pos (by omega)]
  exact ⟨.slice none 0 0, .slice none 0 0, [], by rw [parH_err he (by omega), he]; rfl, by rw [parH_err he (by omega)]; exact (S.nilO).toFO (i := 0) rfl, fun _ _ _ => by rw [parH_err he (by omega)]; exact ⟨trivial, BS.nil _ _⟩⟩
 ·
  try simp only [Bool.or_eq_true, Bool.and_eq_true, Bool.or_eq_false_iff, Bool.and_eq_false_iff, decide_eq_true_eq, decide_eq_false_iff_not, Bool.not_eq_true', Bool.not_eq_false', Bool.not_eq_true, Bool.not_eq_false] at hc1
  refine Run.seq ?_
  refine Run.region ?_
  refine mv1 rfl rfl ?_
  refine lenS rfl hb.2 Tryd.underlying26 rfl rfl rfl ?_
  refine lss1 rfl rfl rfl ?_
  refine asg1 rfl rfl ?_
  refine Ro.nil ?_
  refine Nrm.code ?_
  refine Run.cond rfl (fun hc3 => ?_) (fun hc3 => ?_)
  ·
   try simp only [Bool.or_eq_true, Bool.and_eq_true, Bool.or_eq_false_iff, Bool.and_eq_false_iff, decide_eq_true_eq, decide_eq_false_iff_not, Bool.not_eq_true', Bool.not_eq_false', Bool.not_eq_true, Bool.not_eq_false] at hc3
   refine Run.seq ?_
   refine Run.region ?_
   refine bld B28 (qs := []) trivial rfl rfl rfl ?_
   refine stW rfl rfl T28 rfl rfl (by simp [Value.oneCell']) S (i := 0) rfl rfl ?_
   intro w2 S
   refine asg1 rfl rfl ?_
   refine Ro.nil ?_
   refine Nrm.code ?_
   refine Run.ret ?_
   refine Rt.cell2 rfl rfl rfl T28 S (i := 0) rfl rfl ?_
   have he : parE b = 60 := by
    unfold parE
    rw [if_neg (by omega), if_pos (by omega)]
   exact ⟨.slice none 0 0, .slice none 0 0, [], by rw [parH_err he (by omega), he]; rfl, by rw [parH_err he (by omega)]; exact (S.nilO).toFO (i := 0) rfl, fun _ _ _ => by rw [parH_err he (by omega)]; exact ⟨trivial, BS.nil _ _⟩⟩
  ·
   try simp only [Bool.or_eq_true, Bool.and_eq_true, Bool.or_eq_false_iff, Bool.and_eq_false_iff, decide_eq_true_eq, decide_eq_false_iff_not, Bool.not_eq_true', Bool.not_eq_false', Bool.not_eq_true, Bool.not_eq_false] at hc3
   refine Run.skip ?_
   refine Nrm.blk ?_
   refine Nrm.code ?_
   refine Run.seq ?_
   refine Run.region ?_
   refine ldG hg S T130 rfl rfl ?_
   refine alc T130 S rfl ?_
   intro b4 w2 hb4 S B_
   refine stW rfl rfl T130 rfl rfl (by simp [Value.oneCell']) S (i := 0) rfl rfl ?_
   intro w3 S
   refine Ro.nil ?_
   refine Nrm.code ?_
   refine Run.seq ?_
   refine Run.region ?_
   refine mv1 rfl rfl ?_
   refine slAT rfl Tryd.underlying130 T3 rfl rfl rfl (i2 := none) trivial rfl (by decide) (by decide) ?_
   refine call (vs := [_, _, _]) ⟨⟨_, _, rfl, rfl⟩, ⟨_, _, rfl, rfl⟩, ⟨_, _, rfl, rfl⟩, trivial⟩ k101 rfl (c101 _ _ _ W4 _ (hb.now S) (S.varSl (i := 0) (m := 12) (sz := 1) rfl rfl rfl (by decide)) (by decide) (by decide) (by decide) (by rw [show W4.sum / 8 = 12 from by decide]; omega) (by omega)) ?_
   rintro _ w4 ⟨u5, rfl, hF⟩
   rw [hfl] at hF
   have S := S.fi hF
   refine mv1 rfl rfl ?_
   refine extr1 rfl rfl rfl ?_
   refine extr1 rfl rfl rfl ?_
   refine extr1 rfl rfl rfl ?_
   refine asg1 rfl rfl ?_
   refine asg1 rfl rfl ?_
   refine asg1 rfl rfl ?_
   refine Ro.nil ?_
   refine Nrm.code ?_
   refine Run.seq ?_
   refine Run.draw (by kernel_rfl) (by kernel_rfl) S ?_
   refine qmv rfl rfl rfl rfl ?_
   refine qixa rfl rfl (S.slI (i := 0) rfl) e132 rfl rfl rfl rfl (fun _ => by first | omega | (simp only [List.length_cons, List.length_nil]; omega)) ?_
   refine qldR rfl (fun _ S => S) (i := 0) rfl T3 rfl rfl rfl (fun _ => rfl) ?_
   refine qmul rfl rfl rfl rfl rfl rfl (fun _ => (show IntKind.i64.wrap (4 * (b.getD 0 0 % 16)) = (hdN b : Int) from by rw [w64 (by omega)]; exact hH)) ?_
   refine qmv rfl rfl rfl rfl ?_
   refine qixa rfl rfl (S.slI (i := 0) rfl) e132 rfl rfl rfl rfl (fun _ => by first | omega | (simp only [List.length_cons, List.length_nil]; omega)) ?_
   refine qldR rfl (fun _ S => S) (i := 0) rfl T3 rfl rfl rfl (fun _ => rfl) ?_
   refine qasg rfl rfl rfl rfl ?_
   refine qasg rfl rfl rfl rfl ?_
   refine Qo.nil (fun w5 S => ?_)
   refine Nrm.code ?_
   refine Run.seq ?_
   refine Run.block ?_
   refine Run.seq ?_
   refine Run.region ?_
   refine mv1 rfl rfl ?_
   refine ixa rfl rfl (S.slI (i := 0) rfl) e132 rfl rfl rfl rfl (fun _ => by first | omega | (simp only [List.length_cons, List.length_nil]; omega)) ?_
   refine ldE rfl (S.slI (i := 0) rfl) (St.refl [] _) T3 rfl rfl rfl (fun _ => rfl) ?_
   refine neq1 rfl rfl rfl ?_
   refine asg1 rfl rfl ?_
   refine Ro.nil ?_
   refine Nrm.code ?_
   refine Run.cond rfl (fun hc8 => ?_) (fun hc8 => ?_)
   ·
    try simp only [Bool.or_eq_true, Bool.and_eq_true, Bool.or_eq_false_iff, Bool.and_eq_false_iff, decide_eq_true_eq, decide_eq_false_iff_not, Bool.not_eq_true', Bool.not_eq_false', Bool.not_eq_true, Bool.not_eq_false] at hc8
    refine Run.seq ?_
    refine Run.region ?_
    refine bld B28 (qs := []) trivial rfl rfl rfl ?_
    refine stW rfl rfl T28 rfl rfl (by simp [Value.oneCell']) S (i := 2) rfl rfl ?_
    intro w6 S
    refine asg1 rfl rfl ?_
    refine Ro.nil ?_
    refine Nrm.code ?_
    refine Run.ret ?_
    refine Rt.cell2 rfl rfl rfl T28 S (i := 2) rfl rfl ?_
    have he : parE b = 61 := by
     unfold parE
     rw [if_neg (by omega), if_neg (by omega), if_pos (by omega)]
    exact ⟨.slice none 0 0, .slice none 0 0, [], by rw [parH_err he (by omega), he]; rfl, by rw [parH_err he (by omega)]; exact (S.nilO).toFO (i := 0) rfl, fun _ _ _ => by rw [parH_err he (by omega)]; exact ⟨trivial, BS.nil _ _⟩⟩
   ·
    try simp only [Bool.or_eq_true, Bool.and_eq_true, Bool.or_eq_false_iff, Bool.and_eq_false_iff, decide_eq_true_eq, decide_eq_false_iff_not, Bool.not_eq_true', Bool.not_eq_false', Bool.not_eq_true, Bool.not_eq_false] at hc8
    refine Run.seq ?_
    refine Run.region ?_
    refine mv1 rfl rfl ?_
    refine lss1 rfl rfl rfl ?_
    refine mv1 rfl rfl ?_
    refine mv rfl rfl rfl rfl ?_
    refine mv rfl rfl rfl rfl ?_
    refine lenS rfl hb.2 Tryd.underlying26 rfl rfl rfl ?_
    refine gtr rfl rfl rfl rfl rfl rfl ?_
    refine pkO rfl rfl rfl rfl rfl rfl ?_
    refine asg1 rfl rfl ?_
    refine Ro.nil ?_
    refine Nrm.code ?_
    refine Run.cond rfl (fun hc10 => ?_) (fun hc10 => ?_)
    ·
     try simp only [Bool.or_eq_true, Bool.and_eq_true, Bool.or_eq_false_iff, Bool.and_eq_false_iff, decide_eq_true_eq, decide_eq_false_iff_not, Bool.not_eq_true', Bool.not_eq_false', Bool.not_eq_true, Bool.not_eq_false] at hc10
     refine Run.seq ?_
     refine Run.region ?_
     refine bld B28 (qs := []) trivial rfl rfl rfl ?_
     refine stW rfl rfl T28 rfl rfl (by simp [Value.oneCell']) S (i := 2) rfl rfl ?_
     intro w6 S
     refine asg1 rfl rfl ?_
     refine Ro.nil ?_
     refine Nrm.code ?_
     refine Run.ret ?_
     refine Rt.cell2 rfl rfl rfl T28 S (i := 2) rfl rfl ?_
     have he : parE b = 62 := by
      unfold parE
      rw [if_neg (by omega), if_neg (by omega), if_neg (by omega), if_pos (by omega)]
     exact ⟨.slice none 0 0, .slice none 0 0, [], by rw [parH_err he (by omega), he]; rfl, by rw [parH_err he (by omega)]; exact (S.nilO).toFO (i := 0) rfl, fun _ _ _ => by rw [parH_err he (by omega)]; exact ⟨trivial, BS.nil _ _⟩⟩
    ·
     try simp only [Bool.or_eq_true, Bool.and_eq_true, Bool.or_eq_false_iff, Bool.and_eq_false_iff, decide_eq_true_eq, decide_eq_false_iff_not, Bool.not_eq_true', Bool.not_eq_false', Bool.not_eq_true, Bool.not_eq_false] at hc10
     refine Run.seq ?_
     refine Run.region ?_
     refine mv1 rfl rfl ?_
     refine mv1 rfl rfl ?_
     refine lss1 rfl rfl rfl ?_
     refine mv1 rfl rfl ?_
     refine mv rfl rfl rfl rfl ?_
     refine mv rfl rfl rfl rfl ?_
     refine lenS rfl hb.2 Tryd.underlying26 rfl rfl rfl ?_
     refine gtr rfl rfl rfl rfl rfl rfl ?_
     refine pkO rfl rfl rfl rfl rfl rfl ?_
     refine asg1 rfl rfl ?_
     refine Ro.nil ?_
     refine Nrm.code ?_
     refine Run.cond rfl (fun hc12 => ?_) (fun hc12 => ?_)
     ·
      try simp only [Bool.or_eq_true, Bool.and_eq_true, Bool.or_eq_false_iff, Bool.and_eq_false_iff, decide_eq_true_eq, decide_eq_false_iff_not, Bool.not_eq_true', Bool.not_eq_false', Bool.not_eq_true, Bool.not_eq_false] at hc12
      refine Run.seq ?_
      refine Run.region ?_
      refine bld B28 (qs := []) trivial rfl rfl rfl ?_
      refine stW rfl rfl T28 rfl rfl (by simp [Value.oneCell']) S (i := 2) rfl rfl ?_
      intro w6 S
      refine asg1 rfl rfl ?_
      refine Ro.nil ?_
      refine Nrm.code ?_
      refine Run.ret ?_
      refine Rt.cell2 rfl rfl rfl T28 S (i := 2) rfl rfl ?_
      have he : parE b = 63 := by
       unfold parE
       rw [if_neg (by omega), if_neg (by omega), if_neg (by omega), if_neg (by omega), if_pos (by omega)]
      exact ⟨.slice none 0 0, .slice none 0 0, [], by rw [parH_err he (by omega), he]; rfl, by rw [parH_err he (by omega)]; exact (S.nilO).toFO (i := 0) rfl, fun _ _ _ => by rw [parH_err he (by omega)]; exact ⟨trivial, BS.nil _ _⟩⟩
     ·
      try simp only [Bool.or_eq_true, Bool.and_eq_true, Bool.or_eq_false_iff, Bool.and_eq_false_iff, decide_eq_true_eq, decide_eq_false_iff_not, Bool.not_eq_true', Bool.not_eq_false', Bool.not_eq_true, Bool.not_eq_false] at hc12
      refine Run.seq ?_
      refine Run.region ?_
      refine mv1 rfl rfl ?_
      refine mv1 rfl rfl ?_
      refine slC (lo := 0) (hi := hdN b) (mx := capV v) rfl hb e26 rfl rfl rfl (i1 := none) (i2 := some (hdN b)) (i3 := none) trivial ⟨_, _, _, rfl, rfl⟩ trivial rfl rfl rfl (fun h => by first | rfl | cases h) (fun hG => by (try simp [allT] at hG); have hcap := hb.cap; omega) ?_
      have hv68 := hb.cut (lo := 0) (hi := hdN b) (mx := capV v) (by have hcap := hb.cap; omega)
      refine bsl e102 (qs := [(_, _)]) ⟨⟨_, _, _, rfl, rfl, cells1 hv68.one, rfl, List.cons_ne_nil _ _⟩, trivial⟩ rfl rfl rfl rfl S ?_
      intro u69 w6 S B_
      have hgd : CallsD Tryd.prog 36 #[u69] w6 (.bool (decide (sumS (b.take (hdN b)) = 65535))) := by
       have := c36 u69 [b.take (hdN b)] w6 ⟨[_], S.slI (i := 0) rfl, hv68.now S, trivial⟩ (by rw [flat1, List.length_take]; omega) (by simp)
       rw [flat1] at this
       exact this
      refine calg (vs := [_]) rfl ⟨⟨_, _, rfl, rfl⟩, trivial⟩ k36 rfl (fun hG => hgd) ?_
      intro w7 B_; have S := S.call B_
      refine nt1 rfl rfl ?_
      refine asg1 rfl rfl ?_
      refine Ro.nil ?_
      refine Nrm.code ?_
      refine Run.cond rfl (fun hc14 => ?_) (fun hc14 => ?_)
      ·
       try simp only [Bool.or_eq_true, Bool.and_eq_true, Bool.or_eq_false_iff, Bool.and_eq_false_iff, decide_eq_true_eq, decide_eq_false_iff_not, Bool.not_eq_true', Bool.not_eq_false', Bool.not_eq_true, Bool.not_eq_false] at hc14
       refine Run.seq ?_
       refine Run.region ?_
       refine bld B28 (qs := []) trivial rfl rfl rfl ?_
       refine stW rfl rfl T28 rfl rfl (by simp [Value.oneCell']) S (i := 3) rfl rfl ?_
       intro w8 S
       refine asg1 rfl rfl ?_
       refine Ro.nil ?_
       refine Nrm.code ?_
       refine Run.ret ?_
       refine Rt.cell2 rfl rfl rfl T28 S (i := 3) rfl rfl ?_
       have he : parE b = 64 := by
        unfold parE
        rw [if_neg (by omega), if_neg (by omega), if_neg (by omega), if_neg (by omega), if_neg (by omega), if_pos hc14]
       exact ⟨.slice none 0 0, .slice none 0 0, [], by rw [parH_err he (by omega), he]; rfl, by rw [parH_err he (by omega)]; exact (S.nilO).toFO (i := 0) rfl, fun _ _ _ => by rw [parH_err he (by omega)]; exact ⟨trivial, BS.nil _ _⟩⟩
      ·
       try simp only [Bool.or_eq_true, Bool.and_eq_true, Bool.or_eq_false_iff, Bool.and_eq_false_iff, decide_eq_true_eq, decide_eq_false_iff_not, Bool.not_eq_true', Bool.not_eq_false', Bool.not_eq_true, Bool.not_eq_false] at hc14
       refine Run.skip ?_
       refine Nrm.blk ?_
       refine Nrm.code ?_
       refine Run.seq ?_
       refine Run.region ?_
       refine mv1 rfl rfl ?_
       refine mv1 rfl rfl ?_
       refine mv1 rfl rfl ?_
       refine slC (lo := 20) (hi := hdN b) (mx := hdN b) rfl hb e26 rfl rfl rfl (i1 := some 20) (i2 := some (hdN b)) (i3 := some (hdN b)) ⟨_, _, _, rfl, rfl⟩ ⟨_, _, _, rfl, rfl⟩ ⟨_, _, _, rfl, rfl⟩ rfl rfl rfl (fun h => by first | rfl | cases h) (fun hG => by (try simp [allT] at hG); have hcap := hb.cap; omega) ?_
       have hv77 := hb.cut (lo := 20) (hi := hdN b) (mx := hdN b) (by have hcap := hb.cap; omega)
       refine call (vs := [_]) ⟨⟨_, _, rfl, rfl⟩, trivial⟩ k44 rfl (c44 _ _ _ (hv77.now S)) ?_
       rintro _ w8 ⟨u10, vs, rfl, hF, hwin⟩
       have S := S.fo hF
       refine mv1 rfl rfl ?_
       refine extr1 rfl rfl rfl ?_
       refine extr1 rfl rfl rfl ?_
       refine asg1 rfl rfl ?_
       refine asg1 rfl rfl ?_
       refine Ro.nil ?_
       refine Nrm.code ?_
       refine Run.seq ?_
       refine Run.seq ?_
       refine Run.region ?_
       refine mv1 rfl rfl ?_
       refine eql1 rfl rfl rfl ?_
       refine Ro.nil ?_
       refine Nrm.code ?_
       refine Run.cond rfl (fun hc17 => ?_) (fun hc17 => ?_)
       ·
        try simp only [Bool.or_eq_true, Bool.and_eq_true, Bool.or_eq_false_iff, Bool.and_eq_false_iff, decide_eq_true_eq, decide_eq_false_iff_not, Bool.not_eq_true', Bool.not_eq_false', Bool.not_eq_true, Bool.not_eq_false] at hc17
        refine Run.draw (by kernel_rfl) (by kernel_rfl) S ?_
        refine qmv rfl rfl rfl rfl ?_
        refine qixa rfl rfl (S.slI (i := 2) rfl) e132 rfl rfl rfl rfl (fun _ => by first | omega | (simp only [List.length_cons, List.length_nil]; omega)) ?_
        refine qldR rfl (fun _ S => S) (i := 2) rfl T3 rfl rfl rfl (fun _ => rfl) ?_
        refine qcal (vs := [_]) rfl ⟨⟨_, _, rfl, rfl⟩, trivial⟩ k102 rfl (fun _ _ S B => S.call B) (fun hG w_ S => c102 _ _) ?_
        refine qmv rfl rfl rfl rfl ?_
        refine qixa rfl rfl (S.slI (i := 2) rfl) e132 rfl rfl rfl rfl (fun _ => by first | omega | (simp only [List.length_cons, List.length_nil]; omega)) ?_
        refine qldR rfl (fun _ S => S) (i := 2) rfl T3 rfl rfl rfl (fun _ => rfl) ?_
        refine qmul rfl rfl rfl rfl rfl rfl (fun _ => w64 (by omega)) ?_
        refine qmv rfl rfl rfl rfl ?_
        refine qmv rfl rfl rfl rfl ?_
        refine qsub rfl rfl rfl rfl rfl rfl (fun _ => w64 (by omega)) ?_
        refine qcal (vs := [_, _, _]) rfl ⟨⟨_, _, rfl, rfl⟩, ⟨_, _, rfl, rfl⟩, ⟨_, _, rfl, rfl⟩, trivial⟩ k100 rfl (fun _ _ S B => S.call B) (fun hG w_ S => c100 _ _ _ _ (by omega)) ?_
        refine qasg rfl rfl rfl rfl ?_
        refine Qo.nil (fun w9 S => ?_)
        refine Nrm.code ?_
        refine Run.seq ?_
        refine Run.seq ?_
        refine Run.region ?_
        refine mv1 rfl rfl ?_
        refine neq1 rfl rfl rfl ?_
        refine Ro.nil ?_
        refine Nrm.code ?_
        refine Run.cond rfl (fun hc19 => ?_) (fun hc19 => ?_)
        ·
         try simp only [Bool.or_eq_true, Bool.and_eq_true, Bool.or_eq_false_iff, Bool.and_eq_false_iff, decide_eq_true_eq, decide_eq_false_iff_not, Bool.not_eq_true', Bool.not_eq_false', Bool.not_eq_true, Bool.not_eq_false] at hc19
         refine Run.seq ?_
         refine Run.region ?_
         refine bld B28 (qs := []) trivial rfl rfl rfl ?_
         refine mv1 rfl rfl ?_
         refine stW rfl rfl T28 rfl rfl (by simp [Value.oneCell']) S (i := 4) rfl rfl ?_
         intro w10 S
         refine asg1 rfl rfl ?_
         refine Ro.nil ?_
         refine Nrm.code ?_
         refine Run.ret ?_
         refine Rt.cell2 rfl rfl rfl T28 S (i := 4) rfl rfl ?_
         have hfr := fragE_or (decide (b.getD 6 0 / 32 % 2 = 1)) (8 * offW b) ((totN b : Int) - hdN b)
         have he : parE b = fragE (decide (b.getD 6 0 / 32 % 2 = 1)) (8 * offW b) ((totN b : Int) - hdN b) := by
          unfold parE
          rw [if_neg (by omega), if_neg (by omega), if_neg (by omega), if_neg (by omega), if_neg (by omega), if_neg (by omega), if_neg (by omega)]
         exact ⟨.slice none 0 0, .slice none 0 0, [], by rw [parH_err he (by omega), he]; rfl, by rw [parH_err he (by omega)]; exact (S.nilO).toFO (i := 0) rfl, fun _ _ _ => by rw [parH_err he (by omega)]; exact ⟨trivial, BS.nil _ _⟩⟩
        ·
         try simp only [Bool.or_eq_true, Bool.and_eq_true, Bool.or_eq_false_iff, Bool.and_eq_false_iff, decide_eq_true_eq, decide_eq_false_iff_not, Bool.not_eq_true', Bool.not_eq_false', Bool.not_eq_true, Bool.not_eq_false] at hc19
         refine Run.skip ?_
         refine Nrm.code ?_
         refine Run.seq ?_
         refine Run.held (by kernel_rfl) S [true, true, true, true, true] rfl rfl rfl ?_
         intro w10 BD S SC
         refine Ho.take (i := 0) SC Pp.body rfl (by kernel_rfl) (by kernel_rfl) (by kernel_rfl) rfl rfl ?_
         refine qmv rfl rfl rfl rfl ?_
         refine Ho.back ?_
         refine Ho.take (i := 1) SC Pp.body rfl (by kernel_rfl) (by kernel_rfl) (by kernel_rfl) rfl rfl ?_
         refine qixa rfl rfl (S.slI (i := 2) rfl) e132 rfl rfl rfl rfl (fun _ => by first | omega | (simp only [List.length_cons, List.length_nil]; omega)) ?_
         refine Ho.back ?_
         refine Ho.take (i := 2) SC Pp.body rfl (by kernel_rfl) (by kernel_rfl) (by kernel_rfl) rfl rfl ?_
         refine qldR rfl (fun _ S => S) (i := 2) rfl T3 rfl rfl rfl (fun _ => rfl) ?_
         refine Ho.back ?_
         refine Ho.take (i := 3) SC Pp.body rfl (by kernel_rfl) (by kernel_rfl) (by kernel_rfl) rfl rfl ?_
         refine qmv rfl rfl rfl rfl ?_
         refine Ho.back ?_
         refine Ho.take (i := 4) SC Pp.body rfl (by kernel_rfl) (by kernel_rfl) (by kernel_rfl) rfl rfl ?_
         refine qixa rfl rfl (S.slI (i := 2) rfl) e132 rfl rfl rfl rfl (fun _ => by first | omega | (simp only [List.length_cons, List.length_nil]; omega)) ?_
         refine Ho.back ?_
         refine Ho.take (i := 5) SC Pp.body rfl (by kernel_rfl) (by kernel_rfl) (by kernel_rfl) rfl rfl ?_
         refine qldR rfl (fun _ S => S) (i := 2) rfl T3 rfl rfl rfl (fun _ => rfl) ?_
         refine Ho.back ?_
         refine Ho.take (i := 6) SC Pp.body rfl (by kernel_rfl) (by kernel_rfl) (by kernel_rfl) rfl rfl ?_
         refine qmv rfl rfl rfl rfl ?_
         refine Ho.back ?_
         refine Ho.take (i := 7) SC Pp.body rfl (by kernel_rfl) (by kernel_rfl) (by kernel_rfl) rfl rfl ?_
         refine qixa rfl rfl (S.slI (i := 2) rfl) e132 rfl rfl rfl rfl (fun _ => by first | omega | (simp only [List.length_cons, List.length_nil]; omega)) ?_
         refine Ho.back ?_
         refine Ho.take (i := 8) SC Pp.body rfl (by kernel_rfl) (by kernel_rfl) (by kernel_rfl) rfl rfl ?_
         refine qldR rfl (fun _ S => S) (i := 2) rfl T3 rfl rfl rfl (fun _ => rfl) ?_
         refine Ho.back ?_
         refine Ho.take (i := 10) SC Pp.body rfl (by kernel_rfl) (by kernel_rfl) (by kernel_rfl) rfl rfl ?_
         refine qmv rfl rfl rfl rfl ?_
         refine Ho.back ?_
         refine Ho.take (i := 11) SC Pp.body rfl (by kernel_rfl) (by kernel_rfl) (by kernel_rfl) rfl rfl ?_
         refine qixa rfl rfl (S.slI (i := 2) rfl) e132 rfl rfl rfl rfl (fun _ => by first | omega | (simp only [List.length_cons, List.length_nil]; omega)) ?_
         refine Ho.back ?_
         refine Ho.take (i := 12) SC Pp.body rfl (by kernel_rfl) (by kernel_rfl) (by kernel_rfl) rfl rfl ?_
         refine qldR rfl (fun _ S => S) (i := 2) rfl T3 rfl rfl rfl (fun _ => rfl) ?_
         refine Ho.back ?_
         refine Ho.take (i := 14) SC Pp.body rfl (by kernel_rfl) (by kernel_rfl) (by kernel_rfl) rfl rfl ?_
         refine qmv rfl rfl rfl rfl ?_
         refine Ho.back ?_
         refine Ho.take (i := 15) SC Pp.body rfl (by kernel_rfl) (by kernel_rfl) (by kernel_rfl) rfl rfl ?_
         refine qixa rfl rfl (S.slI (i := 2) rfl) e132 rfl rfl rfl rfl (fun _ => by first | omega | (simp only [List.length_cons, List.length_nil]; omega)) ?_
         refine Ho.back ?_
         refine Ho.take (i := 16) SC Pp.body rfl (by kernel_rfl) (by kernel_rfl) (by kernel_rfl) rfl rfl ?_
         refine qldR rfl (fun _ S => S) (i := 2) rfl T3 rfl rfl rfl (fun _ => rfl) ?_
         refine Ho.back ?_
         refine Ho.take (i := 17) SC Pp.body rfl (by kernel_rfl) (by kernel_rfl) (by kernel_rfl) rfl rfl ?_
         refine qmul rfl rfl rfl rfl rfl rfl (fun _ => w64 (by omega)) ?_
         refine Ho.back ?_
         refine Ho.take (i := 18) SC Pp.body rfl (by kernel_rfl) (by kernel_rfl) (by kernel_rfl) rfl rfl ?_
         refine qmv rfl rfl rfl rfl ?_
         refine Ho.back ?_
         refine Ho.take (i := 19) SC Pp.body rfl (by kernel_rfl) (by kernel_rfl) (by kernel_rfl) rfl rfl ?_
         refine qixa rfl rfl (S.slI (i := 2) rfl) e132 rfl rfl rfl rfl (fun _ => by first | omega | (simp only [List.length_cons, List.length_nil]; omega)) ?_
         refine Ho.back ?_
         refine Ho.take (i := 20) SC Pp.body rfl (by kernel_rfl) (by kernel_rfl) (by kernel_rfl) rfl rfl ?_
         refine qldR rfl (fun _ S => S) (i := 2) rfl T3 rfl rfl rfl (fun _ => rfl) ?_
         refine Ho.back ?_
         refine Ho.take (i := 21) SC Pp.body rfl (by kernel_rfl) (by kernel_rfl) (by kernel_rfl) rfl rfl ?_
         refine qmv rfl rfl rfl rfl ?_
         refine Ho.back ?_
         refine Ho.take (i := 22) SC Pp.body rfl (by kernel_rfl) (by kernel_rfl) (by kernel_rfl) rfl rfl ?_
         refine qixa rfl rfl (S.slI (i := 2) rfl) e132 rfl rfl rfl rfl (fun _ => by first | omega | (simp only [List.length_cons, List.length_nil]; omega)) ?_
         refine Ho.back ?_
         refine Ho.take (i := 23) SC Pp.body rfl (by kernel_rfl) (by kernel_rfl) (by kernel_rfl) rfl rfl ?_
         refine qldR rfl (fun _ S => S) (i := 2) rfl T3 rfl rfl rfl (fun _ => rfl) ?_
         refine Ho.back ?_
         refine Ho.take (i := 24) SC Pp.body rfl (by kernel_rfl) (by kernel_rfl) (by kernel_rfl) rfl rfl ?_
         refine qmv rfl rfl rfl rfl ?_
         refine Ho.back ?_
         refine Ho.two (i := 9) (i' := 26) (by kernel_rfl) rfl rfl rfl rfl ?_ ?_
         ·
          refine calg (vs := [_]) rfl ⟨⟨_, _, rfl, rfl⟩, trivial⟩ k102 rfl (fun hG => c102 _ _) ?_
          intro w11 B_; have S := S.call B_
          have SC := S.pick [true, true, true, true, true] rfl
          refine Ho.on SC ?_
          refine Ho.two (i := 13) (i' := 26) (by kernel_rfl) rfl rfl rfl rfl ?_ ?_
          ·
           refine calg (vs := [_]) rfl ⟨⟨_, _, rfl, rfl⟩, trivial⟩ k102 rfl (fun hG => c102 _ _) ?_
           intro w12 B_; have S := S.call B_
           have SC := S.pick [true, true, true, true, true] rfl
           refine Ho.on SC ?_
           refine Ho.take (i := 25) SC Pp.body rfl (by kernel_rfl) (by kernel_rfl) (by kernel_rfl) rfl rfl ?_
           refine qbld B28 (qs := [(_, _), (_, _), (_, _), (_, _), (_, _), (_, _), (_, _), (_, _)]) ⟨⟨_, _, _, rfl, rfl, rfl, rfl, by simp [Value.cells]⟩, ⟨_, _, _, rfl, rfl, rfl, rfl, by simp [Value.cells]⟩, ⟨_, _, _, rfl, rfl, rfl, rfl, by simp [Value.cells]⟩, ⟨_, _, _, rfl, rfl, rfl, rfl, by simp [Value.cells]⟩, ⟨_, _, _, rfl, rfl, rfl, rfl, by simp [Value.cells]⟩, ⟨_, _, _, rfl, rfl, rfl, rfl, by simp [Value.cells]⟩, ⟨_, _, _, rfl, rfl, rfl, rfl, by simp [Value.cells]⟩, ⟨_, _, _, rfl, rfl, cells1 (S.slI (i := 0) rfl).one, rfl, List.cons_ne_nil _ _⟩, trivial⟩ rfl rfl rfl ?_
           refine Ho.back ?_
           refine Ho.one (i := 26) (by kernel_rfl) rfl rfl ?_
           refine alc T28 S rfl ?_
           intro b12 w13 hb12 S B_
           have SC := S.pick [false, true, true, true, true, true] rfl
           refine Ho.on SC ?_
           refine Ho.one (i := 27) (by kernel_rfl) rfl rfl ?_
           refine stW rfl rfl T28 rfl rfl (one_cons rfl (one_cons rfl (one_cons rfl (one_cons rfl (one_cons rfl (one_cons rfl (one_cons rfl (one_cons rfl (one_cons rfl (one_cons rfl (one_cons rfl (one_cons rfl (one_cons rfl (one_cons rfl (one_cons rfl (one_cons rfl (one_cons rfl (one_cons rfl (one_cons rfl (one_cons rfl (one_cons rfl (one_cons rfl (one_cons rfl (one_cons rfl (one_cons rfl (one_cons rfl (one_cons rfl (one_cons rfl (one_cons rfl (one_cons rfl (one_cons rfl (one_cons rfl (one_cons rfl (one_cons rfl (one_cons rfl (one_cons rfl (one_cons rfl (one_cons rfl (one_cons rfl (one_cons rfl (one_cons rfl (one_cons (S.slI (i := 1) rfl).one (one_cons rfl one_nil))))))))))))))))))))))))))))))))))))))))))) S (i := 0) rfl rfl ?_
           intro w14 S
           have SC := S.pick [false, true, true, true, true, true] rfl
           refine Ho.on SC ?_
           refine Ho.done (by kernel_rfl) ?_
           refine Nrm.code ?_
           refine Run.seq ?_
           refine Run.held (by kernel_rfl) S [false, true, true, true, true, true] rfl rfl rfl ?_
           intro w15 BD S SC
           refine Ho.take (i := 0) SC Pp.body rfl (by kernel_rfl) (by kernel_rfl) (by kernel_rfl) rfl rfl ?_
           refine qmv rfl rfl rfl rfl ?_
           refine Ho.back ?_
           refine Ho.take (i := 1) SC Pp.body rfl (by kernel_rfl) (by kernel_rfl) (by kernel_rfl) rfl rfl ?_
           have hv126 := hb.cut (lo := 12) (hi := 16) (mx := capV v) (by have hcap := hb.cap; omega)
           refine qslC (lo := 12) (hi := 16) (mx := capV v) rfl hb e26 rfl rfl rfl (i1 := some 12) (i2 := some 16) (i3 := none) ⟨_, _, _, rfl, rfl⟩ ⟨_, _, _, rfl, rfl⟩ trivial rfl rfl rfl (fun h => by first | rfl | cases h) (fun hG => by (try simp [allT] at hG); have hcap := hb.cap; omega) ?_
           refine Ho.back ?_
           refine Ho.take (i := 3) SC Pp.body rfl (by kernel_rfl) (by kernel_rfl) (by kernel_rfl) rfl rfl ?_
           refine qmv rfl rfl rfl rfl ?_
           refine Ho.back ?_
           refine Ho.take (i := 4) SC Pp.body rfl (by kernel_rfl) (by kernel_rfl) (by kernel_rfl) rfl rfl ?_
           have hv129 := hb.cut (lo := 16) (hi := 20) (mx := capV v) (by have hcap := hb.cap; omega)
           refine qslC (lo := 16) (hi := 20) (mx := capV v) rfl hb e26 rfl rfl rfl (i1 := some 16) (i2 := some 20) (i3 := none) ⟨_, _, _, rfl, rfl⟩ ⟨_, _, _, rfl, rfl⟩ trivial rfl rfl rfl (fun h => by first | rfl | cases h) (fun hG => by (try simp [allT] at hG); have hcap := hb.cap; omega) ?_
           refine Ho.back ?_
           refine Ho.one (i := 2) (by kernel_rfl) rfl rfl ?_
           refine calg (vs := [_]) rfl ⟨⟨_, _, rfl, rfl⟩, trivial⟩ k103 rfl (fun hG => c103at _ _ b 12 _ (hv126.now S) (by rw [List.length_take, List.length_drop]; omega) (ipOf_cut b 12)) ?_
           intro w16 B_; have S := S.call B_
           have SC := S.pick [false, true, true, true, true, true] rfl
           refine Ho.on SC ?_
           refine Ho.take (i := 6) SC Pp.body rfl (by kernel_rfl) (by kernel_rfl) (by kernel_rfl) rfl rfl ?_
           refine qfld (o' := 7) rfl fo28_7 rfl rfl rfl rfl ?_
           refine Ho.back ?_
           refine Ho.one (i := 5) (by kernel_rfl) rfl rfl ?_
           refine calg (vs := [_]) rfl ⟨⟨_, _, rfl, rfl⟩, trivial⟩ k103 rfl (fun hG => c103at _ _ b 16 _ (hv129.now S) (by rw [List.length_take, List.length_drop]; omega) (ipOf_cut b 16)) ?_
           intro w17 B_; have S := S.call B_
           have SC := S.pick [false, true, true, true, true, true] rfl
           refine Ho.on SC ?_
           refine Ho.one (i := 7) (by kernel_rfl) rfl rfl ?_
           refine stA rfl rfl T24 rfl (by decide) (encIP_all1 _) S (i := 0) rfl rfl rfl ?_
           intro w18 S
           have SC := S.pick [false, true, true, true, true, true] rfl
           refine Ho.on SC ?_
           refine Ho.take (i := 8) SC Pp.body rfl (by kernel_rfl) (by kernel_rfl) (by kernel_rfl) rfl rfl ?_
           refine qfld (o' := 24) rfl fo28_8 rfl rfl rfl rfl ?_
           refine Ho.back ?_
           refine Ho.one (i := 9) (by kernel_rfl) rfl rfl ?_
           refine stA rfl rfl T24 rfl (by decide) (encIP_all1 _) S (i := 0) rfl rfl rfl ?_
           intro w19 S
           have SC := S.pick [false, true, true, true, true, true] rfl
           refine Ho.on SC ?_
           refine Ho.done (by kernel_rfl) ?_
           refine Nrm.code ?_
           refine Run.seq ?_
           refine Run.region ?_
           refine mv1 rfl rfl ?_
           refine mv1 rfl rfl ?_
           refine mv1 rfl rfl ?_
           refine mv1 rfl rfl ?_
           refine slC (lo := hdN b) (hi := totN b) (mx := totN b) rfl hb e26 rfl rfl rfl (i1 := some (hdN b)) (i2 := some (totN b)) (i3 := some (totN b)) ⟨_, _, _, rfl, rfl⟩ ⟨_, _, _, rfl, rfl⟩ ⟨_, _, _, rfl, rfl⟩ rfl rfl rfl (fun h => by first | rfl | cases h) (fun hG => by (try simp [allT] at hG); have hcap := hb.cap; omega) ?_
           have hv137 := hb.cut (lo := hdN b) (hi := totN b) (mx := totN b) (by have hcap := hb.cap; omega)
           refine fld (o' := 42) rfl fo28_10 rfl rfl rfl rfl ?_
           refine st1 rfl rfl T26 hv137.one S (i := 0) rfl rfl rfl ?_
           intro w20 S
           refine Ro.nil ?_
           refine Nrm.code ?_
           refine Run.seq ?_
           refine Run.region ?_
           refine ldW rfl T28 S (i := 0) rfl rfl rfl rfl rfl ?_
           refine stW rfl rfl T28 rfl rfl (one_cons rfl (one_cons rfl (one_cons rfl (one_cons rfl (one_cons rfl (one_cons rfl (one_cons rfl (one_cons rfl (one_cons rfl (one_cons rfl (one_cons rfl (one_cons rfl (one_cons rfl (one_cons rfl (one_cons rfl (one_cons rfl (one_cons rfl (one_cons rfl (one_cons rfl (one_cons rfl (one_cons rfl (one_cons rfl (one_cons rfl (one_cons rfl (one_cons rfl (one_cons rfl (one_cons rfl (one_cons rfl (one_cons rfl (one_cons rfl (one_cons rfl (one_cons rfl (one_cons rfl (one_cons rfl (one_cons rfl (one_cons rfl (one_cons rfl (one_cons rfl (one_cons rfl (one_cons rfl (one_cons rfl (one_cons (S.slI (i := 1) rfl).one (one_cons hv137.one one_nil))))))))))))))))))))))))))))))))))))))))))) S (i := 5) rfl rfl ?_
           intro w21 S
           refine asg1 rfl rfl ?_
           refine Ro.nil ?_
           refine Nrm.code ?_
           refine Run.ret ?_
           refine Rt.cell2 rfl rfl rfl T28 S (i := 5) rfl rfl ?_
           have he : parE b = 0 := by
            unfold parE
            rw [if_neg (by omega), if_neg (by omega), if_neg (by omega), if_neg (by omega), if_neg (by omega), if_neg (by omega), if_neg (by omega)]
            omega
           exact ⟨_, _, vs, by rw [parH, if_pos he, he]; rfl, by rw [parH, if_pos he]; exact (S.pick [false, true, false, false, false, false] rfl).toFO (i := 0) rfl, fun N w1 h1 => by rw [parH, if_pos he]; exact ⟨hwin N w1 (h1.cut (by have := h1.cap; omega)), h1.cut (by have := h1.cap; omega)⟩⟩
          ·
           refine alc T28 S rfl ?_
           intro b12 w12 hb12 S B_
           have SC := S.pick [false, true, true, true, true, true] rfl
           refine Ho.on SC ?_
           refine Ho.one (i := 13) (by kernel_rfl) rfl rfl ?_
           refine calg (vs := [_]) rfl ⟨⟨_, _, rfl, rfl⟩, trivial⟩ k102 rfl (fun hG => c102 _ _) ?_
           intro w13 B_; have S := S.call B_
           have SC := S.pick [false, true, true, true, true, true] rfl
           refine Ho.on SC ?_
           refine Ho.take (i := 25) SC Pp.body rfl (by kernel_rfl) (by kernel_rfl) (by kernel_rfl) rfl rfl ?_
           refine qbld B28 (qs := [(_, _), (_, _), (_, _), (_, _), (_, _), (_, _), (_, _), (_, _)]) ⟨⟨_, _, _, rfl, rfl, rfl, rfl, by simp [Value.cells]⟩, ⟨_, _, _, rfl, rfl, rfl, rfl, by simp [Value.cells]⟩, ⟨_, _, _, rfl, rfl, rfl, rfl, by simp [Value.cells]⟩, ⟨_, _, _, rfl, rfl, rfl, rfl, by simp [Value.cells]⟩, ⟨_, _, _, rfl, rfl, rfl, rfl, by simp [Value.cells]⟩, ⟨_, _, _, rfl, rfl, rfl, rfl, by simp [Value.cells]⟩, ⟨_, _, _, rfl, rfl, rfl, rfl, by simp [Value.cells]⟩, ⟨_, _, _, rfl, rfl, cells1 (S.slI (i := 1) rfl).one, rfl, List.cons_ne_nil _ _⟩, trivial⟩ rfl rfl rfl ?_
           refine Ho.back ?_
           refine Ho.one (i := 27) (by kernel_rfl) rfl rfl ?_
           refine stW rfl rfl T28 rfl rfl (one_cons rfl (one_cons rfl (one_cons rfl (one_cons rfl (one_cons rfl (one_cons rfl (one_cons rfl (one_cons rfl (one_cons rfl (one_cons rfl (one_cons rfl (one_cons rfl (one_cons rfl (one_cons rfl (one_cons rfl (one_cons rfl (one_cons rfl (one_cons rfl (one_cons rfl (one_cons rfl (one_cons rfl (one_cons rfl (one_cons rfl (one_cons rfl (one_cons rfl (one_cons rfl (one_cons rfl (one_cons rfl (one_cons rfl (one_cons rfl (one_cons rfl (one_cons rfl (one_cons rfl (one_cons rfl (one_cons rfl (one_cons rfl (one_cons rfl (one_cons rfl (one_cons rfl (one_cons rfl (one_cons rfl (one_cons (S.slI (i := 1) rfl).one (one_cons rfl one_nil))))))))))))))))))))))))))))))))))))))))))) S (i := 0) rfl rfl ?_
           intro w14 S
           have SC := S.pick [false, true, true, true, true, true] rfl
           refine Ho.on SC ?_
           refine Ho.done (by kernel_rfl) ?_
           refine Nrm.code ?_
           refine Run.seq ?_
           refine Run.held (by kernel_rfl) S [false, true, true, true, true, true] rfl rfl rfl ?_
           intro w15 BD S SC
           refine Ho.take (i := 0) SC Pp.body rfl (by kernel_rfl) (by kernel_rfl) (by kernel_rfl) rfl rfl ?_
           refine qmv rfl rfl rfl rfl ?_
           refine Ho.back ?_
           refine Ho.take (i := 1) SC Pp.body rfl (by kernel_rfl) (by kernel_rfl) (by kernel_rfl) rfl rfl ?_
           have hv126 := hb.cut (lo := 12) (hi := 16) (mx := capV v) (by have hcap := hb.cap; omega)
           refine qslC (lo := 12) (hi := 16) (mx := capV v) rfl hb e26 rfl rfl rfl (i1 := some 12) (i2 := some 16) (i3 := none) ⟨_, _, _, rfl, rfl⟩ ⟨_, _, _, rfl, rfl⟩ trivial rfl rfl rfl (fun h => by first | rfl | cases h) (fun hG => by (try simp [allT] at hG); have hcap := hb.cap; omega) ?_
           refine Ho.back ?_
           refine Ho.take (i := 3) SC Pp.body rfl (by kernel_rfl) (by kernel_rfl) (by kernel_rfl) rfl rfl ?_
           refine qmv rfl rfl rfl rfl ?_
           refine Ho.back ?_
           refine Ho.take (i := 4) SC Pp.body rfl (by kernel_rfl) (by kernel_rfl) (by kernel_rfl) rfl rfl ?_
           have hv129 := hb.cut (lo := 16) (hi := 20) (mx := capV v) (by have hcap := hb.cap; omega)
           refine qslC (lo := 16) (hi := 20) (mx := capV v) rfl hb e26 rfl rfl rfl (i1 := some 16) (i2 := some 20) (i3 := none) ⟨_, _, _, rfl, rfl⟩ ⟨_, _, _, rfl, rfl⟩ trivial rfl rfl rfl (fun h => by first | rfl | cases h) (fun hG => by (try simp [allT] at hG); have hcap := hb.cap; omega) ?_
           refine Ho.back ?_
           refine Ho.one (i := 2) (by kernel_rfl) rfl rfl ?_
           refine calg (vs := [_]) rfl ⟨⟨_, _, rfl, rfl⟩, trivial⟩ k103 rfl (fun hG => c103at _ _ b 12 _ (hv126.now S) (by rw [List.length_take, List.length_drop]; omega) (ipOf_cut b 12)) ?_
           intro w16 B_; have S := S.call B_
           have SC := S.pick [false, true, true, true, true, true] rfl
           refine Ho.on SC ?_
           refine Ho.take (i := 6) SC Pp.body rfl (by kernel_rfl) (by kernel_rfl) (by kernel_rfl) rfl rfl ?_
           refine qfld (o' := 7) rfl fo28_7 rfl rfl rfl rfl ?_
           refine Ho.back ?_
           refine Ho.one (i := 5) (by kernel_rfl) rfl rfl ?_
           refine calg (vs := [_]) rfl ⟨⟨_, _, rfl, rfl⟩, trivial⟩ k103 rfl (fun hG => c103at _ _ b 16 _ (hv129.now S) (by rw [List.length_take, List.length_drop]; omega) (ipOf_cut b 16)) ?_
           intro w17 B_; have S := S.call B_
           have SC := S.pick [false, true, true, true, true, true] rfl
           refine Ho.on SC ?_
           refine Ho.one (i := 7) (by kernel_rfl) rfl rfl ?_
           refine stA rfl rfl T24 rfl (by decide) (encIP_all1 _) S (i := 0) rfl rfl rfl ?_
           intro w18 S
           have SC := S.pick [false, true, true, true, true, true] rfl
           refine Ho.on SC ?_
           refine Ho.take (i := 8) SC Pp.body rfl (by kernel_rfl) (by kernel_rfl) (by kernel_rfl) rfl rfl ?_
           refine qfld (o' := 24) rfl fo28_8 rfl rfl rfl rfl ?_
           refine Ho.back ?_
           refine Ho.one (i := 9) (by kernel_rfl) rfl rfl ?_
           refine stA rfl rfl T24 rfl (by decide) (encIP_all1 _) S (i := 0) rfl rfl rfl ?_
           intro w19 S
           have SC := S.pick [false, true, true, true, true, true] rfl
           refine Ho.on SC ?_
           refine Ho.done (by kernel_rfl) ?_
           refine Nrm.code ?_
           refine Run.seq ?_
           refine Run.region ?_
           refine mv1 rfl rfl ?_
           refine mv1 rfl rfl ?_
           refine mv1 rfl rfl ?_
           refine mv1 rfl rfl ?_
           refine slC (lo := hdN b) (hi := totN b) (mx := totN b) rfl hb e26 rfl rfl rfl (i1 := some (hdN b)) (i2 := some (totN b)) (i3 := some (totN b)) ⟨_, _, _, rfl, rfl⟩ ⟨_, _, _, rfl, rfl⟩ ⟨_, _, _, rfl, rfl⟩ rfl rfl rfl (fun h => by first | rfl | cases h) (fun hG => by (try simp [allT] at hG); have hcap := hb.cap; omega) ?_
           have hv137 := hb.cut (lo := hdN b) (hi := totN b) (mx := totN b) (by have hcap := hb.cap; omega)
           refine fld (o' := 42) rfl fo28_10 rfl rfl rfl rfl ?_
           refine st1 rfl rfl T26 hv137.one S (i := 0) rfl rfl rfl ?_
           intro w20 S
           refine Ro.nil ?_
           refine Nrm.code ?_
           refine Run.seq ?_
           refine Run.region ?_
           refine ldW rfl T28 S (i := 0) rfl rfl rfl rfl rfl ?_
           refine stW rfl rfl T28 rfl rfl (one_cons rfl (one_cons rfl (one_cons rfl (one_cons rfl (one_cons rfl (one_cons rfl (one_cons rfl (one_cons rfl (one_cons rfl (one_cons rfl (one_cons rfl (one_cons rfl (one_cons rfl (one_cons rfl (one_cons rfl (one_cons rfl (one_cons rfl (one_cons rfl (one_cons rfl (one_cons rfl (one_cons rfl (one_cons rfl (one_cons rfl (one_cons rfl (one_cons rfl (one_cons rfl (one_cons rfl (one_cons rfl (one_cons rfl (one_cons rfl (one_cons rfl (one_cons rfl (one_cons rfl (one_cons rfl (one_cons rfl (one_cons rfl (one_cons rfl (one_cons rfl (one_cons rfl (one_cons rfl (one_cons rfl (one_cons (S.slI (i := 1) rfl).one (one_cons hv137.one one_nil))))))))))))))))))))))))))))))))))))))))))) S (i := 5) rfl rfl ?_
           intro w21 S
           refine asg1 rfl rfl ?_
           refine Ro.nil ?_
           refine Nrm.code ?_
           refine Run.ret ?_
           refine Rt.cell2 rfl rfl rfl T28 S (i := 5) rfl rfl ?_
           have he : parE b = 0 := by
            unfold parE
            rw [if_neg (by omega), if_neg (by omega), if_neg (by omega), if_neg (by omega), if_neg (by omega), if_neg (by omega), if_neg (by omega)]
            omega
           exact ⟨_, _, vs, by rw [parH, if_pos he, he]; rfl, by rw [parH, if_pos he]; exact (S.pick [false, true, false, false, false, false] rfl).toFO (i := 0) rfl, fun N w1 h1 => by rw [parH, if_pos he]; exact ⟨hwin N w1 (h1.cut (by have := h1.cap; omega)), h1.cut (by have := h1.cap; omega)⟩⟩
         ·
          refine alc T28 S rfl ?_
          intro b12 w11 hb12 S B_
          have SC := S.pick [false, true, true, true, true, true] rfl
          refine Ho.on SC ?_
          refine Ho.one (i := 9) (by kernel_rfl) rfl rfl ?_
          refine calg (vs := [_]) rfl ⟨⟨_, _, rfl, rfl⟩, trivial⟩ k102 rfl (fun hG => c102 _ _) ?_
          intro w12 B_; have S := S.call B_
          have SC := S.pick [false, true, true, true, true, true] rfl
          refine Ho.on SC ?_
          refine Ho.one (i := 13) (by kernel_rfl) rfl rfl ?_
          refine calg (vs := [_]) rfl ⟨⟨_, _, rfl, rfl⟩, trivial⟩ k102 rfl (fun hG => c102 _ _) ?_
          intro w13 B_; have S := S.call B_
          have SC := S.pick [false, true, true, true, true, true] rfl
          refine Ho.on SC ?_
          refine Ho.take (i := 25) SC Pp.body rfl (by kernel_rfl) (by kernel_rfl) (by kernel_rfl) rfl rfl ?_
          refine qbld B28 (qs := [(_, _), (_, _), (_, _), (_, _), (_, _), (_, _), (_, _), (_, _)]) ⟨⟨_, _, _, rfl, rfl, rfl, rfl, by simp [Value.cells]⟩, ⟨_, _, _, rfl, rfl, rfl, rfl, by simp [Value.cells]⟩, ⟨_, _, _, rfl, rfl, rfl, rfl, by simp [Value.cells]⟩, ⟨_, _, _, rfl, rfl, rfl, rfl, by simp [Value.cells]⟩, ⟨_, _, _, rfl, rfl, rfl, rfl, by simp [Value.cells]⟩, ⟨_, _, _, rfl, rfl, rfl, rfl, by simp [Value.cells]⟩, ⟨_, _, _, rfl, rfl, rfl, rfl, by simp [Value.cells]⟩, ⟨_, _, _, rfl, rfl, cells1 (S.slI (i := 1) rfl).one, rfl, List.cons_ne_nil _ _⟩, trivial⟩ rfl rfl rfl ?_
          refine Ho.back ?_
          refine Ho.one (i := 27) (by kernel_rfl) rfl rfl ?_
          refine stW rfl rfl T28 rfl rfl (one_cons rfl (one_cons rfl (one_cons rfl (one_cons rfl (one_cons rfl (one_cons rfl (one_cons rfl (one_cons rfl (one_cons rfl (one_cons rfl (one_cons rfl (one_cons rfl (one_cons rfl (one_cons rfl (one_cons rfl (one_cons rfl (one_cons rfl (one_cons rfl (one_cons rfl (one_cons rfl (one_cons rfl (one_cons rfl (one_cons rfl (one_cons rfl (one_cons rfl (one_cons rfl (one_cons rfl (one_cons rfl (one_cons rfl (one_cons rfl (one_cons rfl (one_cons rfl (one_cons rfl (one_cons rfl (one_cons rfl (one_cons rfl (one_cons rfl (one_cons rfl (one_cons rfl (one_cons rfl (one_cons rfl (one_cons (S.slI (i := 1) rfl).one (one_cons rfl one_nil))))))))))))))))))))))))))))))))))))))))))) S (i := 0) rfl rfl ?_
          intro w14 S
          have SC := S.pick [false, true, true, true, true, true] rfl
          refine Ho.on SC ?_
          refine Ho.done (by kernel_rfl) ?_
          refine Nrm.code ?_
          refine Run.seq ?_
          refine Run.held (by kernel_rfl) S [false, true, true, true, true, true] rfl rfl rfl ?_
          intro w15 BD S SC
          refine Ho.take (i := 0) SC Pp.body rfl (by kernel_rfl) (by kernel_rfl) (by kernel_rfl) rfl rfl ?_
          refine qmv rfl rfl rfl rfl ?_
          refine Ho.back ?_
          refine Ho.take (i := 1) SC Pp.body rfl (by kernel_rfl) (by kernel_rfl) (by kernel_rfl) rfl rfl ?_
          have hv126 := hb.cut (lo := 12) (hi := 16) (mx := capV v) (by have hcap := hb.cap; omega)
          refine qslC (lo := 12) (hi := 16) (mx := capV v) rfl hb e26 rfl rfl rfl (i1 := some 12) (i2 := some 16) (i3 := none) ⟨_, _, _, rfl, rfl⟩ ⟨_, _, _, rfl, rfl⟩ trivial rfl rfl rfl (fun h => by first | rfl | cases h) (fun hG => by (try simp [allT] at hG); have hcap := hb.cap; omega) ?_
          refine Ho.back ?_
          refine Ho.take (i := 3) SC Pp.body rfl (by kernel_rfl) (by kernel_rfl) (by kernel_rfl) rfl rfl ?_
          refine qmv rfl rfl rfl rfl ?_
          refine Ho.back ?_
          refine Ho.take (i := 4) SC Pp.body rfl (by kernel_rfl) (by kernel_rfl) (by kernel_rfl) rfl rfl ?_
          have hv129 := hb.cut (lo := 16) (hi := 20) (mx := capV v) (by have hcap := hb.cap; omega)
          refine qslC (lo := 16) (hi := 20) (mx := capV v) rfl hb e26 rfl rfl rfl (i1 := some 16) (i2 := some 20) (i3 := none) ⟨_, _, _, rfl, rfl⟩ ⟨_, _, _, rfl, rfl⟩ trivial rfl rfl rfl (fun h => by first | rfl | cases h) (fun hG => by (try simp [allT] at hG); have hcap := hb.cap; omega) ?_
          refine Ho.back ?_
          refine Ho.one (i := 2) (by kernel_rfl) rfl rfl ?_
          refine calg (vs := [_]) rfl ⟨⟨_, _, rfl, rfl⟩, trivial⟩ k103 rfl (fun hG => c103at _ _ b 12 _ (hv126.now S) (by rw [List.length_take, List.length_drop]; omega) (ipOf_cut b 12)) ?_
          intro w16 B_; have S := S.call B_
          have SC := S.pick [false, true, true, true, true, true] rfl
          refine Ho.on SC ?_
          refine Ho.take (i := 6) SC Pp.body rfl (by kernel_rfl) (by kernel_rfl) (by kernel_rfl) rfl rfl ?_
          refine qfld (o' := 7) rfl fo28_7 rfl rfl rfl rfl ?_
          refine Ho.back ?_
          refine Ho.one (i := 5) (by kernel_rfl) rfl rfl ?_
          refine calg (vs := [_]) rfl ⟨⟨_, _, rfl, rfl⟩, trivial⟩ k103 rfl (fun hG => c103at _ _ b 16 _ (hv129.now S) (by rw [List.length_take, List.length_drop]; omega) (ipOf_cut b 16)) ?_
          intro w17 B_; have S := S.call B_
          have SC := S.pick [false, true, true, true, true, true] rfl
          refine Ho.on SC ?_
          refine Ho.one (i := 7) (by kernel_rfl) rfl rfl ?_
          refine stA rfl rfl T24 rfl (by decide) (encIP_all1 _) S (i := 0) rfl rfl rfl ?_
          intro w18 S
          have SC := S.pick [false, true, true, true, true, true] rfl
          refine Ho.on SC ?_
          refine Ho.take (i := 8) SC Pp.body rfl (by kernel_rfl) (by kernel_rfl) (by kernel_rfl) rfl rfl ?_
          refine qfld (o' := 24) rfl fo28_8 rfl rfl rfl rfl ?_
          refine Ho.back ?_
          refine Ho.one (i := 9) (by kernel_rfl) rfl rfl ?_
          refine stA rfl rfl T24 rfl (by decide) (encIP_all1 _) S (i := 0) rfl rfl rfl ?_
          intro w19 S
          have SC := S.pick [false, true, true, true, true, true] rfl
          refine Ho.on SC ?_
          refine Ho.done (by kernel_rfl) ?_
          refine Nrm.code ?_
          refine Run.seq ?_
          refine Run.region ?_
          refine mv1 rfl rfl ?_
          refine mv1 rfl rfl ?_
          refine mv1 rfl rfl ?_
          refine mv1 rfl rfl ?_
          refine slC (lo := hdN b) (hi := totN b) (mx := totN b) rfl hb e26 rfl rfl rfl (i1 := some (hdN b)) (i2 := some (totN b)) (i3 := some (totN b)) ⟨_, _, _, rfl, rfl⟩ ⟨_, _, _, rfl, rfl⟩ ⟨_, _, _, rfl, rfl⟩ rfl rfl rfl (fun h => by first | rfl | cases h) (fun hG => by (try simp [allT] at hG); have hcap := hb.cap; omega) ?_
          have hv137 := hb.cut (lo := hdN b) (hi := totN b) (mx := totN b) (by have hcap := hb.cap; omega)
          refine fld (o' := 42) rfl fo28_10 rfl rfl rfl rfl ?_
          refine st1 rfl rfl T26 hv137.one S (i := 0) rfl rfl rfl ?_
          intro w20 S
          refine Ro.nil ?_
          refine Nrm.code ?_
          refine Run.seq ?_
          refine Run.region ?_
          refine ldW rfl T28 S (i := 0) rfl rfl rfl rfl rfl ?_
          refine stW rfl rfl T28 rfl rfl (one_cons rfl (one_cons rfl (one_cons rfl (one_cons rfl (one_cons rfl (one_cons rfl (one_cons rfl (one_cons rfl (one_cons rfl (one_cons rfl (one_cons rfl (one_cons rfl (one_cons rfl (one_cons rfl (one_cons rfl (one_cons rfl (one_cons rfl (one_cons rfl (one_cons rfl (one_cons rfl (one_cons rfl (one_cons rfl (one_cons rfl (one_cons rfl (one_cons rfl (one_cons rfl (one_cons rfl (one_cons rfl (one_cons rfl (one_cons rfl (one_cons rfl (one_cons rfl (one_cons rfl (one_cons rfl (one_cons rfl (one_cons rfl (one_cons rfl (one_cons rfl (one_cons rfl (one_cons rfl (one_cons rfl (one_cons (S.slI (i := 1) rfl).one (one_cons hv137.one one_nil))))))))))))))))))))))))))))))))))))))))))) S (i := 5) rfl rfl ?_
          intro w21 S
          refine asg1 rfl rfl ?_
          refine Ro.nil ?_
          refine Nrm.code ?_
          refine Run.ret ?_
          refine Rt.cell2 rfl rfl rfl T28 S (i := 5) rfl rfl ?_
          have he : parE b = 0 := by
           unfold parE
           rw [if_neg (by omega), if_neg (by omega), if_neg (by omega), if_neg (by omega), if_neg (by omega), if_neg (by omega), if_neg (by omega)]
           omega
          exact ⟨_, _, vs, by rw [parH, if_pos he, he]; rfl, by rw [parH, if_pos he]; exact (S.pick [false, true, false, false, false, false] rfl).toFO (i := 0) rfl, fun N w1 h1 => by rw [parH, if_pos he]; exact ⟨hwin N w1 (h1.cut (by have := h1.cap; omega)), h1.cut (by have := h1.cap; omega)⟩⟩
       ·
        try simp only [Bool.or_eq_true, Bool.and_eq_true, Bool.or_eq_false_iff, Bool.and_eq_false_iff, decide_eq_true_eq, decide_eq_false_iff_not, Bool.not_eq_true', Bool.not_eq_false', Bool.not_eq_true, Bool.not_eq_false] at hc17
        refine Run.skip ?_
        refine Nrm.code ?_
        refine Run.seq ?_
        refine Run.seq ?_
        refine Run.region ?_
        refine mv1 rfl rfl ?_
        refine neq1 rfl rfl rfl ?_
        refine Ro.nil ?_
        refine Nrm.code ?_
        refine Run.cond rfl (fun hc19 => ?_) (fun hc19 => ?_)
        ·
         try simp only [Bool.or_eq_true, Bool.and_eq_true, Bool.or_eq_false_iff, Bool.and_eq_false_iff, decide_eq_true_eq, decide_eq_false_iff_not, Bool.not_eq_true', Bool.not_eq_false', Bool.not_eq_true, Bool.not_eq_false] at hc19
         refine Run.seq ?_
         refine Run.region ?_
         refine bld B28 (qs := []) trivial rfl rfl rfl ?_
         refine mv1 rfl rfl ?_
         refine stW rfl rfl T28 rfl rfl (by simp [Value.oneCell']) S (i := 4) rfl rfl ?_
         intro w9 S
         refine asg1 rfl rfl ?_
         refine Ro.nil ?_
         refine Nrm.code ?_
         refine Run.ret ?_
         refine Rt.cell2 rfl rfl rfl T28 S (i := 4) rfl rfl ?_
         have he : parE b = optE (optB4 b) := by
          unfold parE
          rw [if_neg (by omega), if_neg (by omega), if_neg (by omega), if_neg (by omega), if_neg (by omega), if_neg (by omega), if_pos (show optE (optB4 b) ≠ 0 from hc17)]
         exact ⟨.slice none 0 0, .slice none 0 0, [], by rw [parH_err he (by omega), he]; rfl, by rw [parH_err he (by omega)]; exact (S.nilO).toFO (i := 0) rfl, fun _ _ _ => by rw [parH_err he (by omega)]; exact ⟨trivial, BS.nil _ _⟩⟩
        ·
         try simp only [Bool.or_eq_true, Bool.and_eq_true, Bool.or_eq_false_iff, Bool.and_eq_false_iff, decide_eq_true_eq, decide_eq_false_iff_not, Bool.not_eq_true', Bool.not_eq_false', Bool.not_eq_true, Bool.not_eq_false] at hc19
         exfalso; omega
end Go.Proofs.YtkahmepenjhcpaaDoor.W
/- Contracts: datagrams compared. No statement of the seat is proved here. -/
namespace Go.Proofs.YtkahmepenjhcpaaDoor.W
open Go
set_option linter.unusedSimpArgs false
set_option linter.unusedVariables false
def sameOs (a b : List Opt) : Bool := decide (a.map Opt.kind = b.map Opt.kind) && decide (a.map Opt.data = b.map Opt.data)
theorem opt_ext {a b : Opt} (h1 : a.kind = b.kind) (h2 : a.data = b.data) : a = b := by cases a; cases b; simp_all
theorem sameOs_iff {a b : List Opt} : sameOs a b = true ↔ a = b := by
  simp only [sameOs, Bool.and_eq_true, decide_eq_true_eq]
  constructor
  · rintro ⟨h1, h2⟩
    have hl : a.length = b.length := by have := congrArg List.length h1; simpa using this
    refine List.ext_getElem hl (fun i h h' => opt_ext ?_ ?_)
    · have e := congrArg (fun l : List Int => l[i]?) h1
      simpa [h, h'] using e
    · have e := congrArg (fun l : List (List Int) => l[i]?) h2
      simpa [h, h'] using e
  · intro h; rw [h]; exact ⟨rfl, rfl⟩
theorem sameOs_no {a b : List Opt} (h : a ≠ b) : sameOs a b = false := by
  cases hs : sameOs a b with
  | false => rfl
  | true => exact absurd (sameOs_iff.1 hs) h
def diffH (a b : Ip4) : Bool := ((((((((decide (a.tos ≠ b.tos) || decide (a.id ≠ b.id)) || !(a.df == b.df)) || !(a.mf == b.mf)) || decide (a.off ≠ b.off)) || decide (a.ttl ≠ b.ttl)) || decide (a.proto ≠ b.proto)) || !sameB a.src b.src) || !sameB a.dst b.dst)
def sameH (a b : Ip4) : Bool := !diffH a b && (sameOs a.opts b.opts && decide (a.data = b.data))
set_option maxHeartbeats 1000000 in
theorem c46 (v u : Value) (a b : List Opt) (w : World) (hO : OS [] w v a) (hP : OS [] w u b) (hl : a.length ≤ 1099511627776) :
    CallsD Tryd.prog 46 #[v, u] w (.bool (sameOs a b)) := by
  refine enter Tryd.func46 rfl Tryd.ntmps46 (l := [(0, [], _), (1, [], _)]) rfl rfl ?_
  have S := St.refl [] w
  obtain ⟨ds, hOS, hOB⟩ := hO
  obtain ⟨es, hPS, hPB⟩ := hP
  refine Run.seq ?_
  refine Run.region ?_
  refine asg1 rfl rfl ?_
  refine Ro.nil ?_
  refine Nrm.code ?_
  refine Run.seq ?_
  refine Run.seq ?_
  refine Run.region ?_
  refine mv1 rfl rfl ?_
  refine lenS rfl hOS Tryd.underlying25 rfl rfl rfl ?_
  refine mv1 rfl rfl ?_
  refine lenS rfl hPS Tryd.underlying25 rfl rfl rfl ?_
  refine neq1 rfl rfl rfl ?_
  refine Ro.nil ?_
  refine Nrm.code ?_
  refine Run.cond rfl (fun hc1 => ?_) (fun hc1 => ?_)
  ·
    try simp only [Bool.or_eq_true, Bool.and_eq_true, Bool.or_eq_false_iff, Bool.and_eq_false_iff, decide_eq_true_eq, decide_eq_false_iff_not, Bool.not_eq_true', Bool.not_eq_false', Bool.not_eq_true, Bool.not_eq_false] at hc1
    refine Run.seq ?_
    refine Run.region ?_
    refine asg1 rfl rfl ?_
    refine Ro.nil ?_
    refine Nrm.code ?_
    refine Run.ret ?_
    refine Rt.one rfl rfl ?_
    exact ⟨by rw [sameOs_no (fun h => by rw [h] at hc1; omega)], S.bl⟩
  ·
    try simp only [Bool.or_eq_true, Bool.and_eq_true, Bool.or_eq_false_iff, Bool.and_eq_false_iff, decide_eq_true_eq, decide_eq_false_iff_not, Bool.not_eq_true', Bool.not_eq_false', Bool.not_eq_true, Bool.not_eq_false] at hc1
    refine Run.skip ?_
    refine Nrm.code ?_
    refine Run.seq ?_
    refine Run.seq ?_
    refine Run.region ?_
    refine asg1 rfl rfl ?_
    refine Ro.nil ?_
    refine Nrm.code ?_
    refine Run.block ?_
    refine Run.loop1 (fun (i : Nat) w_ => i ≤ a.length ∧ a.take i = b.take i ∧ St [] w [] w_) (fun (i : Nat) => [(0, [], v), (1, [], u), (5, [], .int .i64 i)]) (fun (i : Nat) => a.length - i) (0) ⟨Nat.zero_le _, rfl, S⟩ ⟨rfl, rfl, rfl, trivial⟩ ?_
    rintro i w1 ⟨hi, he, S⟩
    refine Run.seq ?_
    refine Run.seq ?_
    refine Run.region ?_
    refine mv1 rfl rfl ?_
    refine mv1 rfl rfl ?_
    refine lenS rfl hOS Tryd.underlying25 rfl rfl rfl ?_
    refine lss1 rfl rfl rfl ?_
    refine Ro.nil ?_
    refine Nrm.code ?_
    refine Run.cond rfl (fun hc4 => ?_) (fun hc4 => ?_)
    ·
      try simp only [Bool.or_eq_true, Bool.and_eq_true, Bool.or_eq_false_iff, Bool.and_eq_false_iff, decide_eq_true_eq, decide_eq_false_iff_not, Bool.not_eq_true', Bool.not_eq_false', Bool.not_eq_true, Bool.not_eq_false] at hc4
      refine Run.skip ?_
      refine Nrm.code ?_
      refine Run.seq ?_
      refine Run.block ?_
      refine Run.seq ?_
      refine Run.draw (by kernel_rfl) (by kernel_rfl) S ?_
      obtain ⟨p1, hp1, hb1⟩ := hOB.at (i := i) (by omega)
      obtain ⟨p2, hp2, hb2⟩ := hPB.at (i := i) (by omega)
      refine qmv rfl rfl rfl rfl ?_
      refine qmv rfl rfl rfl rfl ?_
      refine qixa rfl rfl hOS e25 rfl rfl rfl rfl (fun _ => by first | omega | (simp only [List.length_cons, List.length_nil]; omega)) ?_
      refine qflE rfl hOS fo93_1 rfl rfl rfl (fun _ => hOB.lt (by omega)) ?_
      refine qldE rfl hOS (fun _ S => S) T26 rfl rfl rfl (fun _ => hOB.k1 (by omega) hp1) ?_
      refine qmv rfl rfl rfl rfl ?_
      refine qmv rfl rfl rfl rfl ?_
      refine qixa rfl rfl hPS e25 rfl rfl rfl rfl (fun _ => by first | omega | (simp only [List.length_cons, List.length_nil]; omega)) ?_
      refine qflE rfl hPS fo93_1 rfl rfl rfl (fun _ => hPB.lt (by omega)) ?_
      refine qldE rfl hPS (fun _ S => S) T26 rfl rfl rfl (fun _ => hPB.k1 (by omega) hp2) ?_
      refine qcal (vs := [_, _]) rfl ⟨⟨_, _, rfl, rfl⟩, ⟨_, _, rfl, rfl⟩, trivial⟩ k37 rfl (fun _ _ S B => S.call B) (fun hG w_ S => c37 _ _ _ _ _ (hb1.now S) (hb2.now S)) ?_
      refine qasg rfl rfl rfl rfl ?_
      refine Qo.nil (fun w2 S => ?_)
      refine Nrm.code ?_
      refine Run.seq ?_
      refine Run.draw (by kernel_rfl) (by kernel_rfl) S ?_
      refine qmv rfl rfl rfl rfl ?_
      refine qmv rfl rfl rfl rfl ?_
      refine qixa rfl rfl hOS e25 rfl rfl rfl rfl (fun _ => by first | omega | (simp only [List.length_cons, List.length_nil]; omega)) ?_
      refine qflE rfl hOS fo93_0 rfl rfl rfl (fun _ => hOB.lt (by omega)) ?_
      refine qldE rfl hOS (fun _ S => S) T3 rfl rfl rfl (fun _ => hOB.k0 (by omega) hp1) ?_
      refine qmv rfl rfl rfl rfl ?_
      refine qmv rfl rfl rfl rfl ?_
      refine qixa rfl rfl hPS e25 rfl rfl rfl rfl (fun _ => by first | omega | (simp only [List.length_cons, List.length_nil]; omega)) ?_
      refine qflE rfl hPS fo93_0 rfl rfl rfl (fun _ => hPB.lt (by omega)) ?_
      refine qldE rfl hPS (fun _ S => S) T3 rfl rfl rfl (fun _ => hPB.k0 (by omega) hp2) ?_
      refine qneq rfl rfl rfl rfl rfl rfl ?_
      refine qmv rfl rfl rfl rfl ?_
      refine qmv rfl rfl rfl rfl ?_
      refine qnt rfl rfl rfl rfl ?_
      refine qpkO rfl rfl rfl rfl rfl rfl ?_
      refine Qo.nil (fun w3 S => ?_)
      refine Nrm.code ?_
      refine Run.cond rfl (fun hc7 => ?_) (fun hc7 => ?_)
      ·
        try simp only [Bool.or_eq_true, Bool.and_eq_true, Bool.or_eq_false_iff, Bool.and_eq_false_iff, decide_eq_true_eq, decide_eq_false_iff_not, Bool.not_eq_true', Bool.not_eq_false', Bool.not_eq_true, Bool.not_eq_false] at hc7
        refine Run.seq ?_
        refine Run.region ?_
        refine asg1 rfl rfl ?_
        refine Ro.nil ?_
        refine Nrm.code ?_
        refine Run.ret ?_
        refine Rt.one rfl rfl ?_
        exact ⟨by
          rw [sameOs_no]
          intro h
          subst h
          rcases hc7 with h | h
          · exact h rfl
          · exact h rfl, S.bl⟩
      ·
        try simp only [Bool.or_eq_true, Bool.and_eq_true, Bool.or_eq_false_iff, Bool.and_eq_false_iff, decide_eq_true_eq, decide_eq_false_iff_not, Bool.not_eq_true', Bool.not_eq_false', Bool.not_eq_true, Bool.not_eq_false] at hc7
        refine Run.skip ?_
        refine Nrm.blk ?_
        refine Nrm.code ?_
        refine Run.region ?_
        refine mv1 rfl rfl ?_
        refine add1 rfl rfl rfl (w64 (by omega)) ?_
        refine asg1 rfl rfl ?_
        refine Ro.nil ?_
        refine Nrm.loop1 (i + 1) ⟨by omega, by rw [take_succ_getD (show i < a.length by omega) (d := o0), take_succ_getD (show i < b.length by omega) (d := o0), he, opt_ext (a := a.getD i o0) (b := b.getD i o0) (by omega) hc7.2], S⟩ (by omega) ⟨rfl, rfl, rfl, trivial⟩
    ·
      try simp only [Bool.or_eq_true, Bool.and_eq_true, Bool.or_eq_false_iff, Bool.and_eq_false_iff, decide_eq_true_eq, decide_eq_false_iff_not, Bool.not_eq_true', Bool.not_eq_false', Bool.not_eq_true, Bool.not_eq_false] at hc4
      refine Run.exit ?_
      refine Lv.code ?_
      refine Lv.back ?_
      refine Lv.hit ?_
      refine Nrm.code ?_
      refine Run.seq ?_
      refine Run.region ?_
      refine asg1 rfl rfl ?_
      refine Ro.nil ?_
      refine Nrm.code ?_
      refine Run.ret ?_
      refine Rt.one rfl rfl ?_
      have e : i = a.length := by omega
      rw [e, List.take_length, List.take_of_length_le (by omega)] at he
      exact ⟨by rw [sameOs_iff.2 he], S.bl⟩
set_option maxHeartbeats 1000000 in
theorem c34 (a b : Ip4) (o1 d1 o2 d2 : Value) (w : World) (hO : OS [] w o1 a.opts) (hd : BS [] w d1 a.data) (hP : OS [] w o2 b.opts) (he : BS [] w d2 b.data) (hl : a.opts.length ≤ 1099511627776) :
  CallsD Tryd.prog 34 #[.agg (encIp4 a o1 d1).toArray, .agg (encIp4 b o2 d2).toArray] w (.bool (sameH a b)) := by
 refine enter Tryd.func34 rfl Tryd.ntmps34 (l := [(0, [], _), (1, [], _)]) rfl rfl ?_
 have S := St.refl [] w
 refine Run.seq ?_
 refine Run.region ?_
 refine boxA rfl S rfl ?_
 intro b2 w1 hb2 S B_
 refine boxA rfl S rfl ?_
 intro b3 w2 hb3 S B_
 refine asg1 rfl rfl ?_
 refine Ro.nil ?_
 refine Nrm.code ?_
 refine Run.seq ?_
 refine Run.seq ?_
 refine Run.region ?_
 refine fld (o' := 0) rfl fo28_0 rfl rfl rfl rfl ?_
 refine ld1 rfl T3 S (i := 1) rfl rfl rfl rfl rfl ?_
 refine fld (o' := 0) rfl fo28_0 rfl rfl rfl rfl ?_
 refine ld1 rfl T3 S (i := 0) rfl rfl rfl rfl rfl ?_
 refine neq1 rfl rfl rfl ?_
 refine mv1 rfl rfl ?_
 refine fld (o' := 1) rfl fo28_1 rfl rfl rfl rfl ?_
 refine ld1 rfl T3 S (i := 1) rfl rfl rfl rfl rfl ?_
 refine fld (o' := 1) rfl fo28_1 rfl rfl rfl rfl ?_
 refine ld1 rfl T3 S (i := 0) rfl rfl rfl rfl rfl ?_
 refine neq rfl rfl rfl rfl rfl rfl ?_
 refine pkO rfl rfl rfl rfl rfl rfl ?_
 refine mv1 rfl rfl ?_
 refine fld (o' := 2) rfl fo28_2 rfl rfl rfl rfl ?_
 refine ld1 rfl T4 S (i := 1) rfl rfl rfl rfl rfl ?_
 refine fld (o' := 2) rfl fo28_2 rfl rfl rfl rfl ?_
 refine ld1 rfl T4 S (i := 0) rfl rfl rfl rfl rfl ?_
 refine neB rfl rfl Tryd.underlying4 rfl rfl rfl rfl ?_
 refine pkO rfl rfl rfl rfl rfl rfl ?_
 refine mv1 rfl rfl ?_
 refine fld (o' := 3) rfl fo28_3 rfl rfl rfl rfl ?_
 refine ld1 rfl T4 S (i := 1) rfl rfl rfl rfl rfl ?_
 refine fld (o' := 3) rfl fo28_3 rfl rfl rfl rfl ?_
 refine ld1 rfl T4 S (i := 0) rfl rfl rfl rfl rfl ?_
 refine neB rfl rfl Tryd.underlying4 rfl rfl rfl rfl ?_
 refine pkO rfl rfl rfl rfl rfl rfl ?_
 refine mv1 rfl rfl ?_
 refine fld (o' := 4) rfl fo28_4 rfl rfl rfl rfl ?_
 refine ld1 rfl T3 S (i := 1) rfl rfl rfl rfl rfl ?_
 refine fld (o' := 4) rfl fo28_4 rfl rfl rfl rfl ?_
 refine ld1 rfl T3 S (i := 0) rfl rfl rfl rfl rfl ?_
 refine neq rfl rfl rfl rfl rfl rfl ?_
 refine pkO rfl rfl rfl rfl rfl rfl ?_
 refine mv1 rfl rfl ?_
 refine fld (o' := 5) rfl fo28_5 rfl rfl rfl rfl ?_
 refine ld1 rfl T3 S (i := 1) rfl rfl rfl rfl rfl ?_
 refine fld (o' := 5) rfl fo28_5 rfl rfl rfl rfl ?_
 refine ld1 rfl T3 S (i := 0) rfl rfl rfl rfl rfl ?_
 refine neq rfl rfl rfl rfl rfl rfl ?_
 refine pkO rfl rfl rfl rfl rfl rfl ?_
 refine mv1 rfl rfl ?_
 refine fld (o' := 6) rfl fo28_6 rfl rfl rfl rfl ?_
 refine ld1 rfl T3 S (i := 1) rfl rfl rfl rfl rfl ?_
 refine fld (o' := 6) rfl fo28_6 rfl rfl rfl rfl ?_
 refine ld1 rfl T3 S (i := 0) rfl rfl rfl rfl rfl ?_
 refine neq rfl rfl rfl rfl rfl rfl ?_
 refine pkO rfl rfl rfl rfl rfl rfl ?_
 refine mv1 rfl rfl ?_
 refine fld (o' := 7) rfl fo28_7 rfl rfl rfl rfl ?_
 refine ldA rfl T24 S (i := 1) rfl rfl rfl (by decide) rfl rfl rfl ?_
 refine fld (o' := 7) rfl fo28_7 rfl rfl rfl rfl ?_
 refine ldA rfl T24 S (i := 0) rfl rfl rfl (by decide) rfl rfl rfl ?_
 refine neI (a.src) (b.src) rfl rfl rfl rfl rfl rfl ?_
 refine pkO rfl rfl rfl rfl rfl rfl ?_
 refine mv1 rfl rfl ?_
 refine fld (o' := 24) rfl fo28_8 rfl rfl rfl rfl ?_
 refine ldA rfl T24 S (i := 1) rfl rfl rfl (by decide) rfl rfl rfl ?_
 refine fld (o' := 24) rfl fo28_8 rfl rfl rfl rfl ?_
 refine ldA rfl T24 S (i := 0) rfl rfl rfl (by decide) rfl rfl rfl ?_
 refine neI (a.dst) (b.dst) rfl rfl rfl rfl rfl rfl ?_
 refine pkO rfl rfl rfl rfl rfl rfl ?_
 refine Ro.nil ?_
 refine Nrm.code ?_
 refine Run.cond rfl (fun hc1 => ?_) (fun hc1 => ?_)
 ·
  refine Run.seq ?_
  refine Run.region ?_
  refine asg1 rfl rfl ?_
  refine Ro.nil ?_
  refine Nrm.code ?_
  refine Run.ret ?_
  refine Rt.one rfl rfl ?_
  exact ⟨by rw [sameH, show diffH a b = true from hc1]; rfl, S.bl⟩
 ·
  refine Run.skip ?_
  refine Nrm.code ?_
  refine Run.seq ?_
  refine Run.region ?_
  refine fld (o' := 41) rfl fo28_9 rfl rfl rfl rfl ?_
  refine ld1 rfl T25 S (i := 1) rfl rfl rfl rfl rfl ?_
  refine fld (o' := 41) rfl fo28_9 rfl rfl rfl rfl ?_
  refine ld1 rfl T25 S (i := 0) rfl rfl rfl rfl rfl ?_
  refine calg (vs := [_, _]) rfl ⟨⟨_, _, rfl, rfl⟩, ⟨_, _, rfl, rfl⟩, trivial⟩ k46 rfl (fun hG => c46 _ _ _ _ _ (hO.now S) (hP.now S) (by omega)) ?_
  intro w3 B_; have S := S.call B_
  refine mv1 rfl rfl ?_
  refine fld (o' := 42) rfl fo28_10 rfl rfl rfl rfl ?_
  refine ld1 rfl T26 S (i := 1) rfl rfl rfl rfl rfl ?_
  refine fld (o' := 42) rfl fo28_10 rfl rfl rfl rfl ?_
  refine ld1 rfl T26 S (i := 0) rfl rfl rfl rfl rfl ?_
  refine calg (vs := [_, _]) rfl ⟨⟨_, _, rfl, rfl⟩, ⟨_, _, rfl, rfl⟩, trivial⟩ k37 rfl (fun hG => c37 _ _ _ _ _ (hd.now S) (he.now S)) ?_
  intro w4 B_; have S := S.call B_
  refine pkA rfl rfl rfl rfl rfl rfl ?_
  refine asg1 rfl rfl ?_
  refine Ro.nil ?_
  refine Nrm.code ?_
  refine Run.ret ?_
  refine Rt.one rfl rfl ?_
  exact ⟨by rw [sameH, show diffH a b = false from hc1]; rfl, S.bl⟩
end Go.Proofs.YtkahmepenjhcpaaDoor.W
/- Contracts: datagrams cloned. No statement of the seat is proved here. -/
namespace Go.Proofs.YtkahmepenjhcpaaDoor.W
open Go
set_option linter.unusedSimpArgs false
set_option linter.unusedVariables false
theorem OS.stN {N0 N1 : List Nat} {w0 w : World} {L : List Own} {v : Value} {os : List Opt} (h : OS N1 w0 v os) (hN : ∀ i ∈ N0, i ∈ N1) (S : St N0 w0 L w) : OS (idsL L ++ N1) w v os :=
  let ⟨vs, h1, h2⟩ := h; ⟨vs, h1.stN hN S, BSs.stN hN S h2⟩
end Go.Proofs.YtkahmepenjhcpaaDoor.W
/- Contracts: segments checked, compared, cloned; what a segment tells. No statement of the seat is proved here. -/
namespace Go.Proofs.YtkahmepenjhcpaaDoor.W
open Go
set_option linter.unusedSimpArgs false
set_option linter.unusedVariables false
def badT (t : Tcp) : Bool := ((((((outN t.sport 65535 || outN t.dport 65535) || outN t.win 65535) || outN t.urg 65535) || outN t.seq 4294967295) || outN t.ack 4294967295) || outN t.flags 255)
def chkT (t : Tcp) : Int := if badT t = true then 98 else if tputE t.opts ≠ 0 then tputE t.opts else if 65535 < 20 + ((tputL t.opts).length : Int) + t.data.length then 2 else 0
theorem chkT_bd (t : Tcp) : 0 ≤ chkT t ∧ chkT t ≤ 98 := by
  have := tputE_or t.opts
  unfold chkT; (repeat' split) <;> omega
theorem badT_off {t : Tcp} (hb : badT t = false) : 0 ≤ t.sport ∧ t.sport ≤ 65535 ∧ 0 ≤ t.dport ∧ t.dport ≤ 65535 ∧ 0 ≤ t.win ∧ t.win ≤ 65535 ∧ 0 ≤ t.urg ∧ t.urg ≤ 65535 ∧ 0 ≤ t.seq ∧ t.seq ≤ 4294967295 ∧ 0 ≤ t.ack ∧ t.ack ≤ 4294967295 ∧ 0 ≤ t.flags ∧ t.flags ≤ 255 := by
  simp only [badT, outN, Bool.or_eq_false_iff, decide_eq_false_iff_not] at hb
  omega
theorem chkT_zero {t : Tcp} (hc : chkT t = 0) : badT t = false ∧ tputE t.opts = 0 ∧ 20 + ((tputL t.opts).length : Int) + t.data.length ≤ 65535 := by
  unfold chkT at hc
  cases hb : badT t with
  | true => rw [hb] at hc; simp at hc
  | false =>
    rw [hb] at hc
    simp only [Bool.false_eq_true, if_false] at hc
    by_cases h2 : tputE t.opts = 0
    · rw [if_neg (by omega)] at hc
      by_cases h3 : 65535 < 20 + ((tputL t.opts).length : Int) + t.data.length
      · rw [if_pos h3] at hc; omega
      · exact ⟨rfl, h2, by omega⟩
    · rw [if_pos h2] at hc; omega
def diffT (a b : Tcp) : Bool := ((((((decide (a.sport ≠ b.sport) || decide (a.dport ≠ b.dport)) || decide (a.seq ≠ b.seq)) || decide (a.ack ≠ b.ack)) || decide (a.flags ≠ b.flags)) || decide (a.win ≠ b.win)) || decide (a.urg ≠ b.urg))
def sameT (a b : Tcp) : Bool := !diffT a b && (sameOs a.opts b.opts && decide (a.data = b.data))
def mssF : List Opt → Int × Bool
  | [] => (0, false)
  | o :: l => if toldB o = true then (toldN o, true) else mssF l
theorem mssF_at {l : List Opt} {i : Nat} (h : i < l.length) : mssF (l.drop i) = if toldB (l.getD i o0) = true then (toldN (l.getD i o0), true) else mssF (l.drop (i + 1)) := by
  rw [List.drop_eq_getElem_cons h, List.getD_eq_getElem?_getD, List.getElem?_eq_getElem h]
  rfl
theorem mssF_end {l : List Opt} {i : Nat} (h : l.length ≤ i) : mssF (l.drop i) = (0, false) := by rw [List.drop_eq_nil_of_le h]; rfl
set_option maxHeartbeats 1000000 in
theorem c64 (t : Tcp) (o d : Value) (w : World) (hO : OS [] w o t.opts) (hd : BS [] w d t.data) (hol : t.opts.length ≤ 1099511627776) (hoo : ∀ p ∈ t.opts, p.data.length ≤ 1099511627776) (hdl : t.data.length ≤ 1099511627776) (hg3 : GV [] w 3 183 (lenT.map u64)) :
  CallsD Tryd.prog 64 #[.agg (encTcp t o d).toArray] w (.int .i64 (chkT t)) := by
 refine enter Tryd.func64 rfl Tryd.ntmps64 (l := [(0, [], _)]) rfl rfl ?_
 have S := St.refl [] w
 have hpl := tputL_len t.opts
 refine Run.seq ?_
 refine Run.region ?_
 refine boxA rfl S rfl ?_
 intro b1 w1 hb1 S B_
 refine asg1 rfl rfl ?_
 refine Ro.nil ?_
 refine Nrm.code ?_
 refine Run.seq ?_
 refine Run.seq ?_
 refine Run.region ?_
 refine fld (o' := 0) rfl fo82_0 rfl rfl rfl rfl ?_
 refine ld1 rfl T3 S (i := 0) rfl rfl rfl rfl rfl ?_
 refine calg (vs := [_, _]) rfl ⟨⟨_, _, rfl, rfl⟩, ⟨_, _, rfl, rfl⟩, trivial⟩ k126 rfl (fun hG => c126 _ _ _) ?_
 intro w2 B_; have S := S.call B_
 refine mv1 rfl rfl ?_
 refine fld (o' := 1) rfl fo82_1 rfl rfl rfl rfl ?_
 refine ld1 rfl T3 S (i := 0) rfl rfl rfl rfl rfl ?_
 refine calg (vs := [_, _]) rfl ⟨⟨_, _, rfl, rfl⟩, ⟨_, _, rfl, rfl⟩, trivial⟩ k126 rfl (fun hG => c126 _ _ _) ?_
 intro w3 B_; have S := S.call B_
 refine pkO rfl rfl rfl rfl rfl rfl ?_
 refine mv1 rfl rfl ?_
 refine fld (o' := 5) rfl fo82_5 rfl rfl rfl rfl ?_
 refine ld1 rfl T3 S (i := 0) rfl rfl rfl rfl rfl ?_
 refine calg (vs := [_, _]) rfl ⟨⟨_, _, rfl, rfl⟩, ⟨_, _, rfl, rfl⟩, trivial⟩ k126 rfl (fun hG => c126 _ _ _) ?_
 intro w4 B_; have S := S.call B_
 refine pkO rfl rfl rfl rfl rfl rfl ?_
 refine mv1 rfl rfl ?_
 refine fld (o' := 6) rfl fo82_6 rfl rfl rfl rfl ?_
 refine ld1 rfl T3 S (i := 0) rfl rfl rfl rfl rfl ?_
 refine calg (vs := [_, _]) rfl ⟨⟨_, _, rfl, rfl⟩, ⟨_, _, rfl, rfl⟩, trivial⟩ k126 rfl (fun hG => c126 _ _ _) ?_
 intro w5 B_; have S := S.call B_
 refine pkO rfl rfl rfl rfl rfl rfl ?_
 refine mv1 rfl rfl ?_
 refine fld (o' := 2) rfl fo82_2 rfl rfl rfl rfl ?_
 refine ld1 rfl T3 S (i := 0) rfl rfl rfl rfl rfl ?_
 refine calg (vs := [_, _]) rfl ⟨⟨_, _, rfl, rfl⟩, ⟨_, _, rfl, rfl⟩, trivial⟩ k126 rfl (fun hG => c126 _ _ _) ?_
 intro w6 B_; have S := S.call B_
 refine pkO rfl rfl rfl rfl rfl rfl ?_
 refine mv1 rfl rfl ?_
 refine fld (o' := 3) rfl fo82_3 rfl rfl rfl rfl ?_
 refine ld1 rfl T3 S (i := 0) rfl rfl rfl rfl rfl ?_
 refine calg (vs := [_, _]) rfl ⟨⟨_, _, rfl, rfl⟩, ⟨_, _, rfl, rfl⟩, trivial⟩ k126 rfl (fun hG => c126 _ _ _) ?_
 intro w7 B_; have S := S.call B_
 refine pkO rfl rfl rfl rfl rfl rfl ?_
 refine mv1 rfl rfl ?_
 refine fld (o' := 4) rfl fo82_4 rfl rfl rfl rfl ?_
 refine ld1 rfl T3 S (i := 0) rfl rfl rfl rfl rfl ?_
 refine calg (vs := [_, _]) rfl ⟨⟨_, _, rfl, rfl⟩, ⟨_, _, rfl, rfl⟩, trivial⟩ k126 rfl (fun hG => c126 _ _ _) ?_
 intro w8 B_; have S := S.call B_
 refine pkO rfl rfl rfl rfl rfl rfl ?_
 refine Ro.nil ?_
 refine Nrm.code ?_
 refine Run.cond rfl (fun hc1 => ?_) (fun hc1 => ?_)
 ·
  refine Run.seq ?_
  refine Run.region ?_
  refine asg1 rfl rfl ?_
  refine Ro.nil ?_
  refine Nrm.code ?_
  refine Run.ret ?_
  refine Rt.one rfl rfl ?_
  exact ⟨by rw [chkT, if_pos (show badT t = true from hc1)], S.bl⟩
 ·
  refine Run.skip ?_
  refine Nrm.code ?_
  refine Run.seq ?_
  refine Run.region ?_
  refine fld (o' := 7) rfl fo82_7 rfl rfl rfl rfl ?_
  refine ld1 rfl T25 S (i := 0) rfl rfl rfl rfl rfl ?_
  refine call (vs := [_]) ⟨⟨_, _, rfl, rfl⟩, trivial⟩ k73 rfl (c73 _ _ _ (hO.now S) hol hoo (hg3.now S)) ?_
  rintro _ w9 ⟨u, rfl, hF⟩
  have S := S.fb hF
  refine mv1 rfl rfl ?_
  refine extr1 rfl rfl rfl ?_
  refine extr1 rfl rfl rfl ?_
  refine asg1 rfl rfl ?_
  refine asg1 rfl rfl ?_
  refine Ro.nil ?_
  refine Nrm.code ?_
  refine Run.seq ?_
  refine Run.seq ?_
  refine Run.region ?_
  refine mv1 rfl rfl ?_
  refine neq1 rfl rfl rfl ?_
  refine Ro.nil ?_
  refine Nrm.code ?_
  refine Run.cond rfl (fun hc4 => ?_) (fun hc4 => ?_)
  ·
   try simp only [Bool.or_eq_true, Bool.and_eq_true, Bool.or_eq_false_iff, Bool.and_eq_false_iff, decide_eq_true_eq, decide_eq_false_iff_not, Bool.not_eq_true', Bool.not_eq_false', Bool.not_eq_true, Bool.not_eq_false] at hc4
   refine Run.seq ?_
   refine Run.region ?_
   refine mv1 rfl rfl ?_
   refine asg1 rfl rfl ?_
   refine Ro.nil ?_
   refine Nrm.code ?_
   refine Run.ret ?_
   refine Rt.one rfl rfl ?_
   exact ⟨by rw [chkT, if_neg (show ¬ badT t = true from by rw [show badT t = false from hc1]; simp), if_pos hc4]; rfl, S.bl⟩
  ·
   try simp only [Bool.or_eq_true, Bool.and_eq_true, Bool.or_eq_false_iff, Bool.and_eq_false_iff, decide_eq_true_eq, decide_eq_false_iff_not, Bool.not_eq_true', Bool.not_eq_false', Bool.not_eq_true, Bool.not_eq_false] at hc4
   refine Run.skip ?_
   refine Nrm.code ?_
   refine Run.seq ?_
   refine Run.seq ?_
   refine Run.region ?_
   refine mv1 rfl rfl ?_
   refine lenS rfl (S.slI (i := 0) rfl) Tryd.underlying26 rfl rfl rfl ?_
   refine add1 rfl rfl rfl (w64 (by omega)) ?_
   refine fld (o' := 8) rfl fo82_8 rfl rfl rfl rfl ?_
   refine ld1 rfl T26 S (i := 1) rfl rfl rfl rfl rfl ?_
   refine lenS rfl hd.2 Tryd.underlying26 rfl rfl rfl ?_
   refine add1 rfl rfl rfl (w64 (by omega)) ?_
   refine gtr1 rfl rfl rfl ?_
   refine Ro.nil ?_
   refine Nrm.code ?_
   refine Run.cond rfl (fun hc6 => ?_) (fun hc6 => ?_)
   ·
    try simp only [Bool.or_eq_true, Bool.and_eq_true, Bool.or_eq_false_iff, Bool.and_eq_false_iff, decide_eq_true_eq, decide_eq_false_iff_not, Bool.not_eq_true', Bool.not_eq_false', Bool.not_eq_true, Bool.not_eq_false] at hc6
    refine Run.seq ?_
    refine Run.region ?_
    refine asg1 rfl rfl ?_
    refine Ro.nil ?_
    refine Nrm.code ?_
    refine Run.ret ?_
    refine Rt.one rfl rfl ?_
    exact ⟨by rw [chkT, if_neg (show ¬ badT t = true from by rw [show badT t = false from hc1]; simp), if_neg (by omega), if_pos (by omega)], S.bl⟩
   ·
    try simp only [Bool.or_eq_true, Bool.and_eq_true, Bool.or_eq_false_iff, Bool.and_eq_false_iff, decide_eq_true_eq, decide_eq_false_iff_not, Bool.not_eq_true', Bool.not_eq_false', Bool.not_eq_true, Bool.not_eq_false] at hc6
    refine Run.skip ?_
    refine Nrm.code ?_
    refine Run.seq ?_
    refine Run.region ?_
    refine asg1 rfl rfl ?_
    refine Ro.nil ?_
    refine Nrm.code ?_
    refine Run.ret ?_
    refine Rt.one rfl rfl ?_
    exact ⟨by rw [chkT, if_neg (show ¬ badT t = true from by rw [show badT t = false from hc1]; simp), if_neg (by omega), if_neg (by omega)], S.bl⟩
set_option maxHeartbeats 1000000 in
theorem c63 (a b : Tcp) (o1 d1 o2 d2 : Value) (w : World) (hO : OS [] w o1 a.opts) (hd : BS [] w d1 a.data) (hP : OS [] w o2 b.opts) (he : BS [] w d2 b.data) (hl : a.opts.length ≤ 1099511627776) :
  CallsD Tryd.prog 63 #[.agg (encTcp a o1 d1).toArray, .agg (encTcp b o2 d2).toArray] w (.bool (sameT a b)) := by
 refine enter Tryd.func63 rfl Tryd.ntmps63 (l := [(0, [], _), (1, [], _)]) rfl rfl ?_
 have S := St.refl [] w
 refine Run.seq ?_
 refine Run.region ?_
 refine boxA rfl S rfl ?_
 intro b2 w1 hb2 S B_
 refine boxA rfl S rfl ?_
 intro b3 w2 hb3 S B_
 refine asg1 rfl rfl ?_
 refine Ro.nil ?_
 refine Nrm.code ?_
 refine Run.seq ?_
 refine Run.seq ?_
 refine Run.region ?_
 refine fld (o' := 0) rfl fo82_0 rfl rfl rfl rfl ?_
 refine ld1 rfl T3 S (i := 1) rfl rfl rfl rfl rfl ?_
 refine fld (o' := 0) rfl fo82_0 rfl rfl rfl rfl ?_
 refine ld1 rfl T3 S (i := 0) rfl rfl rfl rfl rfl ?_
 refine neq1 rfl rfl rfl ?_
 refine mv1 rfl rfl ?_
 refine fld (o' := 1) rfl fo82_1 rfl rfl rfl rfl ?_
 refine ld1 rfl T3 S (i := 1) rfl rfl rfl rfl rfl ?_
 refine fld (o' := 1) rfl fo82_1 rfl rfl rfl rfl ?_
 refine ld1 rfl T3 S (i := 0) rfl rfl rfl rfl rfl ?_
 refine neq rfl rfl rfl rfl rfl rfl ?_
 refine pkO rfl rfl rfl rfl rfl rfl ?_
 refine mv1 rfl rfl ?_
 refine fld (o' := 2) rfl fo82_2 rfl rfl rfl rfl ?_
 refine ld1 rfl T3 S (i := 1) rfl rfl rfl rfl rfl ?_
 refine fld (o' := 2) rfl fo82_2 rfl rfl rfl rfl ?_
 refine ld1 rfl T3 S (i := 0) rfl rfl rfl rfl rfl ?_
 refine neq rfl rfl rfl rfl rfl rfl ?_
 refine pkO rfl rfl rfl rfl rfl rfl ?_
 refine mv1 rfl rfl ?_
 refine fld (o' := 3) rfl fo82_3 rfl rfl rfl rfl ?_
 refine ld1 rfl T3 S (i := 1) rfl rfl rfl rfl rfl ?_
 refine fld (o' := 3) rfl fo82_3 rfl rfl rfl rfl ?_
 refine ld1 rfl T3 S (i := 0) rfl rfl rfl rfl rfl ?_
 refine neq rfl rfl rfl rfl rfl rfl ?_
 refine pkO rfl rfl rfl rfl rfl rfl ?_
 refine mv1 rfl rfl ?_
 refine fld (o' := 4) rfl fo82_4 rfl rfl rfl rfl ?_
 refine ld1 rfl T3 S (i := 1) rfl rfl rfl rfl rfl ?_
 refine fld (o' := 4) rfl fo82_4 rfl rfl rfl rfl ?_
 refine ld1 rfl T3 S (i := 0) rfl rfl rfl rfl rfl ?_
 refine neq rfl rfl rfl rfl rfl rfl ?_
 refine pkO rfl rfl rfl rfl rfl rfl ?_
 refine mv1 rfl rfl ?_
 refine fld (o' := 5) rfl fo82_5 rfl rfl rfl rfl ?_
 refine ld1 rfl T3 S (i := 1) rfl rfl rfl rfl rfl ?_
 refine fld (o' := 5) rfl fo82_5 rfl rfl rfl rfl ?_
 refine ld1 rfl T3 S (i := 0) rfl rfl rfl rfl rfl ?_
 refine neq rfl rfl rfl rfl rfl rfl ?_
 refine pkO rfl rfl rfl rfl rfl rfl ?_
 refine mv1 rfl rfl ?_
 refine fld (o' := 6) rfl fo82_6 rfl rfl rfl rfl ?_
 refine ld1 rfl T3 S (i := 1) rfl rfl rfl rfl rfl ?_
 refine fld (o' := 6) rfl fo82_6 rfl rfl rfl rfl ?_
 refine ld1 rfl T3 S (i := 0) rfl rfl rfl rfl rfl ?_
 refine neq rfl rfl rfl rfl rfl rfl ?_
 refine pkO rfl rfl rfl rfl rfl rfl ?_
 refine Ro.nil ?_
 refine Nrm.code ?_
 refine Run.cond rfl (fun hc1 => ?_) (fun hc1 => ?_)
 ·
  refine Run.seq ?_
  refine Run.region ?_
  refine asg1 rfl rfl ?_
  refine Ro.nil ?_
  refine Nrm.code ?_
  refine Run.ret ?_
  refine Rt.one rfl rfl ?_
  exact ⟨by rw [sameT, show diffT a b = true from hc1]; rfl, S.bl⟩
 ·
  refine Run.skip ?_
  refine Nrm.code ?_
  refine Run.seq ?_
  refine Run.region ?_
  refine fld (o' := 7) rfl fo82_7 rfl rfl rfl rfl ?_
  refine ld1 rfl T25 S (i := 1) rfl rfl rfl rfl rfl ?_
  refine fld (o' := 7) rfl fo82_7 rfl rfl rfl rfl ?_
  refine ld1 rfl T25 S (i := 0) rfl rfl rfl rfl rfl ?_
  refine calg (vs := [_, _]) rfl ⟨⟨_, _, rfl, rfl⟩, ⟨_, _, rfl, rfl⟩, trivial⟩ k46 rfl (fun hG => c46 _ _ _ _ _ (hO.now S) (hP.now S) (by omega)) ?_
  intro w3 B_; have S := S.call B_
  refine mv1 rfl rfl ?_
  refine fld (o' := 8) rfl fo82_8 rfl rfl rfl rfl ?_
  refine ld1 rfl T26 S (i := 1) rfl rfl rfl rfl rfl ?_
  refine fld (o' := 8) rfl fo82_8 rfl rfl rfl rfl ?_
  refine ld1 rfl T26 S (i := 0) rfl rfl rfl rfl rfl ?_
  refine calg (vs := [_, _]) rfl ⟨⟨_, _, rfl, rfl⟩, ⟨_, _, rfl, rfl⟩, trivial⟩ k37 rfl (fun hG => c37 _ _ _ _ _ (hd.now S) (he.now S)) ?_
  intro w4 B_; have S := S.call B_
  refine pkA rfl rfl rfl rfl rfl rfl ?_
  refine asg1 rfl rfl ?_
  refine Ro.nil ?_
  refine Nrm.code ?_
  refine Run.ret ?_
  refine Rt.one rfl rfl ?_
  exact ⟨by rw [sameT, show diffT a b = false from hc1]; rfl, S.bl⟩
set_option maxHeartbeats 1000000 in
theorem c70 (t : Tcp) (o d : Value) (w : World) (hO : OS [] w o t.opts) (hd : BS [] w d t.data) (hol : t.opts.length ≤ 1099511627776) (hoo : ∀ p ∈ t.opts, p.data.length ≤ 1099511627776) (hdl : t.data.length ≤ 1099511627776) :
  CallsD Tryd.prog 70 #[.agg (encTcp t o d).toArray] w (.tuple #[.int .i64 (mssF t.opts).1, .bool (mssF t.opts).2]) := by
 refine enter Tryd.func70 rfl Tryd.ntmps70 (l := [(0, [], _)]) rfl rfl ?_
 have S := St.refl [] w
 obtain ⟨ds, hOS, hOB⟩ := id hO
 refine Run.seq ?_
 refine Run.region ?_
 refine boxA rfl S rfl ?_
 intro b1 w1 hb1 S B_
 refine asg1 rfl rfl ?_
 refine asg1 rfl rfl ?_
 refine Ro.nil ?_
 refine Nrm.code ?_
 refine Run.seq ?_
 refine Run.seq ?_
 refine Run.region ?_
 refine fld (o' := 7) rfl fo82_7 rfl rfl rfl rfl ?_
 refine ld1 rfl T25 S (i := 0) rfl rfl rfl rfl rfl ?_
 refine lenS rfl hOS Tryd.underlying25 rfl rfl rfl ?_
 refine mv1 rfl rfl ?_
 refine Ro.nil ?_
 refine Nrm.code ?_
 refine Run.block ?_
 refine Run.loop1 (fun (i : Nat) w_ => i ≤ t.opts.length ∧ mssF t.opts = mssF (t.opts.drop i) ∧ St [] w [] w_) (fun (i : Nat) => [(9, [], o), (10, [], .int .i64 t.opts.length), (11, [], .int .i64 i)]) (fun (i : Nat) => t.opts.length - i) (0) ⟨Nat.zero_le _, rfl, (S.pick [false] rfl)⟩ ⟨rfl, rfl, rfl, trivial⟩ ?_
 rintro i w2 ⟨hi, hm, S⟩
 refine Run.seq ?_
 refine Run.region ?_
 refine lss1 rfl rfl rfl ?_
 refine Ro.nil ?_
 refine Nrm.code ?_
 refine Run.seq ?_
 refine Run.cond rfl (fun hc2 => ?_) (fun hc2 => ?_)
 ·
  try simp only [Bool.or_eq_true, Bool.and_eq_true, Bool.or_eq_false_iff, Bool.and_eq_false_iff, decide_eq_true_eq, decide_eq_false_iff_not, Bool.not_eq_true', Bool.not_eq_false', Bool.not_eq_true, Bool.not_eq_false] at hc2
  refine Run.skip ?_
  refine Nrm.code ?_
  refine Run.seq ?_
  refine Run.block ?_
  refine Run.seq ?_
  refine Run.region ?_
  obtain ⟨p1, hp1, hb1⟩ := hOB.at (i := i) (by omega)
  refine ixa rfl rfl hOS e25 rfl rfl rfl rfl (fun _ => by first | omega | (simp only [List.length_cons, List.length_nil]; omega)) ?_
  refine ldEA rfl hOS S T93 rfl rfl rfl (by decide) rfl (fun _ => hOB.two (by omega) hp1) ?_
  refine alc T93 S rfl ?_
  intro b5 w3 hb5 S B_
  refine stW rfl rfl T93 rfl rfl (one_cons rfl (one_cons hb1.one one_nil)) S (i := 0) rfl rfl ?_
  intro w4 S
  refine Ro.nil ?_
  refine Nrm.code ?_
  refine Run.seq ?_
  refine Run.region ?_
  refine ldW rfl T93 S (i := 0) rfl rfl rfl rfl rfl ?_
  refine calg (vs := [_]) rfl ⟨⟨_, _, rfl, rfl⟩, trivial⟩ k128 rfl (fun hG => c128 _ _ _ (hb1.now S)) ?_
  intro w5 B_; have S := S.call B_
  refine mv1 rfl rfl ?_
  refine extr1 rfl rfl rfl ?_
  refine extr1 rfl rfl rfl ?_
  refine asg1 rfl rfl ?_
  refine asg1 rfl rfl ?_
  refine Ro.nil ?_
  refine Nrm.code ?_
  refine Run.seq ?_
  refine Run.region ?_
  refine mv1 rfl rfl ?_
  refine Ro.nil ?_
  refine Nrm.code ?_
  refine Run.cond rfl (fun hc5 => ?_) (fun hc5 => ?_)
  ·
   try simp only [Bool.or_eq_true, Bool.and_eq_true, Bool.or_eq_false_iff, Bool.and_eq_false_iff, decide_eq_true_eq, decide_eq_false_iff_not, Bool.not_eq_true', Bool.not_eq_false', Bool.not_eq_true, Bool.not_eq_false] at hc5
   refine Run.seq ?_
   refine Run.region ?_
   refine mv1 rfl rfl ?_
   refine asg1 rfl rfl ?_
   refine asg1 rfl rfl ?_
   refine Ro.nil ?_
   refine Nrm.code ?_
   refine Run.ret ?_
   refine Rt.two rfl rfl rfl ?_
   exact ⟨by rw [hm, mssF_at (by omega), if_pos hc5]; rfl, S.bl⟩
  ·
   try simp only [Bool.or_eq_true, Bool.and_eq_true, Bool.or_eq_false_iff, Bool.and_eq_false_iff, decide_eq_true_eq, decide_eq_false_iff_not, Bool.not_eq_true', Bool.not_eq_false', Bool.not_eq_true, Bool.not_eq_false] at hc5
   refine Run.skip ?_
   refine Nrm.blk ?_
   refine Nrm.code ?_
   refine Run.region ?_
   refine add1 rfl rfl rfl (w64 (by omega)) ?_
   refine mv1 rfl rfl ?_
   refine Ro.nil ?_
   refine Nrm.loop1 (i + 1) ⟨by omega, by rw [hm, mssF_at (by omega), if_neg (by simpa using hc5)], S.drop0⟩ (by omega) ⟨rfl, rfl, rfl, trivial⟩
 ·
  try simp only [Bool.or_eq_true, Bool.and_eq_true, Bool.or_eq_false_iff, Bool.and_eq_false_iff, decide_eq_true_eq, decide_eq_false_iff_not, Bool.not_eq_true', Bool.not_eq_false', Bool.not_eq_true, Bool.not_eq_false] at hc2
  refine Run.exit ?_
  refine Lv.code ?_
  refine Lv.back ?_
  refine Lv.hit ?_
  refine Nrm.code ?_
  refine Run.seq ?_
  refine Run.region ?_
  refine asg1 rfl rfl ?_
  refine asg1 rfl rfl ?_
  refine Ro.nil ?_
  refine Nrm.code ?_
  refine Run.ret ?_
  refine Rt.two rfl rfl rfl ?_
  exact ⟨by rw [hm, mssF_end (by omega)], S.bl⟩
end Go.Proofs.YtkahmepenjhcpaaDoor.W
/- Contracts: canonical bytes. No statement of the seat is proved here. -/
namespace Go.Proofs.YtkahmepenjhcpaaDoor.W
open Go
set_option linter.unusedSimpArgs false
set_option linter.unusedVariables false
theorem OSs.now {N0 : List Nat} {w0 w : World} {L : List Own} {vs : List Value} {os : List Opt} (h : OSs N0 w0 vs os) (S : St N0 w0 L w) : OSs [] w vs os := (BSs.st S h).weak (by simp)
theorem optsG_len : ∀ (n : Nat) (b : List Int), b.length ≤ n → ∀ l, optsG b = some l → l.length ≤ b.length ∧ ∀ o ∈ l, o.data.length ≤ b.length := by
  intro n
  induction n with
  | zero =>
    intro b hb l h
    have : b = [] := List.length_eq_zero_iff.1 (by omega)
    subst this
    rw [optsG] at h; simp at h; subst h; simp
  | succ n ih =>
    intro b hb l h
    match b with
    | [] => rw [optsG] at h; simp at h; subst h; simp
    | [k] =>
      rw [optsG] at h
      split at h
      · simp at h; subst h; simp
      · simp at h
    | k :: m :: r =>
      rw [optsG] at h
      split at h
      · simp at h; subst h; simp
      · split at h
        · have := ih (m :: r) (by simp at hb ⊢; omega) l h
          simp only [List.length_cons] at this ⊢
          exact ⟨by omega, fun o ho => by have := this.2 o ho; omega⟩
        · split at h
          · simp at h
          · cases hg : optsG (r.drop (m.toNat - 2)) with
            | none => rw [hg] at h; simp at h
            | some l' =>
              rw [hg] at h
              simp only [Option.map_some, Option.some.injEq] at h
              subst h
              have := ih (r.drop (m.toNat - 2)) (by simp at hb ⊢; omega) l' hg
              simp only [List.length_cons, List.length_drop] at this ⊢
              refine ⟨by omega, ?_⟩
              intro o ho
              rcases List.mem_cons.1 ho with e | e
              · rw [e]; simp only [List.length_take]; omega
              · have := this.2 o e; omega
theorem optL_len (b : List Int) : (optL b).length ≤ 40 ∧ ∀ o ∈ optL b, o.data.length ≤ 40 := by
  unfold optL
  split
  · simp
  · cases hg : optsG b with
    | none => simp
    | some l =>
      have := optsG_len b.length b (Nat.le_refl _) l hg
      simp only [Option.getD_some]
      exact ⟨by omega, fun o ho => by have := this.2 o ho; omega⟩
theorem ip4of_ok {a b c d : Int} (ha : 0 ≤ a ∧ a < 256) (hb : 0 ≤ b ∧ b < 256) (hc : 0 ≤ c ∧ c < 256) (hd : 0 ≤ d ∧ d < 256) : (ip4of a b c d).ok := by
  refine ⟨fun i _ => ?_, by simp [ip4of]⟩
  simp only [ip4of]
  (repeat' split) <;> omega
theorem ipOf_ok {b : List Int} (h : byt b) (i : Nat) : (ipOf b i).ok := ip4of_ok (byt_getD h _) (byt_getD h _) (byt_getD h _) (byt_getD h _)
theorem ip0_ok : ip0.ok := ⟨fun _ _ => by simp [ip0], by simp [ip0]⟩
theorem parH_ok {b : List Int} (h : byt b) : (parH b).src.ok ∧ (parH b).dst.ok ∧ (parH b).opts.length ≤ 40 ∧ (∀ o ∈ (parH b).opts, o.data.length ≤ 40) ∧ (parH b).data.length ≤ b.length := by
  unfold parH
  split
  · have hl := optL_len (optB4 b)
    exact ⟨ipOf_ok h 12, ipOf_ok h 16, hl.1, hl.2, by simp only [parG, List.length_take, List.length_drop]; omega⟩
  · exact ⟨ip0_ok, ip0_ok, by simp [h00], by simp [h00], by simp [h00]⟩
theorem byt_set' {l : List Int} (h : byt l) {i : Nat} {x : Int} (hx : 0 ≤ x ∧ x < 256) : byt (l.set i x) := byt_set h _ hx
theorem serL_byt {h : Ip4} (h1 : h.src.ok) (h2 : h.dst.ok) (hd : ∀ o ∈ h.opts, W.byt o.data) (hb : W.byt h.data) : byt (serL h) := by
  unfold serL
  split
  · rename_i hc
    have hX := headB_byt hc h1 h2 hd
    have hs := sumC_bd hX
    exact byt_app (byt_set' (byt_set' hX (by omega)) (by omega)) hb
  · intro x hx; simp at hx
theorem parE_len {b : List Int} (h : parE b = 0) : b.length ≤ 65535 := by
  rcases Nat.lt_or_ge 65535 b.length with h1 | h1
  · unfold parE at h; rw [if_pos h1] at h; omega
  · exact h1
def canB (b : List Int) : Bool := decide (parE b = 0) && (decide (chkE (parH b) = 0) && decide (b = serL (parH b)))
set_option maxHeartbeats 1000000 in
theorem c35 (v : Value) (b : List Int) (w : World) (hb : BS [] w v b) (hg : GV [] w 0 130 (W4.map i64)) :
  CallsD Tryd.prog 35 #[v] w (.bool (canB b)) := by
 refine enter Tryd.func35 rfl Tryd.ntmps35 (l := [(0, [], _)]) rfl rfl ?_
 have S := St.refl [] w
 have hpk := parH_ok hb.1
 refine Run.seq ?_
 refine Run.region ?_
 refine asg1 rfl rfl ?_
 refine Ro.nil ?_
 refine Nrm.code ?_
 refine Run.seq ?_
 refine Run.region ?_
 refine mv1 rfl rfl ?_
 refine call (vs := [_]) ⟨⟨_, _, rfl, rfl⟩, trivial⟩ k33 rfl (c33 _ _ _ (hb.now S) (hg.now S)) ?_
 rintro _ w1 ⟨o, d, vs, rfl, hF, hwp⟩
 have S := S.fo hF
 have hdp := (hwp _ _ hb).2
 have hop := (hwp _ _ hb).1
 refine mv1 rfl rfl ?_
 refine extr1 rfl rfl rfl ?_
 refine extr1 rfl rfl rfl ?_
 refine alc T28 S rfl ?_
 intro b3 w2 hb3 S B_
 refine stW rfl rfl T28 rfl rfl (one_cons rfl (one_cons rfl (one_cons rfl (one_cons rfl (one_cons rfl (one_cons rfl (one_cons rfl (one_cons rfl (one_cons rfl (one_cons rfl (one_cons rfl (one_cons rfl (one_cons rfl (one_cons rfl (one_cons rfl (one_cons rfl (one_cons rfl (one_cons rfl (one_cons rfl (one_cons rfl (one_cons rfl (one_cons rfl (one_cons rfl (one_cons rfl (one_cons rfl (one_cons rfl (one_cons rfl (one_cons rfl (one_cons rfl (one_cons rfl (one_cons rfl (one_cons rfl (one_cons rfl (one_cons rfl (one_cons rfl (one_cons rfl (one_cons rfl (one_cons rfl (one_cons rfl (one_cons rfl (one_cons rfl (one_cons (S.slI (i := 1) rfl).one (one_cons hdp.one one_nil))))))))))))))))))))))))))))))))))))))))))) S (i := 0) rfl rfl ?_
 intro w3 S
 refine asg1 rfl rfl ?_
 refine Ro.nil ?_
 refine Nrm.code ?_
 refine Run.seq ?_
 refine Run.seq ?_
 refine Run.region ?_
 refine mv1 rfl rfl ?_
 refine neq1 rfl rfl rfl ?_
 refine Ro.nil ?_
 refine Nrm.code ?_
 refine Run.cond rfl (fun hc2 => ?_) (fun hc2 => ?_)
 ·
  try simp only [Bool.or_eq_true, Bool.and_eq_true, Bool.or_eq_false_iff, Bool.and_eq_false_iff, decide_eq_true_eq, decide_eq_false_iff_not, Bool.not_eq_true', Bool.not_eq_false', Bool.not_eq_true, Bool.not_eq_false] at hc2
  refine Run.seq ?_
  refine Run.region ?_
  refine asg1 rfl rfl ?_
  refine Ro.nil ?_
  refine Nrm.code ?_
  refine Run.ret ?_
  refine Rt.one rfl rfl ?_
  exact ⟨by rw [canB, decide_eq_false hc2]; rfl, S.bl⟩
 ·
  try simp only [Bool.or_eq_true, Bool.and_eq_true, Bool.or_eq_false_iff, Bool.and_eq_false_iff, decide_eq_true_eq, decide_eq_false_iff_not, Bool.not_eq_true', Bool.not_eq_false', Bool.not_eq_true, Bool.not_eq_false] at hc2
  replace hc2 : parE b = 0 := by omega
  have hbl := parE_len hc2
  have hodt : ∀ o ∈ (parH b).opts, byt o.data := fun o ho => BSs.byts hop _ (List.mem_map_of_mem ho)
  have hby_u5 := serL_byt hpk.1 hpk.2.1 hodt hdp.1
  refine Run.skip ?_
  refine Nrm.code ?_
  refine Run.seq ?_
  refine Run.region ?_
  refine ldW rfl T28 S (i := 0) rfl rfl rfl rfl rfl ?_
  refine call (vs := [_]) ⟨⟨_, _, rfl, rfl⟩, trivial⟩ k30 rfl (c30 _ _ _ _ (S.osI (i := 1) rfl (hop.now S)) (hdp.now S) (by omega) (by omega) hpk.1 hpk.2.1 (hg.now S)) ?_
  rintro _ w4 ⟨u5, rfl, hF⟩
  have S := S.fb hF
  refine mv1 rfl rfl ?_
  refine extr1 rfl rfl rfl ?_
  refine extr1 rfl rfl rfl ?_
  refine asg1 rfl rfl ?_
  refine asg1 rfl rfl ?_
  refine Ro.nil ?_
  refine Nrm.code ?_
  refine Run.seq ?_
  refine Run.region ?_
  refine mv1 rfl rfl ?_
  refine eql1 rfl rfl rfl ?_
  refine mv1 rfl rfl ?_
  refine mv rfl rfl rfl rfl ?_
  refine mv rfl rfl rfl rfl ?_
  refine calg (vs := [_, _]) rfl ⟨⟨_, _, rfl, rfl⟩, ⟨_, _, rfl, rfl⟩, trivial⟩ k104 rfl (fun hG => c104 _ _ _ _ _ (hb.now S) (S.bsI (i := 0) rfl hby_u5)) ?_
  intro w5 B_; have S := S.call B_
  refine pkA rfl rfl rfl rfl rfl rfl ?_
  refine asg1 rfl rfl ?_
  refine Ro.nil ?_
  refine Nrm.code ?_
  refine Run.ret ?_
  refine Rt.one rfl rfl ?_
  exact ⟨by rw [canB, hc2]; rfl, S.bl⟩
end Go.Proofs.YtkahmepenjhcpaaDoor.W
/- Contracts: segments read. No statement of the seat is proved here. -/
namespace Go.Proofs.YtkahmepenjhcpaaDoor.W
open Go
set_option linter.unusedSimpArgs false
set_option linter.unusedVariables false
abbrev W10 : List Int := [16, 16, 32, 32, 4, 4, 8, 16, 16, 16]
theorem fv32 {l : List Int} (j : Nat) (h : ∀ k, 0 ≤ l.getD k 0 ∧ l.getD k 0 < 256) : fv l (8 * j) 32 = numN l j 4 := by
  have e := fv_add l (8 * j) 16 16
  rw [show (16 + 16 : Nat) = 32 from rfl, fv16 j h, show 8 * j + 16 = 8 * (j + 2) from by omega, fv16 (j + 2) h, show j + 2 + 1 = j + 3 from rfl] at e
  rw [e]
  simp only [numN, Int.reducePow, Nat.add_zero]
  omega
def tcpH (b : List Int) : Nat := (4 * (b.getD 12 0 / 16)).toNat
def tcpO (b : List Int) : List Int := (b.drop 20).take (tcpH b - 20)
theorem fields_tcp {b : List Int} (h : ∀ k, 0 ≤ b.getD k 0 ∧ b.getD k 0 < 256) : fieldsS b 0 W10 =
    [wd2 b 0, wd2 b 2, numN b 4 4, numN b 8 4, b.getD 12 0 / 16, b.getD 12 0 % 16, b.getD 13 0, wd2 b 14, wd2 b 16, wd2 b 18] := by
  have e0 := fv16 (l := b) 0 h
  have e1 := fv16 (l := b) 2 h
  have e2 := fv32 (l := b) 4 h
  have e3 := fv32 (l := b) 8 h
  have e4 := fvp (l := b) 12 0 4 (h 12) (by omega)
  have e5 := fvp (l := b) 12 4 4 (h 12) (by omega)
  have e6 := fv8 (l := b) 13 (h 13)
  have e7 := fv16 (l := b) 14 h
  have e8 := fv16 (l := b) 16 h
  have e9 := fv16 (l := b) 18 h
  have g12 := h 12
  simp only [Nat.mul_zero, Nat.add_zero, Nat.zero_add, Nat.reduceMul, Nat.reduceAdd, Nat.reduceSub, Int.reducePow] at e0 e1 e2 e3 e4 e5 e6 e7 e8 e9
  simp only [W10, fieldsS, Int.reduceToNat, Nat.zero_add, Nat.reduceAdd, e0, e1, e2, e3, e4, e5, e6, e7, e8, e9, Int.ediv_one, List.cons.injEq, and_true, wd2]
  refine ⟨trivial, trivial, trivial, trivial, ?_⟩
  have h1 : b.getD 12 0 / 16 < 16 := by omega
  omega
def tcpE (s d : IP) (b : List Int) : Int :=
  if 65535 < b.length then 2 else if fitE s d ≠ 0 then fitE s d else if b.length < 20 then 94 else if tcpH b < 20 ∨ b.length < tcpH b then 95
  else if psum s d 6 b ≠ 65535 then 96 else tE (tcpO b)
def tcpG (b : List Int) : Tcp := ⟨wd2 b 0, wd2 b 2, numN b 4 4, numN b 8 4, b.getD 13 0, wd2 b 14, wd2 b 18, tL (tcpO b), (b.drop (tcpH b)).take (b.length - tcpH b)⟩
def t00 : Tcp := ⟨0, 0, 0, 0, 0, 0, 0, [], []⟩
def tcpT (s d : IP) (b : List Int) : Tcp := if tcpE s d b = 0 then tcpG b else t00
theorem tcpT_err {s d : IP} {b : List Int} {e : Int} (he : tcpE s d b = e) (h0 : e ≠ 0) : tcpT s d b = t00 := by unfold tcpT; rw [if_neg (by omega)]
theorem tE_or (b : List Int) : tE b = 0 ∨ tE b = 97 := by unfold tE; (repeat' split) <;> simp
theorem tcpE_bd (s d : IP) (b : List Int) : 0 ≤ tcpE s d b ∧ tcpE s d b ≤ 97 := by
  have := fitE_or s d
  have := tE_or (tcpO b)
  unfold tcpE; (repeat' split) <;> omega
theorem topt_len0 (b : List Int) : (tL b).length ≤ 40 ∧ ∀ o ∈ tL b, o.data.length ≤ 40 := by
  unfold tL
  split
  · simp
  · unfold toptsG
    cases hg : optsG b with
    | none => simp
    | some l =>
      have := optsG_len b.length b (Nat.le_refl _) l hg
      simp only [Option.bind_some]
      split
      · simp only [Option.getD_some]; exact ⟨by omega, fun o ho => by have := this.2 o ho; omega⟩
      · simp
set_option maxHeartbeats 1000000 in
theorem c62 (s d : IP) (v : Value) (b : List Int) (w : World) (hs : s.ok) (ht : d.ok) (hb : BS [] w v b) (hg2 : GV [] w 2 166 (W10.map i64)) (hg3 : GV [] w 3 183 (lenT.map u64)) :
  CallsV Tryd.prog 62 #[.agg (encIP s).toArray, .agg (encIP d).toArray, v] w (fun r w' => ∃ o dv vs, r = .tuple #[.agg (encTcp (tcpT s d b) o dv).toArray, .int .i64 (tcpE s d b)] ∧ FO w w' o (tcpT s d b).opts vs ∧ ∀ N w1, BS N w1 v b → OSs N w1 vs (tcpT s d b).opts ∧ BS N w1 dv (tcpT s d b).data) := by
 refine enter Tryd.func62 rfl Tryd.ntmps62 (l := [(0, [], _), (1, [], _), (2, [], _)]) rfl rfl ?_
 have S := St.refl [] w
 have hB := byt_getD hb.1
 have hfl := fields_tcp hB
 have g12 := hB 12
 have g13 := hB 13
 have hH : 4 * (b.getD 12 0 / 16) = (tcpH b : Int) := by unfold tcpH; omega
 have hH2 : b.getD 12 0 / 16 * 4 = (tcpH b : Int) := by unfold tcpH; omega
 have hHb : tcpH b ≤ 60 := by omega
 have hfo := fitE_or s d
 have hte := tE_or (tcpO b)
 have ho4 : tE (tcpO b) = tE ((b.drop 20).take (tcpH b - 20)) := rfl
 have h0b := wd2_bd hb.1 0
 have h2b := wd2_bd hb.1 2
 have h14b := wd2_bd hb.1 14
 have h16b := wd2_bd hb.1 16
 have h18b := wd2_bd hb.1 18
 have n4b := numN_lt hb.1 4 4 (by decide)
 have n8b := numN_lt hb.1 8 4 (by decide)
 refine Run.seq ?_
 refine Run.region ?_
 refine boxA rfl S rfl ?_
 intro b3 w1 hb3 S B_
 refine boxA rfl S rfl ?_
 intro b4 w2 hb4 S B_
 refine alc T82 S rfl ?_
 intro b6 w3 hb6 S B_
 refine asg1 rfl rfl ?_
 refine Ro.nil ?_
 refine Nrm.code ?_
 refine Run.seq ?_
 refine Run.seq ?_
 refine Run.region ?_
 refine mv1 rfl rfl ?_
 refine lenS rfl hb.2 Tryd.underlying26 rfl rfl rfl ?_
 refine gtr1 rfl rfl rfl ?_
 refine Ro.nil ?_
 refine Nrm.code ?_
 refine Run.cond rfl (fun hc1 => ?_) (fun hc1 => ?_)
 ·
  try simp only [Bool.or_eq_true, Bool.and_eq_true, Bool.or_eq_false_iff, Bool.and_eq_false_iff, decide_eq_true_eq, decide_eq_false_iff_not, Bool.not_eq_true', Bool.not_eq_false', Bool.not_eq_true, Bool.not_eq_false] at hc1
  refine Run.seq ?_
  refine Run.region ?_
  refine bld B82 (qs := []) trivial rfl rfl rfl ?_
  refine stW rfl rfl T82 rfl rfl (by simp [Value.oneCell']) S (i := 0) rfl rfl ?_
  intro w4 S
  refine asg1 rfl rfl ?_
  refine Ro.nil ?_
  refine Nrm.code ?_
  refine Run.ret ?_
  refine Rt.cell2 rfl rfl rfl T82 S (i := 0) rfl rfl ?_
  have he : tcpE s d b = 2 := by
   unfold tcpE
   rw [if_pos (by omega)]
  exact ⟨.slice none 0 0, .slice none 0 0, [], by rw [tcpT_err he (by omega), he]; rfl, by rw [tcpT_err he (by omega)]; exact (S.nilO).toFO (i := 0) rfl, fun _ _ _ => by rw [tcpT_err he (by omega)]; exact ⟨trivial, BS.nil _ _⟩⟩
 ·
  try simp only [Bool.or_eq_true, Bool.and_eq_true, Bool.or_eq_false_iff, Bool.and_eq_false_iff, decide_eq_true_eq, decide_eq_false_iff_not, Bool.not_eq_true', Bool.not_eq_false', Bool.not_eq_true, Bool.not_eq_false] at hc1
  refine Run.skip ?_
  refine Nrm.code ?_
  refine Run.seq ?_
  refine Run.seq ?_
  refine Run.region ?_
  refine ldW rfl T24 S (i := 2) rfl rfl rfl rfl rfl ?_
  refine ldW rfl T24 S (i := 1) rfl rfl rfl rfl rfl ?_
  refine calg (vs := [_, _]) rfl ⟨⟨_, _, rfl, rfl⟩, ⟨_, _, rfl, rfl⟩, trivial⟩ k123 rfl (fun hG => c123 s d _ hs ht) ?_
  intro w4 B_; have S := S.call B_
  refine asg1 rfl rfl ?_
  refine Ro.nil ?_
  refine Nrm.code ?_
  refine Run.seq ?_
  refine Run.region ?_
  refine mv1 rfl rfl ?_
  refine neq1 rfl rfl rfl ?_
  refine Ro.nil ?_
  refine Nrm.code ?_
  refine Run.cond rfl (fun hc4 => ?_) (fun hc4 => ?_)
  ·
   try simp only [Bool.or_eq_true, Bool.and_eq_true, Bool.or_eq_false_iff, Bool.and_eq_false_iff, decide_eq_true_eq, decide_eq_false_iff_not, Bool.not_eq_true', Bool.not_eq_false', Bool.not_eq_true, Bool.not_eq_false] at hc4
   refine Run.seq ?_
   refine Run.region ?_
   refine bld B82 (qs := []) trivial rfl rfl rfl ?_
   refine mv1 rfl rfl ?_
   refine stW rfl rfl T82 rfl rfl (by simp [Value.oneCell']) S (i := 0) rfl rfl ?_
   intro w5 S
   refine asg1 rfl rfl ?_
   refine Ro.nil ?_
   refine Nrm.code ?_
   refine Run.ret ?_
   refine Rt.cell2 rfl rfl rfl T82 S (i := 0) rfl rfl ?_
   have he : tcpE s d b = fitE s d := by
    unfold tcpE
    rw [if_neg (by omega), if_pos (by omega)]
   exact ⟨.slice none 0 0, .slice none 0 0, [], by rw [tcpT_err he (by omega), he]; rfl, by rw [tcpT_err he (by omega)]; exact (S.nilO).toFO (i := 0) rfl, fun _ _ _ => by rw [tcpT_err he (by omega)]; exact ⟨trivial, BS.nil _ _⟩⟩
  ·
   try simp only [Bool.or_eq_true, Bool.and_eq_true, Bool.or_eq_false_iff, Bool.and_eq_false_iff, decide_eq_true_eq, decide_eq_false_iff_not, Bool.not_eq_true', Bool.not_eq_false', Bool.not_eq_true, Bool.not_eq_false] at hc4
   refine Run.skip ?_
   refine Nrm.code ?_
   refine Run.seq ?_
   refine Run.seq ?_
   refine Run.region ?_
   refine mv1 rfl rfl ?_
   refine lenS rfl hb.2 Tryd.underlying26 rfl rfl rfl ?_
   refine lss1 rfl rfl rfl ?_
   refine Ro.nil ?_
   refine Nrm.code ?_
   refine Run.cond rfl (fun hc6 => ?_) (fun hc6 => ?_)
   ·
    try simp only [Bool.or_eq_true, Bool.and_eq_true, Bool.or_eq_false_iff, Bool.and_eq_false_iff, decide_eq_true_eq, decide_eq_false_iff_not, Bool.not_eq_true', Bool.not_eq_false', Bool.not_eq_true, Bool.not_eq_false] at hc6
    refine Run.seq ?_
    refine Run.region ?_
    refine bld B82 (qs := []) trivial rfl rfl rfl ?_
    refine stW rfl rfl T82 rfl rfl (by simp [Value.oneCell']) S (i := 0) rfl rfl ?_
    intro w5 S
    refine asg1 rfl rfl ?_
    refine Ro.nil ?_
    refine Nrm.code ?_
    refine Run.ret ?_
    refine Rt.cell2 rfl rfl rfl T82 S (i := 0) rfl rfl ?_
    have he : tcpE s d b = 94 := by
     unfold tcpE
     rw [if_neg (by omega), if_neg (by omega), if_pos (by omega)]
    exact ⟨.slice none 0 0, .slice none 0 0, [], by rw [tcpT_err he (by omega), he]; rfl, by rw [tcpT_err he (by omega)]; exact (S.nilO).toFO (i := 0) rfl, fun _ _ _ => by rw [tcpT_err he (by omega)]; exact ⟨trivial, BS.nil _ _⟩⟩
   ·
    try simp only [Bool.or_eq_true, Bool.and_eq_true, Bool.or_eq_false_iff, Bool.and_eq_false_iff, decide_eq_true_eq, decide_eq_false_iff_not, Bool.not_eq_true', Bool.not_eq_false', Bool.not_eq_true, Bool.not_eq_false] at hc6
    refine Run.skip ?_
    refine Nrm.code ?_
    refine Run.seq ?_
    refine Run.region ?_
    refine ldG hg2 S T166 rfl rfl ?_
    refine alc T166 S rfl ?_
    intro b9 w5 hb9 S B_
    refine stW rfl rfl T166 rfl rfl (by simp [Value.oneCell']) S (i := 0) rfl rfl ?_
    intro w6 S
    refine Ro.nil ?_
    refine Nrm.code ?_
    refine Run.seq ?_
    refine Run.region ?_
    refine mv1 rfl rfl ?_
    refine slAT rfl Tryd.underlying166 T3 rfl rfl rfl (i2 := none) trivial rfl (by decide) (by decide) ?_
    refine call (vs := [_, _, _]) ⟨⟨_, _, rfl, rfl⟩, ⟨_, _, rfl, rfl⟩, ⟨_, _, rfl, rfl⟩, trivial⟩ k101 rfl (c101 _ _ _ W10 _ (hb.now S) (S.varSl (i := 0) (m := 10) (sz := 1) rfl rfl rfl (by decide)) (by decide) (by decide) (by decide) (by rw [show W10.sum / 8 = 20 from by decide]; omega) (by omega)) ?_
    rintro _ w7 ⟨u10, rfl, hF⟩
    rw [hfl] at hF
    have S := S.fi hF
    refine mv1 rfl rfl ?_
    refine extr1 rfl rfl rfl ?_
    refine extr1 rfl rfl rfl ?_
    refine extr1 rfl rfl rfl ?_
    refine asg1 rfl rfl ?_
    refine asg1 rfl rfl ?_
    refine asg1 rfl rfl ?_
    refine Ro.nil ?_
    refine Nrm.code ?_
    refine Run.seq ?_
    refine Run.region ?_
    refine mv1 rfl rfl ?_
    refine ixa rfl rfl (S.slI (i := 0) rfl) e132 rfl rfl rfl rfl (fun _ => by first | omega | (simp only [List.length_cons, List.length_nil]; omega)) ?_
    refine ldE rfl (S.slI (i := 0) rfl) (St.refl [] _) T3 rfl rfl rfl (fun _ => rfl) ?_
    refine mul1 rfl rfl rfl ((show IntKind.i64.wrap (4 * (b.getD 12 0 / 16)) = (tcpH b : Int) from by rw [w64 (by omega)]; exact hH)) ?_
    refine asg1 rfl rfl ?_
    refine Ro.nil ?_
    refine Nrm.code ?_
    refine Run.seq ?_
    refine Run.block ?_
    refine Run.seq ?_
    refine Run.region ?_
    refine mv1 rfl rfl ?_
    refine lss1 rfl rfl rfl ?_
    refine mv1 rfl rfl ?_
    refine mv rfl rfl rfl rfl ?_
    refine mv rfl rfl rfl rfl ?_
    refine lenS rfl hb.2 Tryd.underlying26 rfl rfl rfl ?_
    refine gtr rfl rfl rfl rfl rfl rfl ?_
    refine pkO rfl rfl rfl rfl rfl rfl ?_
    refine asg1 rfl rfl ?_
    refine Ro.nil ?_
    refine Nrm.code ?_
    refine Run.cond rfl (fun hc11 => ?_) (fun hc11 => ?_)
    ·
     try simp only [Bool.or_eq_true, Bool.and_eq_true, Bool.or_eq_false_iff, Bool.and_eq_false_iff, decide_eq_true_eq, decide_eq_false_iff_not, Bool.not_eq_true', Bool.not_eq_false', Bool.not_eq_true, Bool.not_eq_false] at hc11
     refine Run.seq ?_
     refine Run.region ?_
     refine bld B82 (qs := []) trivial rfl rfl rfl ?_
     refine stW rfl rfl T82 rfl rfl (by simp [Value.oneCell']) S (i := 2) rfl rfl ?_
     intro w8 S
     refine asg1 rfl rfl ?_
     refine Ro.nil ?_
     refine Nrm.code ?_
     refine Run.ret ?_
     refine Rt.cell2 rfl rfl rfl T82 S (i := 2) rfl rfl ?_
     have he : tcpE s d b = 95 := by
      unfold tcpE
      rw [if_neg (by omega), if_neg (by omega), if_neg (by omega), if_pos (by omega)]
     exact ⟨.slice none 0 0, .slice none 0 0, [], by rw [tcpT_err he (by omega), he]; rfl, by rw [tcpT_err he (by omega)]; exact (S.nilO).toFO (i := 0) rfl, fun _ _ _ => by rw [tcpT_err he (by omega)]; exact ⟨trivial, BS.nil _ _⟩⟩
    ·
     try simp only [Bool.or_eq_true, Bool.and_eq_true, Bool.or_eq_false_iff, Bool.and_eq_false_iff, decide_eq_true_eq, decide_eq_false_iff_not, Bool.not_eq_true', Bool.not_eq_false', Bool.not_eq_true, Bool.not_eq_false] at hc11
     refine Run.seq ?_
     refine Run.region ?_
     refine ldW rfl T24 S (i := 4) rfl rfl rfl rfl rfl ?_
     refine ldW rfl T24 S (i := 3) rfl rfl rfl rfl rfl ?_
     refine mv1 rfl rfl ?_
     refine calg (vs := [_, _, _, _]) rfl ⟨⟨_, _, rfl, rfl⟩, ⟨_, _, rfl, rfl⟩, ⟨_, _, rfl, rfl⟩, ⟨_, _, rfl, rfl⟩, trivial⟩ k124 rfl (fun hG => c124 s d 6 _ b _ hs ht (hb.now S) (by omega) (fit_pse (by omega) (by decide) (by omega))) ?_
     intro w8 B_; have S := S.call B_
     refine nt1 rfl rfl ?_
     refine asg1 rfl rfl ?_
     refine Ro.nil ?_
     refine Nrm.code ?_
     refine Run.cond rfl (fun hc13 => ?_) (fun hc13 => ?_)
     ·
      try simp only [Bool.or_eq_true, Bool.and_eq_true, Bool.or_eq_false_iff, Bool.and_eq_false_iff, decide_eq_true_eq, decide_eq_false_iff_not, Bool.not_eq_true', Bool.not_eq_false', Bool.not_eq_true, Bool.not_eq_false] at hc13
      have hgd : psum s d 6 b ≠ 65535 := by simpa using hc13
      refine Run.seq ?_
      refine Run.region ?_
      refine bld B82 (qs := []) trivial rfl rfl rfl ?_
      refine stW rfl rfl T82 rfl rfl (by simp [Value.oneCell']) S (i := 2) rfl rfl ?_
      intro w9 S
      refine asg1 rfl rfl ?_
      refine Ro.nil ?_
      refine Nrm.code ?_
      refine Run.ret ?_
      refine Rt.cell2 rfl rfl rfl T82 S (i := 2) rfl rfl ?_
      have he : tcpE s d b = 96 := by
       unfold tcpE
       rw [if_neg (by omega), if_neg (by omega), if_neg (by omega), if_neg (by omega), if_pos hgd]
      exact ⟨.slice none 0 0, .slice none 0 0, [], by rw [tcpT_err he (by omega), he]; rfl, by rw [tcpT_err he (by omega)]; exact (S.nilO).toFO (i := 0) rfl, fun _ _ _ => by rw [tcpT_err he (by omega)]; exact ⟨trivial, BS.nil _ _⟩⟩
     ·
      try simp only [Bool.or_eq_true, Bool.and_eq_true, Bool.or_eq_false_iff, Bool.and_eq_false_iff, decide_eq_true_eq, decide_eq_false_iff_not, Bool.not_eq_true', Bool.not_eq_false', Bool.not_eq_true, Bool.not_eq_false] at hc13
      have hgd : ¬ psum s d 6 b ≠ 65535 := by simpa using hc13
      refine Run.skip ?_
      refine Nrm.blk ?_
      refine Nrm.code ?_
      refine Run.seq ?_
      refine Run.region ?_
      refine mv1 rfl rfl ?_
      refine mv1 rfl rfl ?_
      refine mv1 rfl rfl ?_
      refine slC (lo := 20) (hi := tcpH b) (mx := tcpH b) rfl hb e26 rfl rfl rfl (i1 := some 20) (i2 := some (tcpH b)) (i3 := some (tcpH b)) ⟨_, _, _, rfl, rfl⟩ ⟨_, _, _, rfl, rfl⟩ ⟨_, _, _, rfl, rfl⟩ rfl rfl rfl (fun h => by first | rfl | cases h) (fun hG => by (try simp [allT] at hG); have hcap := hb.cap; omega) ?_
      have hv64 := hb.cut (lo := 20) (hi := tcpH b) (mx := tcpH b) (by have hcap := hb.cap; omega)
      refine call (vs := [_]) ⟨⟨_, _, rfl, rfl⟩, trivial⟩ k67 rfl (c67 _ _ _ (hv64.now S) (hg3.now S)) ?_
      rintro _ w9 ⟨u14, vs, rfl, hF, hwin⟩
      have S := S.fo hF
      refine mv1 rfl rfl ?_
      refine extr1 rfl rfl rfl ?_
      refine extr1 rfl rfl rfl ?_
      refine asg1 rfl rfl ?_
      refine asg1 rfl rfl ?_
      refine Ro.nil ?_
      refine Nrm.code ?_
      refine Run.seq ?_
      refine Run.seq ?_
      refine Run.region ?_
      refine mv1 rfl rfl ?_
      refine neq1 rfl rfl rfl ?_
      refine Ro.nil ?_
      refine Nrm.code ?_
      refine Run.cond rfl (fun hc16 => ?_) (fun hc16 => ?_)
      ·
       try simp only [Bool.or_eq_true, Bool.and_eq_true, Bool.or_eq_false_iff, Bool.and_eq_false_iff, decide_eq_true_eq, decide_eq_false_iff_not, Bool.not_eq_true', Bool.not_eq_false', Bool.not_eq_true, Bool.not_eq_false] at hc16
       refine Run.seq ?_
       refine Run.region ?_
       refine bld B82 (qs := []) trivial rfl rfl rfl ?_
       refine mv1 rfl rfl ?_
       refine stW rfl rfl T82 rfl rfl (by simp [Value.oneCell']) S (i := 3) rfl rfl ?_
       intro w10 S
       refine asg1 rfl rfl ?_
       refine Ro.nil ?_
       refine Nrm.code ?_
       refine Run.ret ?_
       refine Rt.cell2 rfl rfl rfl T82 S (i := 3) rfl rfl ?_
       have he : tcpE s d b = tE (tcpO b) := by
        unfold tcpE
        rw [if_neg (by omega), if_neg (by omega), if_neg (by omega), if_neg (by omega), if_neg hgd]
       exact ⟨.slice none 0 0, .slice none 0 0, [], by rw [tcpT_err he (by omega), he]; rfl, by rw [tcpT_err he (by omega)]; exact (S.nilO).toFO (i := 0) rfl, fun _ _ _ => by rw [tcpT_err he (by omega)]; exact ⟨trivial, BS.nil _ _⟩⟩
      ·
       try simp only [Bool.or_eq_true, Bool.and_eq_true, Bool.or_eq_false_iff, Bool.and_eq_false_iff, decide_eq_true_eq, decide_eq_false_iff_not, Bool.not_eq_true', Bool.not_eq_false', Bool.not_eq_true, Bool.not_eq_false] at hc16
       refine Run.skip ?_
       refine Nrm.code ?_
       refine Run.seq ?_
       refine Run.heldB (by kernel_rfl) S [true, true, true, false, true, true] rfl rfl rfl ?_
       intro w10 BD S SC
       refine Hb.take (i := 0) SC (fun _ _ S B => S.call B) Pp.body rfl (by kernel_rfl) (by kernel_rfl) (by kernel_rfl) rfl rfl ?_
       refine qmv rfl rfl rfl rfl ?_
       refine Hb.back ?_
       refine Hb.take (i := 1) SC (fun _ _ S B => S.call B) Pp.body rfl (by kernel_rfl) (by kernel_rfl) (by kernel_rfl) rfl rfl ?_
       refine qixa rfl rfl (S.slI (i := 1) rfl) e132 rfl rfl rfl rfl (fun _ => by first | omega | (simp only [List.length_cons, List.length_nil]; omega)) ?_
       refine Hb.back ?_
       refine Hb.take (i := 2) SC (fun _ _ S B => S.call B) Pp.body rfl (by kernel_rfl) (by kernel_rfl) (by kernel_rfl) rfl rfl ?_
       refine qldR rfl (fun _ S => S) (i := 1) rfl T3 rfl rfl rfl (fun _ => rfl) ?_
       refine Hb.back ?_
       refine Hb.take (i := 3) SC (fun _ _ S B => S.call B) Pp.body rfl (by kernel_rfl) (by kernel_rfl) (by kernel_rfl) rfl rfl ?_
       refine qmv rfl rfl rfl rfl ?_
       refine Hb.back ?_
       refine Hb.take (i := 4) SC (fun _ _ S B => S.call B) Pp.body rfl (by kernel_rfl) (by kernel_rfl) (by kernel_rfl) rfl rfl ?_
       refine qixa rfl rfl (S.slI (i := 1) rfl) e132 rfl rfl rfl rfl (fun _ => by first | omega | (simp only [List.length_cons, List.length_nil]; omega)) ?_
       refine Hb.back ?_
       refine Hb.take (i := 5) SC (fun _ _ S B => S.call B) Pp.body rfl (by kernel_rfl) (by kernel_rfl) (by kernel_rfl) rfl rfl ?_
       refine qldR rfl (fun _ S => S) (i := 1) rfl T3 rfl rfl rfl (fun _ => rfl) ?_
       refine Hb.back ?_
       refine Hb.take (i := 6) SC (fun _ _ S B => S.call B) Pp.body rfl (by kernel_rfl) (by kernel_rfl) (by kernel_rfl) rfl rfl ?_
       refine qmv rfl rfl rfl rfl ?_
       refine Hb.back ?_
       refine Hb.take (i := 7) SC (fun _ _ S B => S.call B) Pp.body rfl (by kernel_rfl) (by kernel_rfl) (by kernel_rfl) rfl rfl ?_
       refine qixa rfl rfl (S.slI (i := 1) rfl) e132 rfl rfl rfl rfl (fun _ => by first | omega | (simp only [List.length_cons, List.length_nil]; omega)) ?_
       refine Hb.back ?_
       refine Hb.take (i := 8) SC (fun _ _ S B => S.call B) Pp.body rfl (by kernel_rfl) (by kernel_rfl) (by kernel_rfl) rfl rfl ?_
       refine qldR rfl (fun _ S => S) (i := 1) rfl T3 rfl rfl rfl (fun _ => rfl) ?_
       refine Hb.back ?_
       refine Hb.take (i := 9) SC (fun _ _ S B => S.call B) Pp.body rfl (by kernel_rfl) (by kernel_rfl) (by kernel_rfl) rfl rfl ?_
       refine qmv rfl rfl rfl rfl ?_
       refine Hb.back ?_
       refine Hb.take (i := 10) SC (fun _ _ S B => S.call B) Pp.body rfl (by kernel_rfl) (by kernel_rfl) (by kernel_rfl) rfl rfl ?_
       refine qixa rfl rfl (S.slI (i := 1) rfl) e132 rfl rfl rfl rfl (fun _ => by first | omega | (simp only [List.length_cons, List.length_nil]; omega)) ?_
       refine Hb.back ?_
       refine Hb.take (i := 11) SC (fun _ _ S B => S.call B) Pp.body rfl (by kernel_rfl) (by kernel_rfl) (by kernel_rfl) rfl rfl ?_
       refine qldR rfl (fun _ S => S) (i := 1) rfl T3 rfl rfl rfl (fun _ => rfl) ?_
       refine Hb.back ?_
       refine Hb.take (i := 12) SC (fun _ _ S B => S.call B) Pp.body rfl (by kernel_rfl) (by kernel_rfl) (by kernel_rfl) rfl rfl ?_
       refine qmv rfl rfl rfl rfl ?_
       refine Hb.back ?_
       refine Hb.take (i := 13) SC (fun _ _ S B => S.call B) Pp.body rfl (by kernel_rfl) (by kernel_rfl) (by kernel_rfl) rfl rfl ?_
       refine qixa rfl rfl (S.slI (i := 1) rfl) e132 rfl rfl rfl rfl (fun _ => by first | omega | (simp only [List.length_cons, List.length_nil]; omega)) ?_
       refine Hb.back ?_
       refine Hb.take (i := 14) SC (fun _ _ S B => S.call B) Pp.body rfl (by kernel_rfl) (by kernel_rfl) (by kernel_rfl) rfl rfl ?_
       refine qldR rfl (fun _ S => S) (i := 1) rfl T3 rfl rfl rfl (fun _ => rfl) ?_
       refine Hb.back ?_
       refine Hb.take (i := 15) SC (fun _ _ S B => S.call B) Pp.body rfl (by kernel_rfl) (by kernel_rfl) (by kernel_rfl) rfl rfl ?_
       refine qmv rfl rfl rfl rfl ?_
       refine Hb.back ?_
       refine Hb.take (i := 16) SC (fun _ _ S B => S.call B) Pp.body rfl (by kernel_rfl) (by kernel_rfl) (by kernel_rfl) rfl rfl ?_
       refine qixa rfl rfl (S.slI (i := 1) rfl) e132 rfl rfl rfl rfl (fun _ => by first | omega | (simp only [List.length_cons, List.length_nil]; omega)) ?_
       refine Hb.back ?_
       refine Hb.take (i := 17) SC (fun _ _ S B => S.call B) Pp.body rfl (by kernel_rfl) (by kernel_rfl) (by kernel_rfl) rfl rfl ?_
       refine qldR rfl (fun _ S => S) (i := 1) rfl T3 rfl rfl rfl (fun _ => rfl) ?_
       refine Hb.back ?_
       refine Hb.take (i := 18) SC (fun _ _ S B => S.call B) Pp.body rfl (by kernel_rfl) (by kernel_rfl) (by kernel_rfl) rfl rfl ?_
       refine qmv rfl rfl rfl rfl ?_
       refine Hb.back ?_
       refine Hb.take (i := 19) SC (fun _ _ S B => S.call B) Pp.body rfl (by kernel_rfl) (by kernel_rfl) (by kernel_rfl) rfl rfl ?_
       refine qixa rfl rfl (S.slI (i := 1) rfl) e132 rfl rfl rfl rfl (fun _ => by first | omega | (simp only [List.length_cons, List.length_nil]; omega)) ?_
       refine Hb.back ?_
       refine Hb.take (i := 20) SC (fun _ _ S B => S.call B) Pp.body rfl (by kernel_rfl) (by kernel_rfl) (by kernel_rfl) rfl rfl ?_
       refine qldR rfl (fun _ S => S) (i := 1) rfl T3 rfl rfl rfl (fun _ => rfl) ?_
       refine Hb.back ?_
       refine Hb.take (i := 21) SC (fun _ _ S B => S.call B) Pp.body rfl (by kernel_rfl) (by kernel_rfl) (by kernel_rfl) rfl rfl ?_
       refine qmv rfl rfl rfl rfl ?_
       refine Hb.back ?_
       refine Hb.take (i := 22) SC (fun _ _ S B => S.call B) Pp.body rfl (by kernel_rfl) (by kernel_rfl) (by kernel_rfl) rfl rfl ?_
       refine qmv rfl rfl rfl rfl ?_
       refine Hb.back ?_
       refine Hb.take (i := 23) SC (fun _ _ S B => S.call B) Pp.body rfl (by kernel_rfl) (by kernel_rfl) (by kernel_rfl) rfl rfl ?_
       refine qmv rfl rfl rfl rfl ?_
       refine Hb.back ?_
       refine Hb.take (i := 24) SC (fun _ _ S B => S.call B) Pp.body rfl (by kernel_rfl) (by kernel_rfl) (by kernel_rfl) rfl rfl ?_
       refine qmv rfl rfl rfl rfl ?_
       refine Hb.back ?_
       refine Hb.take (i := 25) SC (fun _ _ S B => S.call B) Pp.body rfl (by kernel_rfl) (by kernel_rfl) (by kernel_rfl) rfl rfl ?_
       refine qlenS rfl hb.2 Tryd.underlying26 rfl rfl rfl ?_
       refine Hb.back ?_
       refine Hb.take (i := 26) SC (fun _ _ S B => S.call B) Pp.body rfl (by kernel_rfl) (by kernel_rfl) (by kernel_rfl) rfl rfl ?_
       refine qmv rfl rfl rfl rfl ?_
       refine Hb.back ?_
       refine Hb.take (i := 27) SC (fun _ _ S B => S.call B) Pp.body rfl (by kernel_rfl) (by kernel_rfl) (by kernel_rfl) rfl rfl ?_
       refine qlenS rfl hb.2 Tryd.underlying26 rfl rfl rfl ?_
       refine Hb.back ?_
       refine Hb.take (i := 28) SC (fun _ _ S B => S.call B) Pp.body rfl (by kernel_rfl) (by kernel_rfl) (by kernel_rfl) rfl rfl ?_
       have hv100 := hb.cut (lo := tcpH b) (hi := b.length) (mx := b.length) (by have hcap := hb.cap; omega)
       refine qslC (lo := tcpH b) (hi := b.length) (mx := b.length) rfl hb e26 rfl rfl rfl (i1 := some (tcpH b)) (i2 := some (b.length)) (i3 := some (b.length)) ⟨_, _, _, rfl, rfl⟩ ⟨_, _, _, rfl, rfl⟩ ⟨_, _, _, rfl, rfl⟩ rfl rfl rfl (fun h => by first | rfl | cases h) (fun hG => by (try simp [allT] at hG); have hcap := hb.cap; omega) ?_
       refine Hb.back ?_
       refine Hb.take (i := 29) SC (fun _ _ S B => S.call B) Pp.body rfl (by kernel_rfl) (by kernel_rfl) (by kernel_rfl) rfl rfl ?_
       refine qbld B82 (qs := [(_, _), (_, _), (_, _), (_, _), (_, _), (_, _), (_, _), (_, _), (_, _)]) ⟨⟨_, _, _, rfl, rfl, rfl, rfl, by first | (simp [Value.cells]; done) | simp [Value.cells, encIP]⟩, ⟨_, _, _, rfl, rfl, rfl, rfl, by first | (simp [Value.cells]; done) | simp [Value.cells, encIP]⟩, ⟨_, _, _, rfl, rfl, rfl, rfl, by first | (simp [Value.cells]; done) | simp [Value.cells, encIP]⟩, ⟨_, _, _, rfl, rfl, rfl, rfl, by first | (simp [Value.cells]; done) | simp [Value.cells, encIP]⟩, ⟨_, _, _, rfl, rfl, rfl, rfl, by first | (simp [Value.cells]; done) | simp [Value.cells, encIP]⟩, ⟨_, _, _, rfl, rfl, rfl, rfl, by first | (simp [Value.cells]; done) | simp [Value.cells, encIP]⟩, ⟨_, _, _, rfl, rfl, rfl, rfl, by first | (simp [Value.cells]; done) | simp [Value.cells, encIP]⟩, ⟨_, _, _, rfl, rfl, cells1 (S.slI (i := 0) rfl).one, rfl, List.cons_ne_nil _ _⟩, ⟨_, _, _, rfl, rfl, cells1 hv100.one, rfl, List.cons_ne_nil _ _⟩, trivial⟩ rfl rfl rfl ?_
       refine Hb.back ?_
       refine Hb.one (i := 30) (by kernel_rfl) rfl rfl ?_
       intro w11 BD; have S := S.call BD
       refine stW rfl rfl T82 rfl rfl (one_cons rfl (one_cons rfl (one_cons rfl (one_cons rfl (one_cons rfl (one_cons rfl (one_cons rfl (one_cons (S.slI (i := 0) rfl).one (one_cons hv100.one one_nil))))))))) S (i := 3) rfl rfl ?_
       intro w12 S
       have SC := S.pick [true, true, true, false, true, true] rfl
       refine Hb.on SC ?_
       refine Hb.take (i := 31) SC (fun _ _ S B => S.call B) Pp.body rfl (by kernel_rfl) (by kernel_rfl) (by kernel_rfl) rfl rfl ?_
       refine qasg rfl rfl rfl rfl ?_
       refine Hb.back ?_
       refine Hb.done (by kernel_rfl) ?_
       intro w13 BD; have S := S.call BD
       refine Nrm.code ?_
       refine Run.ret ?_
       refine Rt.cell2 rfl rfl rfl T82 S (i := 3) rfl rfl ?_
       have he : tcpE s d b = 0 := by
        unfold tcpE
        rw [if_neg (by omega), if_neg (by omega), if_neg (by omega), if_neg (by omega), if_neg hgd]
        omega
       exact ⟨_, _, vs, by rw [tcpT, if_pos he, he]; rfl, by rw [tcpT, if_pos he]; exact (S.pick [true, false, false, false, false, false] rfl).toFO (i := 0) rfl, fun N w1 h1 => by rw [tcpT, if_pos he]; exact ⟨hwin N w1 (h1.cut (by have := h1.cap; omega)), h1.cut (by have := h1.cap; omega)⟩⟩
end Go.Proofs.YtkahmepenjhcpaaDoor.W
