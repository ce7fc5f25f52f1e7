/- The base of this seat's proofs, ninth part: slices of one's own of bytes, numbers, options, slices. No statement of the seat is proved here. -/
import Derived.Test.YtkahmepenjhcpaaDoorFq
namespace Go.Proofs.YtkahmepenjhcpaaDoor.W
open Go
set_option linter.unusedSimpArgs false

abbrev oB (v : Value) (l : List Int) : Own := .row v 5 1 l.length (l.map u8)
abbrev oI (v : Value) (l : List Int) : Own := .row v 3 1 l.length (l.map i64)
abbrev oS (v : Value) (vs : List Value) : Own := .row v 26 1 vs.length vs
abbrev oO (v : Value) (os : List Opt) (ds : List Value) : Own := .row v 93 2 os.length (optC os ds)

section st
variable {w w0 : World} {N0 : List Nat} {L L1 L2 : List Own}
theorem St.bsI {v : Value} {l : List Int} {i : Nat} (S : St N0 w0 L w) (hk : getN L i = some (oB v l)) (hb : byt l) : BS [] w v l := ⟨hb, S.slI hk⟩
theorem St.isI {v : Value} {l : List Int} {i : Nat} (S : St N0 w0 L w) (hk : getN L i = some (oI v l)) : IS [] w v l := S.slI hk
theorem St.layB {v : Value} {l : List Int} (S : St N0 w0 (oB v l :: L2) w) (hb : byt l) : BS (idsL L2) w v l := ⟨hb, S.lay0⟩
theorem St.nilB (S : St N0 w0 L w) : St N0 w0 (oB (.slice none 0 0) [] :: L) w := S.nilRow 5 1
theorem St.nilI (S : St N0 w0 L w) : St N0 w0 (oI (.slice none 0 0) [] :: L) w := S.nilRow 3 1
theorem St.nilS (S : St N0 w0 L w) : St N0 w0 (oS (.slice none 0 0) [] :: L) w := S.nilRow 26 1
theorem St.nilO (S : St N0 w0 L w) : St N0 w0 (oO (.slice none 0 0) [] [] :: L) w := S.nilRow 93 2
end st

theorem BS.nil (N : List Nat) (w : World) : BS N w (.slice none 0 0) [] := ⟨byt_nil, rfl, none, 0, rfl, Nat.le_refl _, fun _ => rfl, Rd.self rfl⟩
theorem OS.nil (N : List Nat) (w : World) : OS N w (.slice none 0 0) [] := ⟨[], ⟨rfl, none, 0, rfl, Nat.le_refl _, fun _ => rfl, Rd.self rfl⟩, trivial⟩

section op
variable {P : Program} {R : Qp} {ds : List Deferred} {n : Nat} {l : Env} {k : List KI} {w w0 : World} {ops : Array Oper} {os : List Oper}
variable {d d1 d2 : Nat} {ty ty1 ty2 : TypeId} {ps ps1 ps2 : String} {af af1 af2 : Array Edge} {x y z : Operand} {N0 : List Nat} {L L' : List Own}

theorem St.eqv {L L' : List Own} (S : St N0 w0 L w) (h : L = L') : St N0 w0 L' w := h ▸ S

/-- append of bytes to bytes of one's own -/
theorem apB {T : TypeId} {zc : List Value} {i : Nat} {v q : Value} {a b : List Int} {L' : Value → List Own} (hx : ev l x = some ([], v)) (hy : ev l y = some ([], q)) (hE : ElT P T 5 1 1 zc)
    (hq : BS [] w q b) (S : St N0 w0 L w) (hk : getN L i = some (oB v a)) (hn : Nat.blt d n = true)
    (hL : ∀ v', setN L i (oB v' (a ++ b)) = some (L' v')) (hroom : a.length + b.length ≤ 140737488355328)
    (h : ∀ v' w', St N0 w0 (L' v') w' → w.heap.size ≤ w'.heap.size → Ro P R ds n ops ((d, [], v') :: l) os k w') :
    Ro P R ds n ops l ({ dst := some d, op := .call { callee := .builtin .append, args := #[x, y], argTypes := #[T, T] }, type := ty, pos := ps, after := af, guard := none } :: os) k w :=
  ap hx hy hE hq.2 (one_u8 b) S hk hn (fun v' => by have := hL v'; simpa [oB] using this) (by omega) (by simp only [maxLen]; omega) h

/-- append to a slice of one's own of given elements -/
theorem apF {T E : TypeId} {sz by_ m len i : Nat} {zc xs c : List Value} {v : Value} {parts : List (Nat × Operand)} {qs : List (Nat × List Value)} {L' : Value → List Own} (hx : ev l x = some ([], v)) (hE : ElT P T E sz by_ zc)
    (hp : Pts l [] (fun i => some (i * sz, sz)) parts qs) (hlen : Nat.ble (len * sz) 16777216 = true) (hf : fillN (List.replicate len zc).flatten qs = some c) (hcl : c.length = len * sz) (h1 : ∀ e ∈ c, e.oneCell' = true)
    (S : St N0 w0 L w) (hk : getN L i = some (.row v E sz m xs)) (hn1 : Nat.blt d1 n = true) (hn : Nat.blt d n = true) (hne : ∀ t, x = .tmp t → Nat.beq d1 t = false)
    (hL : ∀ v', setN L i (.row v' E sz (m + len) (xs ++ c)) = some (L' v')) (hroom : (m + len) * by_ ≤ 140737488355328) (hmax : m + len ≤ maxLen)
    (h : ∀ u v' w', St N0 w0 (L' v') w' → w.heap.size ≤ w'.heap.size → Ro P R ds n ops ((d, [], v') :: (d1, [], u) :: l) os k w') :
    Ro P R ds n ops l ({ dst := some d1, op := .buildSlice T len parts.toArray, type := ty1, pos := ps1, after := af1, guard := none } ::
      { dst := some d, op := .call { callee := .builtin .append, args := #[x, .tmp d1], argTypes := #[T, T] }, type := ty, pos := ps, after := af, guard := none } :: os) k w := by
  refine bsl hE hp hlen hf hcl hn1 S ?_
  intro u w1 S1 B1
  have hx' : ev ((d1, [], u) :: l) x = some ([], v) := by
    cases x with
    | tmp t => simp only [ev, lk, hne t rfl, cond_false]; exact hx
    | const _ => exact hx
    | global _ => exact hx
    | func _ => exact hx
  have hu : ev ((d1, [], u) :: l) (.tmp d1) = some ([], u) := by simp [ev, lk]
  refine ap (i := i + 1) (L' := fun v' => .row u E sz len c :: L' v') hx' hu hE (S1.slI (i := 0) rfl) h1 S1 hk hn (fun v' => by simp only [setN, hL v']) hroom hmax ?_
  intro v' w' S2 hsz
  exact h u v' w' S2.drop0 (Nat.le_trans B1.size hsz)

theorem map_snoc_u8 (a b : List Int) : a.map u8 ++ b.map u8 = (a ++ b).map u8 := by simp

/-- append of given bytes -/
theorem apBF {T : TypeId} {zc : List Value} {len i : Nat} {v : Value} {a b : List Int} {parts : List (Nat × Operand)} {qs : List (Nat × List Value)} {L' : Value → List Own} (hx : ev l x = some ([], v)) (hE : ElT P T 5 1 1 zc)
    (hp : Pts l [] (fun i => some (i * 1, 1)) parts qs) (hlen : Nat.ble (len * 1) 16777216 = true) (hf : fillN (List.replicate len zc).flatten qs = some (b.map u8)) (hcl : b.length = len)
    (S : St N0 w0 L w) (hk : getN L i = some (oB v a)) (hn1 : Nat.blt d1 n = true) (hn : Nat.blt d n = true) (hne : ∀ t, x = .tmp t → Nat.beq d1 t = false)
    (hL : ∀ v', setN L i (oB v' (a ++ b)) = some (L' v')) (hroom : a.length + len ≤ 140737488355328)
    (h : ∀ u v' w', St N0 w0 (L' v') w' → w.heap.size ≤ w'.heap.size → Ro P R ds n ops ((d, [], v') :: (d1, [], u) :: l) os k w') :
    Ro P R ds n ops l ({ dst := some d1, op := .buildSlice T len parts.toArray, type := ty1, pos := ps1, after := af1, guard := none } ::
      { dst := some d, op := .call { callee := .builtin .append, args := #[x, .tmp d1], argTypes := #[T, T] }, type := ty, pos := ps, after := af, guard := none } :: os) k w := by
  subst hcl
  exact apF hx hE hp hlen hf (by simp) (one_u8 b) S hk hn1 hn hne (fun v' => by have := hL v'; simpa [oB] using this) (by omega) (by simp only [maxLen]; omega) h

/-- append of given numbers -/
theorem apIF {T : TypeId} {zc : List Value} {len i : Nat} {v : Value} {a b : List Int} {parts : List (Nat × Operand)} {qs : List (Nat × List Value)} {L' : Value → List Own} (hx : ev l x = some ([], v)) (hE : ElT P T 3 1 8 zc)
    (hp : Pts l [] (fun i => some (i * 1, 1)) parts qs) (hlen : Nat.ble (len * 1) 16777216 = true) (hf : fillN (List.replicate len zc).flatten qs = some (b.map i64)) (hcl : b.length = len)
    (S : St N0 w0 L w) (hk : getN L i = some (oI v a)) (hn1 : Nat.blt d1 n = true) (hn : Nat.blt d n = true) (hne : ∀ t, x = .tmp t → Nat.beq d1 t = false)
    (hL : ∀ v', setN L i (oI v' (a ++ b)) = some (L' v')) (hroom : a.length + len ≤ 17592186044416)
    (h : ∀ u v' w', St N0 w0 (L' v') w' → w.heap.size ≤ w'.heap.size → Ro P R ds n ops ((d, [], v') :: (d1, [], u) :: l) os k w') :
    Ro P R ds n ops l ({ dst := some d1, op := .buildSlice T len parts.toArray, type := ty1, pos := ps1, after := af1, guard := none } ::
      { dst := some d, op := .call { callee := .builtin .append, args := #[x, .tmp d1], argTypes := #[T, T] }, type := ty, pos := ps, after := af, guard := none } :: os) k w := by
  subst hcl
  exact apF hx hE hp hlen hf (by simp) (one_i64 b) S hk hn1 hn hne (fun v' => by have := hL v'; simpa [oI] using this) (by omega) (by simp only [maxLen]; omega) h

/-- append of one slice to slices -/
theorem apSF {T : TypeId} {zc : List Value} {i : Nat} {v q : Value} {vs : List Value} {parts : List (Nat × Operand)} {qs : List (Nat × List Value)} {L' : Value → List Own} (hx : ev l x = some ([], v)) (hE : ElT P T 26 1 24 zc)
    (hp : Pts l [] (fun i => some (i * 1, 1)) parts qs) (hf : fillN (List.replicate 1 zc).flatten qs = some [q]) (h1 : q.oneCell' = true)
    (S : St N0 w0 L w) (hk : getN L i = some (oS v vs)) (hn1 : Nat.blt d1 n = true) (hn : Nat.blt d n = true) (hne : ∀ t, x = .tmp t → Nat.beq d1 t = false)
    (hL : ∀ v', setN L i (oS v' (vs ++ [q])) = some (L' v')) (hroom : (vs.length + 1) * 24 ≤ 140737488355328)
    (h : ∀ u v' w', St N0 w0 (L' v') w' → w.heap.size ≤ w'.heap.size → Ro P R ds n ops ((d, [], v') :: (d1, [], u) :: l) os k w') :
    Ro P R ds n ops l ({ dst := some d1, op := .buildSlice T 1 parts.toArray, type := ty1, pos := ps1, after := af1, guard := none } ::
      { dst := some d, op := .call { callee := .builtin .append, args := #[x, .tmp d1], argTypes := #[T, T] }, type := ty, pos := ps, after := af, guard := none } :: os) k w :=
  apF hx hE hp (by decide) hf rfl (one_cons h1 one_nil) S hk hn1 hn hne (fun v' => by have := hL v'; simpa [oS] using this) (by omega) (by simp only [maxLen]; omega) h

/-- append of one option -/
theorem apOF {T : TypeId} {zc : List Value} {i : Nat} {v q : Value} {kd : Int} {dt : List Int} {ol : List Opt} {vs : List Value} {parts : List (Nat × Operand)} {qs : List (Nat × List Value)} {L' : Value → List Own} (hx : ev l x = some ([], v)) (hE : ElT P T 93 2 32 zc)
    (hp : Pts l [] (fun i => some (i * 2, 2)) parts qs) (hf : fillN (List.replicate 1 zc).flatten qs = some [i64 kd, q]) (h1 : q.oneCell' = true) (hl : vs.length = ol.length)
    (S : St N0 w0 L w) (hk : getN L i = some (oO v ol vs)) (hn1 : Nat.blt d1 n = true) (hn : Nat.blt d n = true) (hne : ∀ t, x = .tmp t → Nat.beq d1 t = false)
    (hL : ∀ v', setN L i (oO v' (ol ++ [⟨kd, dt⟩]) (vs ++ [q])) = some (L' v')) (hroom : (ol.length + 1) * 32 ≤ 140737488355328)
    (h : ∀ u v' w', St N0 w0 (L' v') w' → w.heap.size ≤ w'.heap.size → Ro P R ds n ops ((d, [], v') :: (d1, [], u) :: l) os k w') :
    Ro P R ds n ops l ({ dst := some d1, op := .buildSlice T 1 parts.toArray, type := ty1, pos := ps1, after := af1, guard := none } ::
      { dst := some d, op := .call { callee := .builtin .append, args := #[x, .tmp d1], argTypes := #[T, T] }, type := ty, pos := ps, after := af, guard := none } :: os) k w :=
  apF hx hE hp (by decide) hf rfl (one_cons rfl (one_cons h1 one_nil)) S hk hn1 hn hne (fun v' => by
    have := hL v'
    rw [oO, optC_app hl] at this
    simpa [optC] using this) (by omega) (by simp only [maxLen]; omega) h
end op
/-- an element of an array's value -/
theorem ixv {P : Program} {R : Qp} {ds : List Deferred} {n : Nat} {l : Env} {k : List KI} {w : World} {ops : Array Oper} {os : List Oper} {d : Nat} {ty : TypeId} {ps : String} {af : Array Edge} {x y : Operand}
    {T E : TypeId} {m : Nat} {cs : Array Value} {zc : List Value} {kd : IntKind} {i : Int} {u : Value} (hx : ev l x = some ([], .agg cs)) (hy : ev l y = some ([], .int kd i)) (hu : P.underlying T = some (.array m E)) (hE : TyI P E 1 false zc)
    (hn : Nat.blt d n = true) (hb : 0 ≤ i ∧ i < m) (hv : cs[i.toNat]? = some u) (h : Ro P R ds n ops ((d, [], u) :: l) os k w) :
    Ro P R ds n ops l ({ dst := some d, op := .index T x y, type := ty, pos := ps, after := af, guard := none } :: os) k w := by
  obtain ⟨i', z, dd, h1, h2, h3, h4, h5, h6⟩ := hE.get
  refine opw rfl rfl hn ?_ h
  intro a ha
  have hag : (isAgg E).run P w = .ok false w := by
    simp only [isAgg]
    cases dd <;> simp [aggD] at h6 <;> simp [run_underlying h5]
  simp [execOp, ha.eval hx trivial, ha.eval hy trivial, Instr.index, asIntOf, run_underlying hu, hb.1, hb.2, sizeOf, typeInfo, h1, h2, part, hag, hv]

/-- what is made new for the caller: bytes -/
def FB (w w' : World) (v : Value) (l : List Int) : Prop := Bl w w' ∧ (oB v l).holds w' ∧ ∀ i ∈ (oB v l).ids, w.heap.size ≤ i
theorem St.fb {N0 : List Nat} {w0 w w' : World} {L : List Own} {v : Value} {l : List Int} (S : St N0 w0 L w) (h : FB w w' v l) : St N0 w0 (oB v l :: L) w' :=
  S.new h.1 h.2.1 h.2.2 (Own.ids_nodup _)
theorem St.toFB {w0 w : World} {L : List Own} {v : Value} {l : List Int} {i : Nat} (S : St [] w0 L w) (hk : getN L i = some (oB v l)) : FB w0 w v l := by
  refine ⟨S.bl, S.rowI hk, fun j hj => ?_⟩
  rw [getN_eq] at hk
  rcases Nat.lt_or_ge j w0.heap.size with h | h
  · exact absurd (List.mem_flatMap.2 ⟨_, List.mem_of_getElem? hk, hj⟩) (S.off j h (by simp))
  · exact h
theorem Rd.bl {N : List Nat} {w w' : World} {A : Option Addr} {cs : List Value} (h : Rd N w A cs) (B : Bl w w') : Rd N w' A cs := fun i hi =>
  let ⟨a, h1, h2, h3, h4⟩ := h i hi; ⟨a, h1, h2, h3, (cell_congr (B.block _ (cell_lt h4))).trans h4⟩
theorem Sl.bl {N : List Nat} {w w' : World} {sz m : Nat} {v : Value} {cs : List Value} (h : Sl N w sz v m cs) (B : Bl w w') : Sl N w' sz v m cs :=
  let ⟨h0, A, cap, h1, h2, h3, h4⟩ := h; ⟨h0, A, cap, h1, h2, h3, h4.bl B⟩
theorem BS.bl {N : List Nat} {w w' : World} {v : Value} {l : List Int} (h : BS N w v l) (B : Bl w w') : BS N w' v l := ⟨h.1, h.2.bl B⟩
theorem BSs.bl {N : List Nat} {w w' : World} (B : Bl w w') : ∀ {vs : List Value} {ls : List (List Int)}, BSs N w vs ls → BSs N w' vs ls
  | [], [], h => h
  | [], _ :: _, h => h.elim
  | _ :: _, [], h => h.elim
  | _ :: _, _ :: _, h => ⟨h.1.bl B, BSs.bl B h.2⟩
theorem OS.bl {N : List Nat} {w w' : World} {v : Value} {os : List Opt} (h : OS N w v os) (B : Bl w w') : OS N w' v os :=
  let ⟨vs, h1, h2⟩ := h; ⟨vs, h1.bl B, BSs.bl B h2⟩
/-! ### cuts of bytes, their values told -/
def cut : Value → Nat → Nat → Nat → Value
  | .slice A _ _, lo, hi, mx => .slice (if mx = lo then A else A.map (·.add lo)) (hi - lo) (mx - lo)
  | v, _, _, _ => v

theorem cut_run {P : Program} {T E : TypeId} {by_ : Nat} {zc : List Value} {N0 : List Nat} {w0 : World} {v : Value} {bs : List Int} (hS : BS N0 w0 v bs) (hE : ElT P T E 1 by_ zc) {lo hi mx : Nat} (hb : lo ≤ hi ∧ hi ≤ bs.length ∧ hi ≤ mx ∧ mx ≤ capV v)
    (w : World) (a : Act) {ds : List Deferred} {n : Nat} {l : Env} {G gx : Gs} {x : Operand} {d : Nat} {ty : TypeId} {ps : String} {af : Array Edge} {gu : Option (Nat × Bool)}
    {o1 o2 o3 : Option Operand} {i1 i2 i3 : Option Nat} (ha : En ds n l a) (hTx : allT gx) (hT : allT G) (hx : ev l x = some (gx, v)) (h1 : bnd l G o1 i1) (h2 : bnd l G o2 i2) (h3 : bnd l G o3 i3)
    (e1 : i1.getD 0 = lo) (e2 : i2.getD bs.length = hi) (e3 : i3.getD (capV v) = mx) (h23 : i3.isSome = true → i2.isSome = true) :
    (execOp a.eval { dst := some d, op := .slice T x o1 o2 o3, type := ty, pos := ps, after := af, guard := gu }).run P w = .ok (.value (cut v lo hi mx)) w ∧ BS N0 w0 (cut v lo hi mx) ((bs.drop lo).take (hi - lo)) := by
  obtain ⟨v', f1, f2, f3⟩ := slX hS.2 hE lo hi mx hb
  have hr := f3 w a (d := d) (ty := ty) (ps := ps) (af := af) (gu := gu) ha hTx hT hx h1 h2 h3 e1 e2 e3 h23
  have e : v' = cut v lo hi mx := by
    -- both are read off the operation's run
    obtain ⟨i, z, g1, g2, g3, g4, g5⟩ := hE.get
    obtain ⟨b1, b2, b3, b4⟩ := hb
    obtain ⟨_, _, A, cap, rfl, hmc, _⟩ := hS
    obtain ⟨k1, q1⟩ := bnd_eval ha hT h1
    obtain ⟨k2, q2⟩ := bnd_eval ha hT h2
    obtain ⟨k3, q3⟩ := bnd_eval ha hT h3
    simp only [execOp, ha.eval hx hTx, q1, q2, q3] at hr
    have hsb : (Instr.sliceBounds true bs.length cap (i1.map fun (i : Nat) => Value.int k1 (i : Int)) (i2.map fun (i : Nat) => Value.int k2 (i : Int)) (i3.map fun (i : Nat) => Value.int k3 (i : Int))).run P w = .ok (lo, hi, mx) w := by
      simp only [capV] at b4 e3
      cases i3 with
      | none =>
        simp only [Option.getD_none] at e3; subst e3
        cases i2 with
        | none =>
          simp only [Option.getD_none] at e2; subst e2
          cases i1 with
          | none => simp only [Option.getD_none] at e1; subst e1; simp [Instr.sliceBounds]
          | some i1 => simp only [Option.getD_some] at e1; subst e1; simp [Instr.sliceBounds, sb_run (P := P) b1]
        | some i2 =>
          simp only [Option.getD_some] at e2; subst e2
          cases i1 with
          | none => simp only [Option.getD_none] at e1; subst e1; simp [Instr.sliceBounds, sb_run (P := P) b3]
          | some i1 => simp only [Option.getD_some] at e1; subst e1; simp [Instr.sliceBounds, sb_run (P := P) b1, sb_run (P := P) b3]
      | some i3 =>
        simp only [Option.getD_some] at e3; subst e3
        cases i2 with
        | none => simp at h23
        | some i2 =>
          simp only [Option.getD_some] at e2; subst e2
          cases i1 with
          | none => simp only [Option.getD_none] at e1; subst e1; simp [Instr.sliceBounds, sb_run (P := P) b3, sb_run (P := P) b4]
          | some i1 => simp only [Option.getD_some] at e1; subst e1; simp [Instr.sliceBounds, sb_run (P := P) b1, sb_run (P := P) b3, sb_run (P := P) b4]
    have hsz : (sizeOf E).run P w = .ok 1 w := by simp [sizeOf, typeInfo, g1, g2]
    simp [Instr.sliceAt, Instr.slice, run_underlying hE.u, hsb, hsz] at hr
    rw [← hr]
    simp [cut]
  subst e
  refine ⟨hr, byt_take (byt_drop hS.1 _) _, ?_⟩
  rw [map_drop_take] at f1
  have hl : ((bs.drop lo).take (hi - lo)).length = hi - lo := by simp; omega
  rw [hl]; exact f1

theorem BS.cut {N0 : List Nat} {w0 : World} {v : Value} {bs : List Int} (hS : BS N0 w0 v bs) {lo hi mx : Nat} (hb : lo ≤ hi ∧ hi ≤ bs.length ∧ hi ≤ mx ∧ mx ≤ capV v) : BS N0 w0 (W.cut v lo hi mx) ((bs.drop lo).take (hi - lo)) := by
  let l : Env := [(0, [], v), (1, [], .int .i64 lo), (2, [], .int .i64 hi), (3, [], .int .i64 mx)]
  let a : Act := { tmps := #[v, .int .i64 lo, .int .i64 hi, .int .i64 mx], defers := [] }
  have ha : En [] 4 l a := ⟨rfl, rfl, fun t g u h => by
    simp only [l, lk] at h
    rcases t with _ | _ | _ | _ | t <;> simp [Nat.beq] at h <;> obtain ⟨rfl, rfl⟩ := h <;> rfl⟩
  exact (cut_run (P := Tryd.prog) (T := 26) (d := 0) (ty := 0) (ps := "") (af := #[]) (gu := none) (G := []) (gx := []) (x := .tmp 0) (o1 := some (.tmp 1)) (o2 := some (.tmp 2)) (o3 := some (.tmp 3)) (i1 := some lo) (i2 := some hi) (i3 := some mx)
    hS e26 hb w0 a ha trivial trivial rfl ⟨[], [], .i64, rfl, rfl⟩ ⟨[], [], .i64, rfl, rfl⟩ ⟨[], [], .i64, rfl, rfl⟩ rfl rfl rfl (fun _ => rfl)).2
theorem BS.cutCap {N0 : List Nat} {w0 : World} {v : Value} {bs : List Int} (hS : BS N0 w0 v bs) {lo hi mx : Nat} : capV (W.cut v lo hi mx) = mx - lo := by
  obtain ⟨_, _, A, cap, rfl, _⟩ := hS; rfl

section op
variable {P : Program} {R : Qp} {ds : List Deferred} {n : Nat} {l : Env} {k : List KI} {w w0 : World} {C : World → Prop} {ops : Array Oper} {os : List Oper}
variable {d : Nat} {G gx ex : Gs} {ty : TypeId} {ps : String} {af : Array Edge} {gu : Option (Nat × Bool)} {x : Operand} {N0 : List Nat}
theorem slC {T E : TypeId} {by_ : Nat} {zc : List Value} {v : Value} {bs : List Int} {o1 o2 o3 : Option Operand} {i1 i2 i3 : Option Nat} {lo hi mx : Nat}
    (hx : ev l x = some (gx, v)) (hS : BS N0 w0 v bs) (hE : ElT P T E 1 by_ zc) (hG : gd ops l gu = some G) (hpx : G = gx ++ ex) (hn : Nat.blt d n = true)
    (h1 : bnd l G o1 i1) (h2 : bnd l G o2 i2) (h3 : bnd l G o3 i3) (e1 : i1.getD 0 = lo) (e2 : i2.getD bs.length = hi) (e3 : i3.getD (capV v) = mx) (h23 : i3.isSome = true → i2.isSome = true)
    (hb : allT G → lo ≤ hi ∧ hi ≤ bs.length ∧ hi ≤ mx ∧ mx ≤ capV v) (h : Ro P R ds n ops ((d, G, cut v lo hi mx) :: l) os k w) :
    Ro P R ds n ops l ({ dst := some d, op := .slice T x o1 o2 o3, type := ty, pos := ps, after := af, guard := gu } :: os) k w :=
  opv hG rfl hn (fun hT a ha => (cut_run hS hE (hb hT) w a ha (pre_T hpx hT) hT hx h1 h2 h3 e1 e2 e3 h23).1) h
theorem qslC {T E : TypeId} {by_ : Nat} {zc : List Value} {v : Value} {bs : List Int} {o1 o2 o3 : Option Operand} {i1 i2 i3 : Option Nat} {lo hi mx : Nat}
    (hx : ev l x = some (gx, v)) (hS : BS N0 w0 v bs) (hE : ElT P T E 1 by_ zc) (hG : gd ops l gu = some G) (hpx : G = gx ++ ex) (hn : Nat.blt d n = true)
    (h1 : bnd l G o1 i1) (h2 : bnd l G o2 i2) (h3 : bnd l G o3 i3) (e1 : i1.getD 0 = lo) (e2 : i2.getD bs.length = hi) (e3 : i3.getD (capV v) = mx) (h23 : i3.isSome = true → i2.isSome = true)
    (hb : allT G → lo ≤ hi ∧ hi ≤ bs.length ∧ hi ≤ mx ∧ mx ≤ capV v) (h : Qo P R ds n ops C ((d, G, cut v lo hi mx) :: l) os k) :
    Qo P R ds n ops C l ({ dst := some d, op := .slice T x o1 o2 o3, type := ty, pos := ps, after := af, guard := gu } :: os) k :=
  qopv hG rfl hn (fun hT w _ a ha => (cut_run hS hE (hb hT) w a ha (pre_T hpx hT) hT hx h1 h2 h3 e1 e2 e3 h23).1) h

/-- a byte of one's own slice is written -/
theorem stB {T : TypeId} {zc : List Value} {ag : Bool} {j i : Nat} {v : Value} {q : Int} {a : List Int} {x y : Operand} {L L' : List Own} (hx : ev l x = some ([], eP v (j * 1))) (hy : ev l y = some ([], .int .u8 q)) (hT : TyI P T 1 ag zc) (S : St N0 w0 L w)
    (hk : getN L i = some (oB v a)) (hj : j < a.length) (hL : setN L i (oB v (a.set j q)) = some L')
    (h : ∀ w', St N0 w0 L' w' → Ro P R ds n ops l os k w') :
    Ro P R ds n ops l ({ dst := none, op := .store T x y, type := ty, pos := ps, after := af, guard := none } :: os) k w :=
  stE hx hy hT rfl S hk (by omega) (by have := hL; simpa [oB, List.map_set, Nat.mul_one] using this) h
end op

def FI (w w' : World) (v : Value) (l : List Int) : Prop := Bl w w' ∧ (oI v l).holds w' ∧ ∀ i ∈ (oI v l).ids, w.heap.size ≤ i
theorem St.fi {N0 : List Nat} {w0 w w' : World} {L : List Own} {v : Value} {l : List Int} (S : St N0 w0 L w) (h : FI w w' v l) : St N0 w0 (oI v l :: L) w' :=
  S.new h.1 h.2.1 h.2.2 (Own.ids_nodup _)
theorem St.fresh {w0 w : World} {L : List Own} {o : Own} {i : Nat} (S : St [] w0 L w) (hk : getN L i = some o) : ∀ j ∈ o.ids, w0.heap.size ≤ j := by
  intro j hj
  rw [getN_eq] at hk
  rcases Nat.lt_or_ge j w0.heap.size with h | h
  · exact absurd (List.mem_flatMap.2 ⟨_, List.mem_of_getElem? hk, hj⟩) (S.off j h (by simp))
  · exact h
theorem St.toFI {w0 w : World} {L : List Own} {v : Value} {l : List Int} {i : Nat} (S : St [] w0 L w) (hk : getN L i = some (oI v l)) : FI w0 w v l := ⟨S.bl, S.rowI hk, S.fresh hk⟩

/-! ### a deferred call -/
theorem enterD {P : Program} {f : FuncId} {fn : Func} {c : Code} {n : Nat} {args : List Value} {l : Env} {w : World} {Rr : Value → World → Prop}
    (hf : P.funcs[f]? = some fn) (hb : fn.body = some c) (hn : fn.ntmps = n) (hl : penv 0 args = l) (hsz : Nat.ble args.length n = true)
    (h : Run P (bodyPostD P fn (RV Rr)) [] n l c [] w) : CallsV P f args.toArray w Rr := by
  subst hl
  have hsz' : args.length ≤ n := Nat.le_of_ble_eq_true hsz
  refine calls_of_wp_defers hf hb (h _ ⟨rfl, by simp [hn]; omega, ?_⟩)
  intro t g v ht
  obtain ⟨_, rfl, h3⟩ := lk_penv args 0 ht
  have hlt : t < args.length := by
    rcases Nat.lt_or_ge t args.length with h | h
    · exact h
    · rw [Nat.sub_zero, List.getElem?_eq_none h] at h3; cases h3
  rw [Array.getElem?_append_left (by simpa using hlt), gval_nil]
  simpa using h3

section dfr
variable {P : Program} {R : Qp} {ds : List Deferred} {n : Nat} {l : Env} {k : List KI} {w w0 : World} {ops : Array Oper} {os : List Oper}
variable {d : Nat} {ty : TypeId} {ps : String} {af : Array Edge} {x : Operand} {N0 : List Nat}
theorem mkf {f : FuncId} {xs : List Operand} {vs : List Value} (hx : Evs l [] xs vs) (hn : Nat.blt d n = true) (h : Ro P R ds n ops ((d, [], .func (.func f) #[] vs.toArray) :: l) os k w) :
    Ro P R ds n ops l ({ dst := some d, op := .makeFunc (.func f) #[] xs.toArray, type := ty, pos := ps, after := af, guard := none } :: os) k w :=
  opw rfl rfl hn (fun a ha => by
    have := Evs.eval ha (show allT [] from trivial) hx
    have e : xs.toArray.map a.eval = vs.toArray := by rw [← this]; simp
    simp [execOp, e, Instr.makeFunc]) h
theorem dfr {f : FuncId} {caps : Array Value} (hx : ev l x = some ([], .func (.func f) #[] caps)) (h : Ro P R ({ target := .fn (.func f) caps, args := #[] } :: ds) n ops l os k w) :
    Ro P R ds n ops l ({ dst := none, op := .defer { callee := .value x, args := #[], argTypes := #[] }, type := ty, pos := ps, after := af, guard := none } :: os) k w := by
  intro a ha
  refine wpList_of (fun hw => ?_) (fun hw => ?_)
  · have hr : (execOp a.eval { dst := none, op := .defer { callee := .value x, args := #[], argTypes := #[] }, type := ty, pos := ps, after := af, guard := none }).run P w = .ok (.defer { target := .fn (.func f) caps, args := #[] }) w := by
      simp [execOp, resolve, ha.eval hx trivial, Deferred.ofValue]
    simp only [Oper.wp, hr, Oper.upon, Act.put]
    exact h _ ⟨by simp [ha.defers], ha.size, ha.at_⟩
  · simp [Region.wanted] at hw
end dfr
end Go.Proofs.YtkahmepenjhcpaaDoor.W
