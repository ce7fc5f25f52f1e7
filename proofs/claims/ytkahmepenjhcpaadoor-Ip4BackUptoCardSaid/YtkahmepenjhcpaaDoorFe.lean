/- The base of this seat's proofs, fifth part: cutting, appending, building. No statement of the seat is proved here. -/
import Derived.Test.YtkahmepenjhcpaaDoorFd
import Derived.Laws.MakeOwn
namespace Go.Proofs.YtkahmepenjhcpaaDoor.W
open Go
set_option linter.unusedSimpArgs false

def capV : Value → Nat
  | .slice _ _ c => c
  | _ => 0

theorem Rd.sub {N : List Nat} {w : World} {A : Addr} {cs : List Value} (h : Rd N w (some A) cs) (j m : Nat) : Rd N w (some ⟨A.block, A.off + j, none⟩) ((cs.drop j).take m) := by
  intro i hi
  have hi' : j + i < cs.length := by simp only [List.length_take, List.length_drop] at hi; omega
  obtain ⟨a, h1, h2, h3, h4⟩ := h (j + i) hi'
  simp only [Option.some.injEq] at h1
  subst h1
  refine ⟨_, rfl, rfl, h3, ?_⟩
  simp only [Nat.add_assoc]
  rw [h4]
  simp [List.getElem_take, List.getElem_drop]

theorem Rd.self {N : List Nat} {w : World} {A : Option Addr} {cs : List Value} (h : cs = []) : Rd N w A cs := by
  subst h; intro i hi; simp at hi

section op
variable {P : Program} {R : Qp} {ds : List Deferred} {n : Nat} {l : Env} {k : List KI} {w w0 : World} {ops : Array Oper} {os : List Oper}
variable {d : Nat} {G gx gy gz gu' ex ey ez eu : Gs} {ty : TypeId} {ps : String} {af : Array Edge} {gu : Option (Nat × Bool)} {x y z u : Operand} {N0 : List Nat} {L L' : List Own}

/-- what a cut of a slice comes to -/
theorem slRun {T E : TypeId} {sz by_ m : Nat} {zc : List Value} {v : Value} {cs : List Value} (hS : Sl N0 w0 sz v m cs) (hE : ElT P T E sz by_ zc) (w : World)
    (lo hi mx : Nat) (hl : lo ≤ hi) (hh : hi ≤ m) (hm : hi ≤ mx) (hc : mx ≤ capV v) :
    ∃ v', Sl N0 w0 sz v' (hi - lo) ((cs.drop (lo * sz)).take ((hi - lo) * sz)) ∧ capV v' = mx - lo ∧
      (do let size ← sizeOf E; match v with | .slice a _ _ => pure (.slice (if mx = lo then a else a.map (·.add (lo * size))) (hi - lo) (mx - lo)) | _ => stuck "" : Sem Value).run P w = .ok v' w := by
  obtain ⟨i1, z, g1, g2, g3, g4, g5⟩ := hE.get
  obtain ⟨hlen, A, cap, rfl, hmc, hA, hR⟩ := hS
  refine ⟨_, ⟨?_, (if mx = lo then A else A.map (·.add (lo * sz))), mx - lo, rfl, by omega, ?_, ?_⟩, rfl, ?_⟩
  · simp only [List.length_take, List.length_drop, hlen]
    have : (hi - lo) * sz + lo * sz ≤ m * sz := by rw [← Nat.add_mul]; exact Nat.mul_le_mul_right _ (by omega)
    omega
  · intro h
    split at h
    · omega
    · cases A with
      | none => have := hA rfl; simp only [capV] at hc; omega
      | some a => simp at h
  · split
    · rename_i e
      refine Rd.self ?_
      have : hi - lo = 0 := by omega
      simp [this]
    · cases A with
      | none =>
        refine Rd.self ?_
        have h0 := hA rfl
        have : m = 0 := by omega
        subst this
        have : cs = [] := List.eq_nil_of_length_eq_zero (by simpa using hlen)
        simp [this]
      | some a =>
        rcases Nat.eq_zero_or_pos ((cs.drop (lo * sz)).take ((hi - lo) * sz)).length with h0 | h0
        · exact Rd.self (List.eq_nil_of_length_eq_zero h0)
        · have hpos : 0 < cs.length := by simp only [List.length_take, List.length_drop] at h0; omega
          obtain ⟨a', h1, h2, _⟩ := hR 0 hpos
          simp only [Option.some.injEq] at h1
          subst h1
          simp only [Option.map_some, add_addr h2]
          exact hR.sub _ _
  · simp [sizeOf, typeInfo, g1, g2]

def bnd (l : Env) (G : Gs) : Option Operand → Option Nat → Prop
  | none, none => True
  | some x, some i => ∃ g e kd, ev l x = some (g, .int kd (i : Int)) ∧ G = g ++ e
  | _, _ => False

theorem bnd_eval {a : Act} (ha : En ds n l a) (hT : allT G) {o : Option Operand} {i : Option Nat} (h : bnd l G o i) : ∃ kd, o.map a.eval = i.map (fun (i : Nat) => Value.int kd (i : Int)) := by
  cases o with
  | none => cases i with
    | none => exact ⟨.i64, rfl⟩
    | some i => exact h.elim
  | some x => cases i with
    | none => exact h.elim
    | some i => obtain ⟨g, e, kd, h1, h2⟩ := h; exact ⟨kd, by simp [ha.eval h1 (pre_T h2 hT)]⟩

theorem sb_run {kd : IntKind} {i y : Nat} {c : BoundsCode} (h : i ≤ y) (w : World) : (Instr.sliceBound (.int kd (i : Int)) y c).run P w = .ok i w := by
  have : (i : Int) ≤ (y : Int) := by omega
  simp [Instr.sliceBound, asIntOf, this]

/-- 'x[lo:hi:mx]' of a slice: its value, in every world -/
theorem slX {T E : TypeId} {sz by_ m : Nat} {zc : List Value} {v : Value} {cs : List Value} (hS : Sl N0 w0 sz v m cs) (hE : ElT P T E sz by_ zc) (lo hi mx : Nat)
    (hb : lo ≤ hi ∧ hi ≤ m ∧ hi ≤ mx ∧ mx ≤ capV v) :
    ∃ v', Sl N0 w0 sz v' (hi - lo) ((cs.drop (lo * sz)).take ((hi - lo) * sz)) ∧ capV v' = mx - lo ∧ ∀ (w : World) (a : Act) {ds : List Deferred} {n : Nat} {l : Env} {G gx : Gs} {x : Operand} {d : Nat} {ty : TypeId} {ps : String} {af : Array Edge} {gu : Option (Nat × Bool)}
      {o1 o2 o3 : Option Operand} {i1 i2 i3 : Option Nat}, En ds n l a → allT gx → allT G → ev l x = some (gx, v) → bnd l G o1 i1 → bnd l G o2 i2 → bnd l G o3 i3 →
      i1.getD 0 = lo → i2.getD m = hi → i3.getD (capV v) = mx → (i3.isSome = true → i2.isSome = true) →
      (execOp a.eval { dst := some d, op := .slice T x o1 o2 o3, type := ty, pos := ps, after := af, guard := gu }).run P w = .ok (.value v') w := by
  obtain ⟨b1, b2, b3, b4⟩ := hb
  obtain ⟨i, z, g1, g2, g3, g4, g5⟩ := hE.get
  have hr0 := fun w => slRun hS hE w lo hi mx b1 b2 b3 b4
  obtain ⟨_, A, cap, rfl, hmc, _⟩ := hS
  refine ⟨.slice (if mx = lo then A else A.map (·.add (lo * sz))) (hi - lo) (mx - lo), ?_, rfl, ?_⟩
  · obtain ⟨v', hs', _, hr'⟩ := hr0 w0
    have : (.slice (if mx = lo then A else A.map (·.add (lo * sz))) (hi - lo) (mx - lo) : Value) = v' := by
      simpa [sizeOf, typeInfo, g1, g2] using hr'
    rw [this]; exact hs'
  · intro w a ds n l G gx x d ty ps af gu o1 o2 o3 i1 i2 i3 ha hTx hT hx h1 h2 h3 e1 e2 e3 h23
    obtain ⟨k1, q1⟩ := bnd_eval ha hT h1
    obtain ⟨k2, q2⟩ := bnd_eval ha hT h2
    obtain ⟨k3, q3⟩ := bnd_eval ha hT h3
    simp only [execOp, ha.eval hx hTx, q1, q2, q3]
    have hsb : (Instr.sliceBounds true m cap (i1.map fun (i : Nat) => Value.int k1 (i : Int)) (i2.map fun (i : Nat) => Value.int k2 (i : Int)) (i3.map fun (i : Nat) => Value.int k3 (i : Int))).run P w = .ok (lo, hi, mx) w := by
      simp only [capV] at b4 e3
      cases i3 with
      | none =>
        simp only [Option.getD_none] at e3; subst e3
        cases i2 with
        | none =>
          simp only [Option.getD_none] at e2; subst e2
          cases i1 with
          | none => simp only [Option.getD_none] at e1; subst e1; simp [Instr.sliceBounds]
          | some i1 => simp only [Option.getD_some] at e1; subst e1; simp [Instr.sliceBounds, sb_run (P := P) b1]
        | some i2 =>
          simp only [Option.getD_some] at e2; subst e2
          cases i1 with
          | none => simp only [Option.getD_none] at e1; subst e1; simp [Instr.sliceBounds, sb_run (P := P) b3]
          | some i1 => simp only [Option.getD_some] at e1; subst e1; simp [Instr.sliceBounds, sb_run (P := P) b1, sb_run (P := P) b3]
      | some i3 =>
        simp only [Option.getD_some] at e3; subst e3
        cases i2 with
        | none => simp at h23
        | some i2 =>
          simp only [Option.getD_some] at e2; subst e2
          cases i1 with
          | none => simp only [Option.getD_none] at e1; subst e1; simp [Instr.sliceBounds, sb_run (P := P) b3, sb_run (P := P) b4]
          | some i1 => simp only [Option.getD_some] at e1; subst e1; simp [Instr.sliceBounds, sb_run (P := P) b1, sb_run (P := P) b3, sb_run (P := P) b4]
    have hsz : (sizeOf E).run P w = .ok sz w := by simp [sizeOf, typeInfo, g1, g2]
    simp [Instr.sliceAt, Instr.slice, run_underlying hE.u, hsb, hsz]

/-- 'x[lo:hi:mx]' of a slice -/
theorem slS {T E : TypeId} {sz by_ m : Nat} {zc : List Value} {v : Value} {cs : List Value} {o1 o2 o3 : Option Operand} {i1 i2 i3 : Option Nat} {lo hi mx : Nat}
    (hx : ev l x = some (gx, v)) (hS : Sl N0 w0 sz v m cs) (hE : ElT P T E sz by_ zc)
    (hG : gd ops l gu = some G) (hpx : G = gx ++ ex) (hn : Nat.blt d n = true)
    (h1 : bnd l G o1 i1) (h2 : bnd l G o2 i2) (h3 : bnd l G o3 i3)
    (e1 : i1.getD 0 = lo) (e2 : i2.getD m = hi) (e3 : i3.getD (capV v) = mx) (h23 : i3.isSome = true → i2.isSome = true)
    (hb : allT G → lo ≤ hi ∧ hi ≤ m ∧ hi ≤ mx ∧ mx ≤ capV v)
    (h : ∀ v', (allT G → Sl N0 w0 sz v' (hi - lo) ((cs.drop (lo * sz)).take ((hi - lo) * sz)) ∧ capV v' = mx - lo) → Ro P R ds n ops ((d, G, v') :: l) os k w) :
    Ro P R ds n ops l ({ dst := some d, op := .slice T x o1 o2 o3, type := ty, pos := ps, after := af, guard := gu } :: os) k w := by
  rcases Classical.em (allT G) with hT0 | hT0
  case inr => exact opv (v := undef) hG rfl hn (fun hT => absurd hT hT0) (h _ (fun hT => absurd hT hT0))
  obtain ⟨v', f1, f2, f3⟩ := slX hS hE lo hi mx (hb hT0)
  refine opv hG rfl hn ?_ (h v' (fun _ => ⟨f1, f2⟩))
  intro hT a ha
  exact f3 w a (d := d) (ty := ty) (ps := ps) (af := af) (gu := gu) ha (pre_T hpx hT) hT hx h1 h2 h3 e1 e2 e3 h23

theorem map_drop_take {l : List Int} {lo m : Nat} : ((l.map u8).drop (lo * 1)).take (m * 1) = ((l.drop lo).take m).map u8 := by
  simp [List.map_drop, List.map_take]

/-- 'x[lo:hi:mx]' of bytes -/
theorem slB {T E : TypeId} {by_ : Nat} {zc : List Value} {v : Value} {bs : List Int} {o1 o2 o3 : Option Operand} {i1 i2 i3 : Option Nat} {lo hi mx : Nat}
    (hx : ev l x = some (gx, v)) (hS : BS N0 w0 v bs) (hE : ElT P T E 1 by_ zc)
    (hG : gd ops l gu = some G) (hpx : G = gx ++ ex) (hn : Nat.blt d n = true)
    (h1 : bnd l G o1 i1) (h2 : bnd l G o2 i2) (h3 : bnd l G o3 i3)
    (e1 : i1.getD 0 = lo) (e2 : i2.getD bs.length = hi) (e3 : i3.getD (capV v) = mx) (h23 : i3.isSome = true → i2.isSome = true)
    (hb : allT G → lo ≤ hi ∧ hi ≤ bs.length ∧ hi ≤ mx ∧ mx ≤ capV v)
    (h : ∀ v', (allT G → BS N0 w0 v' ((bs.drop lo).take (hi - lo)) ∧ capV v' = mx - lo) → Ro P R ds n ops ((d, G, v') :: l) os k w) :
    Ro P R ds n ops l ({ dst := some d, op := .slice T x o1 o2 o3, type := ty, pos := ps, after := af, guard := gu } :: os) k w :=
  slS hx hS.2 hE hG hpx hn h1 h2 h3 e1 e2 e3 h23 hb (fun v' hv' => h v' (fun hT => by
    obtain ⟨q1, q2⟩ := hv' hT
    obtain ⟨b1, b2, _⟩ := hb hT
    rw [map_drop_take] at q1
    have hl : ((bs.drop lo).take (hi - lo)).length = hi - lo := by simp; omega
    exact ⟨⟨byt_take (byt_drop hS.1 _) _, by rw [hl]; exact q1⟩, q2⟩))

theorem BS.cap {N : List Nat} {v : Value} {bs : List Int} (h : BS N w v bs) : bs.length ≤ capV v := by
  obtain ⟨_, _, A, cap, rfl, h1, _⟩ := h; exact h1
theorem Sl.cap {N : List Nat} {v : Value} {sz m : Nat} {cs : List Value} (h : Sl N w sz v m cs) : m ≤ capV v := by
  obtain ⟨_, A, cap, rfl, h1, _⟩ := h; exact h1

/-! ### append -/
theorem append_run {T E : TypeId} {sz by_ : Nat} {zc : List Value} (hE : ElT P T E sz by_ zc) {v : Value} {m : Nat} {xs : List Value} (hown : w.ownsRow 0 E sz v m xs)
    {q : Value} {mm : Nat} {ys : List Value} (hq : Sl [] w sz q mm ys) (h1 : ∀ e ∈ ys, e.oneCell' = true) (hroom : (m + mm) * by_ ≤ 140737488355328) (hmax : m + mm ≤ maxLen) (ty : TypeId) :
    ∃ v' w', (Builtin.append_ #[T, T] ty #[v, q]).run P w = .ok v' w' ∧ w'.ownsRow 0 E sz v' (m + mm) (xs ++ ys) ∧ w.grownBy w' v.ownBlock ∧ (∀ i, v'.ownBlock = some i → v.ownBlock = some i ∨ w.heap.size ≤ i) := by
  obtain ⟨i, z, g1, g2, g3, g4, g5⟩ := hE.get
  obtain ⟨hlen, A, cap, rfl, hc, hA, hR⟩ := hq
  cases A with
  | none =>
    have hc0 := hA rfl
    have hmm : mm = 0 := by omega
    subst hmm; subst hc0
    have hys : ys = [] := List.eq_nil_of_length_eq_zero (by simpa using hlen)
    subst hys
    have hr := run_append_owned_none (P := P) (w := w) 0 T ty E i sz hE.u g1 v m xs hown
    exact ⟨v, w, hr, by simpa using hown, ⟨rfl, rfl, rfl, Nat.le_refl _, fun _ _ _ => rfl⟩, fun i hi => .inl hi⟩
  | some a =>
    have hzs : z.cells.size = sz := by rw [← hE.l, ← g5]; simp
    obtain ⟨v', w', q1, q2, q3, q4⟩ := run_append_own (P := P) w 0 T ty E i z sz by_ hE.u g1 g4 g2 g3 hzs hE.p v m xs hown a mm cap ys hlen hR.cells h1 hmax hroom (Nat.zero_le _)
    refine ⟨v', w', q1, q2, q3, ?_⟩
    intro j hj
    -- which block it is: by the three ways of an append
    subst g2; subst g3
    rcases hown.2 with ⟨rfl, rfl⟩ | ⟨g, cap', cur, rfl, _, hg, hnc, hcm, hcs, htake⟩
    · by_cases hm : mm = 0
      · subst hm
        have hn : ys = [] := List.eq_nil_of_length_eq_zero (by simpa using hlen)
        subst hn
        have hv := q4.2 ⟨rfl, rfl⟩
        subst hv
        simp [Value.ownBlock] at hj
      · have hr := run_append_nil (P := P) w T ty E i z hE.u g1 g4 a mm cap ys hlen hR.cells (by omega) (by simp only [maxLen] at hmax; omega) (by simp only [Nat.zero_add] at hroom; omega)
        rw [hr] at q1
        simp only [Result.ok.injEq] at q1
        rw [← q1.1] at hj
        simp only [Value.ownBlock, Option.some.injEq] at hj
        exact .inr (by omega)
    · by_cases hroom' : m + mm ≤ cap'
      · have hfit : m * i.size + ys.length ≤ cur.size := by rw [hlen, hcs, ← Nat.add_mul]; exact Nat.mul_le_mul_right _ hroom'
        have hr := run_append_room (P := P) w T ty E i hE.u g1 g m cap' cur hg a mm cap ys hlen hR.cells h1 hroom' hfit
        rw [hr] at q1
        simp only [Result.ok.injEq] at q1
        rw [← q1.1] at hj
        exact .inl hj
      · have holds : ∀ j u, xs[j]? = some u → w.cell? ((⟨g, 0, none⟩ : Addr).add j) = some u := hown.cells (g := g) rfl
        have hr := run_append_grow (P := P) w T ty E i z hE.u g1 g4 ⟨g, 0, none⟩ m cap' xs hown.1 holds a mm cap ys hlen hR.cells (by omega) (by simp only [maxLen] at hmax; omega) (growslice_fits (by omega) hroom)
        rw [hr] at q1
        simp only [Result.ok.injEq] at q1
        rw [← q1.1] at hj
        simp only [Value.ownBlock, Option.some.injEq] at hj
        exact .inr (by omega)

theorem ids_ownBlock (v : Value) (T : TypeId) (sz m : Nat) (xs : List Value) (i : Nat) : i ∈ (Own.row v T sz m xs).ids ↔ v.ownBlock = some i := by
  cases v <;> first | (simp [Own.ids, Value.ownBlock]; done) | (rename_i a _ _; cases a <;> simp [Own.ids, Value.ownBlock, eq_comm])

/-- append to a slice of one's own -/
theorem ap {T E : TypeId} {sz by_ m mm i : Nat} {zc : List Value} {v q : Value} {xs ys : List Value} {L' : Value → List Own} (hx : ev l x = some ([], v)) (hy : ev l y = some ([], q)) (hE : ElT P T E sz by_ zc)
    (hq : Sl [] w sz q mm ys) (h1 : ∀ e ∈ ys, e.oneCell' = true) (S : St N0 w0 L w) (hk : getN L i = some (.row v E sz m xs)) (hn : Nat.blt d n = true)
    (hL : ∀ v', setN L i (.row v' E sz (m + mm) (xs ++ ys)) = some (L' v')) (hroom : (m + mm) * by_ ≤ 140737488355328) (hmax : m + mm ≤ maxLen)
    (h : ∀ v' w', St N0 w0 (L' v') w' → w.heap.size ≤ w'.heap.size → Ro P R ds n ops ((d, [], v') :: l) os k w') :
    Ro P R ds n ops l ({ dst := some d, op := .call { callee := .builtin .append, args := #[x, y], argTypes := #[T, T] }, type := ty, pos := ps, after := af, guard := none } :: os) k w := by
  obtain ⟨v', w', hr, ho, hg, hb⟩ := append_run (P := P) hE (S.rowI hk) hq h1 hroom hmax ty
  obtain ⟨A, B, e1, e2⟩ := setN_get (hL v') hk
  subst e1
  refine opw (w' := w') rfl rfl hn ?_ (h v' w' ?_ hg.size)
  · intro a ha
    simp [execOp, resolve, invoke, builtin, ha.eval hx trivial, ha.eval hy trivial, hr]
  · rw [e2]
    refine S.turn hg.os hg.tape hg.output hg.size ?_ ho ?_
    · intro j hj hj'
      refine hg.block j hj ?_
      intro e
      exact hj' ((ids_ownBlock v E sz m xs j).2 e.symm)
    · intro j hj
      rcases hb j ((ids_ownBlock v' E sz (m + mm) (xs ++ ys) j).1 hj) with h | h
      · exact .inl ((ids_ownBlock v E sz m xs j).2 h)
      · exact .inr h

theorem St.nilRow (S : St N0 w0 L w) (T : TypeId) (sz : Nat) : St N0 w0 (.row (.slice none 0 0) T sz 0 [] :: L) w :=
  S.new (Bl.refl w) (World.ownsRow_nil w 0 T sz) (by simp [Own.ids]) (by simp [Own.ids])

/-! ### new slices -/
theorem St.newRow {T : TypeId} {sz m : Nat} {xs : List Value} (S : St N0 w0 L w) (hl : xs.length = m * sz) (hm : m ≤ maxLen) :
    St N0 w0 (.row (.slice (some ⟨w.heap.size, 0, none⟩) m m) T sz m xs :: L) (w.alloc (.cells xs.toArray T)) := by
  refine S.new (bl_alloc w _) ⟨hl, .inr ⟨w.heap.size, m, xs.toArray, rfl, Nat.zero_le _, heap_alloc_new w _, Nat.le_refl _, hm, by simpa using hl, ?_⟩⟩ (by simp [Own.ids]) (by simp [Own.ids])
  simp [← hl]

/-- parts laid into cells -/
def fillN : List Value → List (Nat × List Value) → Option (List Value)
  | c, [] => some c
  | c, (off, vs) :: r => match putN c off vs with
    | some c' => fillN c' r
    | none => none

theorem foldl_put (vs : List Value) : ∀ (i j : Nat) (c : Array Value), i + j + vs.length ≤ c.size →
    (vs.zipIdx j).foldl (fun cs p => cs.setIfInBounds (i + p.2) p.1) c = (c.toList.take (i + j) ++ vs ++ c.toList.drop (i + j + vs.length)).toArray := by
  induction vs with
  | nil => intro i j c h; simp
  | cons v r ih =>
    intro i j c h
    simp only [List.zipIdx_cons, List.foldl_cons]
    rw [ih i (j + 1) _ (by simp only [List.length_cons] at h; simp; omega)]
    apply Array.ext'
    simp only [List.length_cons] at h
    simp only [Array.toList_setIfInBounds]
    rw [List.take_set, List.drop_set_of_lt (by omega)]
    have hlt : i + j < c.toList.length := by simp; omega
    have e1 : i + (j + 1) = (i + j) + 1 := by omega
    rw [e1, List.take_succ_eq_append_getElem hlt, List.set_append_right _ _ (by rw [List.length_take]; omega)]
    have e2 : i + j - (List.take (i + j) c.toList).length = 0 := by
      rw [List.length_take, Nat.min_eq_left (by omega)]; omega
    rw [e2]
    simp [Nat.add_assoc, Nat.add_comm, Nat.add_left_comm]

theorem zip_foldl (vs : Array Value) (off : Nat) (c : Array Value) : vs.zipIdx.foldl (fun cs (c, j) => cs.setIfInBounds (off + j) c) c = (vs.toList.zipIdx 0).foldl (fun cs p => cs.setIfInBounds (off + p.2) p.1) c := by
  rw [← Array.foldl_toList, Array.toList_zipIdx]

/-- the parts as Go's model lays them -/
theorem fill_run {place : Nat → Option (Nat × Nat)} : ∀ (ps : List (Nat × Value)) (qs : List (Nat × List Value)) (c c' : List Value),
    (ps.length = qs.length ∧ ∀ (i : Nat) (p : Nat × Value) (q : Nat × List Value), ps[i]? = some p → qs[i]? = some q → place p.1 = some (q.1, q.2.length) ∧ p.2.cells.toList = q.2 ∧ q.2 ≠ []) → fillN c qs = some c' → Instr.fill place c.toArray ps = some c'.toArray
  | [], [], c, c', _, h => by simp only [fillN, Option.some.injEq] at h; subst h; rfl
  | [], _ :: _, _, _, h, _ => by simp at h
  | _ :: _, [], _, _, h, _ => by simp at h
  | (i, v) :: ps, (off, vs) :: qs, c, c', hp, h => by
    obtain ⟨hl, hp⟩ := hp
    obtain ⟨h1, h2, h3⟩ := hp 0 _ _ rfl rfl
    simp only at h1 h2 h3
    simp only [fillN] at h
    cases hc : putN c off vs with
    | none => rw [hc] at h; cases h
    | some c1 =>
      rw [hc] at h
      obtain ⟨h4, h5⟩ := putN_spec _ _ _ _ hc h3
      have ih := fill_run ps qs c1 c' ⟨by simpa using hl, fun j p q hj hq => hp (j + 1) p q (by simpa using hj) (by simpa using hq)⟩ h
      have hsz : v.cells.size = vs.length := by rw [← h2]; simp
      unfold Instr.fill
      simp only [h1, hsz]
      rw [if_neg (by simp; omega), zip_foldl, h2, foldl_put vs off 0 c.toArray (by simp; omega)]
      simp only [Nat.add_zero]
      rw [← h5]
      exact ih

/-- the parts' values: each a cell or a struct's cells -/
def Pts (l : Env) (G : Gs) (place : Nat → Option (Nat × Nat)) : List (Nat × Operand) → List (Nat × List Value) → Prop
  | [], [] => True
  | (i, x) :: r, (off, vs) :: q => (∃ g e v, ev l x = some (g, v) ∧ G = g ++ e ∧ v.cells.toList = vs ∧ place i = some (off, vs.length) ∧ vs ≠ []) ∧ Pts l G place r q
  | _, _ => False

theorem Pts.get {a : Act} (ha : En ds n l a) (hT : allT G) {place : Nat → Option (Nat × Nat)} : ∀ {r : List (Nat × Operand)} {q : List (Nat × List Value)}, Pts l G place r q →
    (r.map fun p => (p.1, a.eval p.2)).length = q.length ∧ ∀ (i : Nat) (p : Nat × Value) (s : Nat × List Value), (r.map fun p => (p.1, a.eval p.2))[i]? = some p → q[i]? = some s → place p.1 = some (s.1, s.2.length) ∧ p.2.cells.toList = s.2 ∧ s.2 ≠ []
  | [], [], _ => ⟨rfl, fun i p s h => by simp at h⟩
  | [], _ :: _, h => h.elim
  | _ :: _, [], h => h.elim
  | (j, x) :: r, (off, vs) :: q, ⟨⟨g, e, v, h1, h2, h3, h4, h5⟩, h⟩ => by
    obtain ⟨i1, i2⟩ := Pts.get ha hT h
    refine ⟨by simpa using i1, ?_⟩
    intro i p s hi hs
    cases i with
    | zero =>
      simp only [List.map_cons, List.getElem?_cons_zero, Option.some.injEq] at hi hs
      subst hi; subst hs
      refine ⟨h4, ?_, h5⟩
      simp only [ha.eval h1 (pre_T h2 hT)]; exact h3
    | succ i => exact i2 i p s (by simpa using hi) (by simpa using hs)

/-- a struct type: its zero, where its fields lie -/
structure BldT (P : Program) (T : TypeId) (places : List (Nat × Nat)) (zc : List Value) : Prop where
  z : ∀ w, (zeroValue T).run P w = .ok (.agg zc.toArray) w
  p : ∀ w, (do let u ← underlying T; match u with | .struct fields => fields.mapM fun f => do pure (f.offset, ← sizeOf f.type) | _ => stuck "" : Sem (Array (Nat × Nat))).run P w = .ok places.toArray w
  s : ∃ fs, P.underlying T = some (.struct fs)

theorem bld {T : TypeId} {places : List (Nat × Nat)} {zc c : List Value} {parts : List (Nat × Operand)} {qs : List (Nat × List Value)} (hT : BldT P T places zc)
    (hp : Pts l G (getN places) parts qs) (hf : fillN zc qs = some c) (hG : gd ops l gu = some G) (hn : Nat.blt d n = true)
    (h : Ro P R ds n ops ((d, G, .agg c.toArray) :: l) os k w) :
    Ro P R ds n ops l ({ dst := some d, op := .build T parts.toArray, type := ty, pos := ps, after := af, guard := gu } :: os) k w := by
  refine opv hG rfl hn ?_ h
  intro hT' a ha
  obtain ⟨fs, hu⟩ := hT.s
  have hpl := hT.p w
  simp only [Sem.run_bind, run_underlying hu, Result.andThen_ok] at hpl
  have hfr := fill_run _ qs zc c (Pts.get ha hT' hp) hf
  have hpe : (fun i => places.toArray[i]?) = getN places := by funext i; rw [getN_eq]; simp
  simp only [execOp, Instr.build, Sem.run_bind, hT.z w, Result.andThen_ok, run_underlying hu, Value.cells]
  rw [hpl]
  simp only [Result.andThen_ok]
  have e : (parts.toArray.map fun x => (x.1, a.eval x.2)).toList = parts.map fun p => (p.1, a.eval p.2) := by simp
  rw [e, hpe, hfr]
  rfl

theorem flat_rep (zc : List Value) : ∀ (m i : Nat), i < m * zc.length → (List.replicate m zc).flatten[i]? = zc[i % zc.length]? := by
  intro m
  induction m with
  | zero => intro i h; omega
  | succ m ih =>
    intro i h
    simp only [List.replicate_succ, List.flatten_cons]
    rcases Nat.lt_or_ge i zc.length with hi | hi
    · rw [List.getElem?_append_left hi, Nat.mod_eq_of_lt hi]
    · rw [List.getElem?_append_right hi, ih _ (by rw [Nat.add_mul] at h; omega), Nat.mod_eq_sub_mod hi]

theorem range_rep (zc : List Value) (hz : 0 < zc.length) (m : Nat) : (Array.range (m * zc.length)).map (fun i => zc.toArray[i % zc.length]!) = ((List.replicate m zc).flatten).toArray := by
  apply Array.ext'
  apply List.ext_getElem?
  intro i
  rw [Array.toList_map, List.getElem?_map]
  rcases Nat.lt_or_ge i (m * zc.length) with h | h
  · have hm := Nat.mod_lt i hz
    rw [flat_rep zc m i h]
    simp [h, hm]
  · rw [List.getElem?_eq_none (by simpa using h)]
    simp [h]

/-- a new slice of given elements, one cell each or a struct's cells -/
theorem bsl {T E : TypeId} {sz by_ len : Nat} {zc c : List Value} {parts : List (Nat × Operand)} {qs : List (Nat × List Value)} (hE : ElT P T E sz by_ zc)
    (hp : Pts l [] (fun i => some (i * sz, sz)) parts qs) (hlen : Nat.ble (len * sz) 16777216 = true)
    (hf : fillN (List.replicate len zc).flatten qs = some c) (hcl : c.length = len * sz) (hn : Nat.blt d n = true) (S : St N0 w0 L w)
    (h : ∀ v w', St N0 w0 (.row v E sz len c :: L) w' → Bl w w' → Ro P R ds n ops ((d, [], v) :: l) os k w') :
    Ro P R ds n ops l ({ dst := some d, op := .buildSlice T len parts.toArray, type := ty, pos := ps, after := af, guard := none } :: os) k w := by
  have hlen' : len * sz ≤ 16777216 := Nat.le_of_ble_eq_true hlen
  have hzl : ((List.replicate len zc).flatten).length = len * sz := by simp [hE.l]
  have hz : (Array.range (len * sz)).map (fun i => zc.toArray[i % zc.length]!) = ((List.replicate len zc).flatten).toArray := by
    have := range_rep zc (by rw [hE.l]; exact hE.p) len
    rwa [hE.l] at this ⊢
  generalize (List.replicate len zc).flatten = zs at hf hzl hz
  have hlm : len ≤ maxLen := by
    have : len * 1 ≤ len * sz := Nat.mul_le_mul_left _ hE.p
    simp only [maxLen]; omega
  obtain ⟨i, z, g1, g2, g3, g4, g5⟩ := hE.get
  refine opw (w' := w.alloc (.cells c.toArray E)) rfl rfl hn ?_ (h _ _ (S.newRow hcl hlm) (bl_alloc w _))
  intro a ha
  have hfr := fill_run _ qs zs c (Pts.get ha (show allT [] from trivial) hp) hf
  have e : (parts.toArray.map fun x => (x.1, a.eval x.2)).toList = parts.map fun p => (p.1, a.eval p.2) := by simp
  have hzc : z.cells = zc.toArray := by rw [← g5]
  have hbig : ¬ (16777216 < len * sz) := by omega
  simp only [execOp, Instr.buildSlice, Sem.run_bind, run_underlying hE.u, Result.andThen_ok, sizeOf, typeInfo, run_program, g1, Sem.run_pure, g2]
  by_cases h0 : len * sz = 0
  · have hzs : zs = [] := List.eq_nil_of_length_eq_zero (by omega)
    subst hzs
    simp [h0, newRow, Array.range_zero'] at *
    rw [hfr]
    simp
  · simp only [hbig, h0, if_false, Sem.run_ite, zeroValue, typeInfo, Sem.run_bind, run_program, Result.andThen_ok, g1, g4, Sem.run_pure, hzc]
    have e2 : (Array.range (len * sz)).map (fun x => zc.toArray[x % zc.toArray.size]!) = zs.toArray := by rw [← hz]; simp
    simp only [gt_iff_lt, Nat.reducePow, hbig, if_false, Sem.run_pure, Result.andThen_ok, e2]
    rw [e, hfr]
    simp [newRow]

end op
end Go.Proofs.YtkahmepenjhcpaaDoor.W
