/- The base of this seat's proofs, fourth part: rules for the operations on memory. No statement of the seat is proved here. -/
import Derived.Test.YtkahmepenjhcpaaDoorFc
namespace Go.Proofs.YtkahmepenjhcpaaDoor.W
open Go
set_option linter.unusedSimpArgs false

/-! ### types -/
def aggD : TypeDesc → Bool
  | .struct _ | .array _ _ => true
  | _ => false

structure TyI (P : Program) (T : TypeId) (sz : Nat) (agg : Bool) (zc : List Value) : Prop where
  i : (P.info? T).map (fun i => (i.size, i.zero.map (fun z => z.cells.toList))) = some (sz, some zc)
  u : (P.underlying T).map aggD = some agg

theorem TyI.get {P : Program} {T : TypeId} {sz : Nat} {agg : Bool} {zc : List Value} (h : TyI P T sz agg zc) :
    ∃ i z d, P.info? T = some i ∧ i.size = sz ∧ i.zero = some z ∧ z.cells.toList = zc ∧ P.underlying T = some d ∧ aggD d = agg := by
  have h1 := h.i
  have h2 := h.u
  cases hi : P.info? T with
  | none => rw [hi] at h1; cases h1
  | some i =>
    rw [hi] at h1
    cases hd : P.underlying T with
    | none => rw [hd] at h2; cases h2
    | some d =>
      rw [hd] at h2
      simp only [Option.map_some, Option.some.injEq, Prod.mk.injEq] at h1 h2
      cases hz : i.zero with
      | none => rw [hz] at h1; cases h1.2
      | some z =>
        rw [hz] at h1
        simp only [Option.map_some, Option.some.injEq] at h1
        exact ⟨i, z, d, rfl, h1.1, hz, h1.2, rfl, h2⟩

/-- a slice type, its elements -/
structure ElT (P : Program) (T E : TypeId) (sz bytes : Nat) (zc : List Value) : Prop where
  u : P.underlying T = some (.slice E)
  i : (P.info? E).map (fun i => (i.size, i.bytes, i.zero.map (fun z => z.cells.toList))) = some (sz, bytes, some zc)
  l : zc.length = sz
  p : 0 < sz

theorem ElT.get {P : Program} {T E : TypeId} {sz bytes : Nat} {zc : List Value} (h : ElT P T E sz bytes zc) :
    ∃ i z, P.info? E = some i ∧ i.size = sz ∧ i.bytes = bytes ∧ i.zero = some z ∧ z.cells.toList = zc := by
  have h1 := h.i
  cases hi : P.info? E with
  | none => rw [hi] at h1; cases h1
  | some i =>
    rw [hi] at h1
    simp only [Option.map_some, Option.some.injEq, Prod.mk.injEq] at h1
    cases hz : i.zero with
    | none => rw [hz] at h1; cases h1.2.2
    | some z =>
      rw [hz] at h1
      simp only [Option.map_some, Option.some.injEq] at h1
      exact ⟨i, z, rfl, h1.1, h1.2.1, hz, h1.2.2⟩

/-! ### lists, evaluated to their normal forms -/
def getN {α : Type} : List α → Nat → Option α
  | [], _ => none
  | x :: _, 0 => some x
  | _ :: r, i + 1 => getN r i

theorem getN_eq {α : Type} : ∀ (l : List α) (i : Nat), getN l i = l[i]?
  | [], i => by simp [getN]
  | x :: _, 0 => by simp [getN]
  | _ :: r, i + 1 => by simp [getN, getN_eq r i]

def setN {α : Type} : List α → Nat → α → Option (List α)
  | [], _, _ => none
  | _ :: r, 0, y => some (y :: r)
  | x :: r, i + 1, y => match setN r i y with
    | some r' => some (x :: r')
    | none => none

theorem setN_spec {α : Type} : ∀ (l : List α) (i : Nat) (y : α) (l' : List α), setN l i y = some l' →
    ∃ A x B, l = A ++ x :: B ∧ l' = A ++ y :: B ∧ A.length = i
  | [], i, y, l', h => by simp [setN] at h
  | x :: r, 0, y, l', h => by simp only [setN, Option.some.injEq] at h; exact ⟨[], x, r, rfl, h.symm, rfl⟩
  | x :: r, i + 1, y, l', h => by
    simp only [setN] at h
    cases hr : setN r i y with
    | none => rw [hr] at h; cases h
    | some r' =>
      rw [hr] at h
      simp only [Option.some.injEq] at h
      obtain ⟨A, z, B, h1, h2, h3⟩ := setN_spec r i y r' hr
      exact ⟨x :: A, z, B, by rw [h1]; rfl, by rw [← h, h2]; rfl, by simp [h3]⟩

theorem setN_get {α : Type} {l l' : List α} {i : Nat} {y o : α} (h : setN l i y = some l') (hg : getN l i = some o) :
    ∃ A B, l = A ++ o :: B ∧ l' = A ++ y :: B := by
  obtain ⟨A, x, B, rfl, h2, h3⟩ := setN_spec _ _ _ _ h
  rw [getN_eq] at hg
  rw [List.getElem?_append_right (by omega), h3, Nat.sub_self] at hg
  simp only [List.getElem?_cons_zero, Option.some.injEq] at hg
  subst hg
  exact ⟨A, B, rfl, h2⟩

/-- cells written over others -/
def putN : List Value → Nat → List Value → Option (List Value)
  | c, _, [] => some c
  | [], _, _ :: _ => none
  | _ :: r, 0, v :: vs => match putN r 0 vs with
    | some r' => some (v :: r')
    | none => none
  | x :: r, i + 1, v :: vs => match putN r i (v :: vs) with
    | some r' => some (x :: r')
    | none => none

theorem putN_spec : ∀ (c : List Value) (i : Nat) (vs c' : List Value), putN c i vs = some c' → vs ≠ [] → i + vs.length ≤ c.length ∧ c' = c.take i ++ vs ++ c.drop (i + vs.length)
  | c, i, [], c', h, hne => absurd rfl hne
  | [], i, v :: vs, c', h, _ => by simp [putN] at h
  | x :: r, 0, [v], c', h, _ => by
    have : c' = v :: r := by cases r <;> simp [putN] at h <;> exact h.symm
    subst this; simp
  | x :: r, 0, v :: u :: vs, c', h, _ => by
    simp only [putN] at h
    cases hr : putN r 0 (u :: vs) with
    | none => rw [hr] at h; cases h
    | some r' =>
      rw [hr] at h
      simp only [Option.some.injEq] at h
      obtain ⟨h1, h2⟩ := putN_spec r 0 (u :: vs) r' hr (by simp)
      subst h
      simp only [List.length_cons] at *
      refine ⟨by omega, ?_⟩
      rw [h2]
      simp [Nat.add_comm, Nat.add_left_comm]
  | x :: r, i + 1, v :: vs, c', h, _ => by
    simp only [putN] at h
    cases hr : putN r i (v :: vs) with
    | none => rw [hr] at h; cases h
    | some r' =>
      rw [hr] at h
      simp only [Option.some.injEq] at h
      obtain ⟨h1, h2⟩ := putN_spec r i (v :: vs) r' hr (by simp)
      subst h
      refine ⟨by simp only [List.length_cons] at *; omega, ?_⟩
      rw [h2]
      have : i + 1 + (v :: vs).length = (i + (v :: vs).length) + 1 := by omega
      rw [this]; simp

/-- cells cut out -/
def subN : List Value → Nat → Nat → Option (List Value)
  | _, _, 0 => some []
  | [], _, _ + 1 => none
  | x :: r, 0, m + 1 => match subN r 0 m with
    | some r' => some (x :: r')
    | none => none
  | _ :: r, i + 1, m + 1 => subN r i (m + 1)

theorem subN_spec : ∀ (c : List Value) (i m : Nat) (c' : List Value), subN c i m = some c' → m ≠ 0 → i + m ≤ c.length ∧ c' = (c.drop i).take m
  | c, i, 0, c', h, hne => absurd rfl hne
  | [], i, m + 1, c', h, _ => by simp [subN] at h
  | x :: r, 0, 1, c', h, _ => by
    have : c' = [x] := by cases r <;> simp [subN] at h <;> exact h.symm
    subst this; simp
  | x :: r, 0, m + 2, c', h, _ => by
    simp only [subN] at h
    cases hr : subN r 0 (m + 1) with
    | none => rw [hr] at h; cases h
    | some r' =>
      rw [hr] at h
      simp only [Option.some.injEq] at h
      obtain ⟨h1, h2⟩ := subN_spec r 0 (m + 1) r' hr (by simp)
      subst h
      refine ⟨by simp only [List.length_cons] at *; omega, ?_⟩
      rw [h2]; simp
  | x :: r, i + 1, m + 1, c', h, _ => by
    simp only [subN] at h
    obtain ⟨h1, h2⟩ := subN_spec r i (m + 1) c' h (by simp)
    refine ⟨by simp only [List.length_cons] at *; omega, ?_⟩
    rw [h2]; simp

theorem add_addr {a : Addr} (h : a.spot = none) (j : Nat) : a.add j = ⟨a.block, a.off + j, none⟩ := by
  unfold Addr.add
  split
  · rename_i e; subst e; cases a; simp only at h; subst h; rfl
  · rfl

theorem add_new (b o j : Nat) : (⟨b, o, none⟩ : Addr).add j = ⟨b, o + j, none⟩ := add_addr rfl j

theorem Rd.cells {N : List Nat} {w : World} {A : Addr} {cs : List Value} (h : Rd N w (some A) cs) : ∀ j v, cs[j]? = some v → w.cell? (A.add j) = some v := by
  intro j v hj
  have hlt : j < cs.length := by
    rcases Nat.lt_or_ge j cs.length with h | h
    · exact h
    · rw [List.getElem?_eq_none h] at hj; cases hj
  obtain ⟨a, h1, h2, _, h4⟩ := h j hlt
  simp only [Option.some.injEq] at h1
  subst h1
  rw [add_addr h2, h4, ← hj, List.getElem?_eq_getElem hlt]

theorem bl_alloc (w : World) (o : Obj) : Bl w (w.alloc o) := (Go.RowKit.Below.refl _ _).alloc (Nat.le_refl _) o
theorem bl_drew (w : World) : Bl w w.drew := (Go.RowKit.Below.refl _ _).drew

section op
variable {P : Program} {R : Qp} {ds : List Deferred} {n : Nat} {l : Env} {k : List KI} {w w0 : World} {ops : Array Oper} {os : List Oper}
variable {d : Nat} {G gx gy ex ey : Gs} {ty : TypeId} {ps : String} {af : Array Edge} {gu : Option (Nat × Bool)} {x y : Operand} {N0 : List Nat} {L L' : List Own}

theorem St.newVar (S : St N0 w0 L w) (T : TypeId) (c : List Value) : St N0 w0 (.var w.heap.size T c :: L) (w.alloc (.cells c.toArray T)) :=
  S.new (bl_alloc w _) (heap_alloc_new w _) (by simp [Own.ids]) (by simp [Own.ids])

theorem alc {T : TypeId} {sz : Nat} {ag : Bool} {c : List Value} (hT : TyI P T sz ag c) (S : St N0 w0 L w) (hn : Nat.blt d n = true)
    (h : ∀ b w', w.heap.size ≤ b → St N0 w0 (.var b T c :: L) w' → Bl w w' → Ro P R ds n ops ((d, [], .pointer (some ⟨b, 0, none⟩)) :: l) os k w') :
    Ro P R ds n ops l ({ dst := some d, op := .alloc T, type := ty, pos := ps, after := af, guard := none } :: os) k w := by
  obtain ⟨i, z, dd, h1, h2, h3, h4, _, _⟩ := hT.get
  refine opw (w' := w.alloc (.cells c.toArray T)) rfl rfl hn ?_ (h _ _ (Nat.le_refl _) (S.newVar T c) (bl_alloc w _))
  intro a _
  have : z.cells = c.toArray := by rw [← h4]
  simp [execOp, Instr.alloc, zeroValue, typeInfo, h1, h3, newVar, newRow, this]

theorem boxA {T : TypeId} {c : List Value} (hx : ev l x = some ([], .agg c.toArray)) (S : St N0 w0 L w) (hn : Nat.blt d n = true)
    (h : ∀ b w', w.heap.size ≤ b → St N0 w0 (.var b T c :: L) w' → Bl w w' → Ro P R ds n ops ((d, [], .pointer (some ⟨b, 0, none⟩)) :: l) os k w') :
    Ro P R ds n ops l ({ dst := some d, op := .box T x, type := ty, pos := ps, after := af, guard := none } :: os) k w := by
  refine opw (w' := w.alloc (.cells c.toArray T)) rfl rfl hn ?_ (h _ _ (Nat.le_refl _) (S.newVar T c) (bl_alloc w _))
  intro a ha
  simp [execOp, Instr.box, newVar, newRow, ha.eval hx trivial, Value.cells]

theorem cells_one {v : Value} (h : v.oneCell' = true) : v.cells = #[v] := by cases v <;> first | rfl | cases h

theorem boxS {T : TypeId} {v : Value} (hx : ev l x = some ([], v)) (h1 : v.oneCell' = true) (S : St N0 w0 L w) (hn : Nat.blt d n = true)
    (h : ∀ b w', w.heap.size ≤ b → St N0 w0 (.var b T [v] :: L) w' → Bl w w' → Ro P R ds n ops ((d, [], .pointer (some ⟨b, 0, none⟩)) :: l) os k w') :
    Ro P R ds n ops l ({ dst := some d, op := .box T x, type := ty, pos := ps, after := af, guard := none } :: os) k w := by
  refine opw (w' := w.alloc (.cells [v].toArray T)) rfl rfl hn ?_ (h _ _ (Nat.le_refl _) (S.newVar T [v]) (bl_alloc w _))
  intro a ha
  simp [execOp, Instr.box, newVar, newRow, ha.eval hx trivial, cells_one h1]

theorem St.var {b : Nat} {T : TypeId} {c : List Value} (S : St N0 w0 L w) {i : Nat} (hk : getN L i = some (.var b T c)) : w.heap[b]? = some (.cells c.toArray T (0, 0)) := by
  rw [getN_eq] at hk
  exact S.hold _ (List.mem_of_getElem? hk)

theorem cellsLoad {b off : Nat} {T : TypeId} {c cs : List Value} (hh : w.heap[b]? = some (.cells c.toArray T (0, 0))) (hc : subN c off cs.length = some cs) (h0 : cs.length ≠ 0) :
    ∀ j v, cs[j]? = some v → w.cell? ((⟨b, off, none⟩ : Addr).add j) = some v := by
  obtain ⟨h1, h2⟩ := subN_spec _ _ _ _ hc h0
  intro j v hj
  rw [add_new, cell_of_row w b (off + j) _ _ _ hh]
  have hlt : j < cs.length := by
    rcases Nat.lt_or_ge j cs.length with h | h
    · exact h
    · rw [List.getElem?_eq_none h] at hj; cases hj
  rw [← hj]
  conv => rhs; rw [h2]
  rw [List.getElem?_take, if_pos hlt, List.getElem?_drop]
  simp

/-- one cell of a block of one's own -/
theorem ld1 {T : TypeId} {sz : Nat} {zc : List Value} {b off i : Nat} {T' : TypeId} {c : List Value} {v : Value} (hx : ev l x = some (gx, .pointer (some ⟨b, off, none⟩))) (hT : TyI P T sz false zc)
    (S : St N0 w0 L w) (hk : getN L i = some (.var b T' c)) (hv : getN c off = some v) (hG : gd ops l gu = some G) (hpx : G = gx ++ ex) (hn : Nat.blt d n = true)
    (h : Ro P R ds n ops ((d, G, v) :: l) os k w) :
    Ro P R ds n ops l ({ dst := some d, op := .load T x, type := ty, pos := ps, after := af, guard := gu } :: os) k w := by
  obtain ⟨i, z, dd, h1, h2, h3, h4, h5, h6⟩ := hT.get
  refine opv hG rfl hn ?_ h
  intro hT' a ha
  have hc : w.cell? ⟨b, off, none⟩ = some v := by
    rw [cell_of_row w b off _ _ _ (S.var hk), ← hv, getN_eq]; simp
  simp only [execOp, ha.eval hx (pre_T hpx hT'), Instr.loadAt, Instr.sureAddr, loadVar, isAgg]
  cases dd <;> simp [aggD] at h6 <;> simp [run_underlying h5, hc]

/-- several cells of a block of one's own -/
theorem ldA {T : TypeId} {sz : Nat} {zc : List Value} {b off i : Nat} {T' : TypeId} {c cs : List Value} (hx : ev l x = some (gx, .pointer (some ⟨b, off, none⟩))) (hT : TyI P T sz true zc)
    (S : St N0 w0 L w) (hk : getN L i = some (.var b T' c)) (hv : subN c off sz = some cs) (hl : cs.length = sz) (h0 : sz ≠ 0) (hG : gd ops l gu = some G) (hpx : G = gx ++ ex) (hn : Nat.blt d n = true)
    (h : Ro P R ds n ops ((d, G, .agg cs.toArray) :: l) os k w) :
    Ro P R ds n ops l ({ dst := some d, op := .load T x, type := ty, pos := ps, after := af, guard := gu } :: os) k w := by
  obtain ⟨i, z, dd, h1, h2, h3, h4, h5, h6⟩ := hT.get
  refine opv hG rfl hn ?_ h
  intro hT' a ha
  subst hl
  have hl := run_loadCells_list (P := P) (w := w) ⟨b, off, none⟩ cs (cellsLoad (S.var hk) hv h0)
  simp only [execOp, ha.eval hx (pre_T hpx hT'), Instr.loadAt, Instr.sureAddr, loadVar, isAgg]
  cases dd <;> simp [aggD] at h6 <;> simp [run_underlying h5, sizeOf, typeInfo, h1, h2, hl]

/-- all cells of a block of one's own -/
theorem ldW {T : TypeId} {sz : Nat} {zc : List Value} {b i : Nat} {T' : TypeId} {c : List Value} (hx : ev l x = some (gx, .pointer (some ⟨b, 0, none⟩))) (hT : TyI P T sz true zc)
    (S : St N0 w0 L w) (hk : getN L i = some (.var b T' c)) (hl : c.length = sz) (hG : gd ops l gu = some G) (hpx : G = gx ++ ex) (hn : Nat.blt d n = true)
    (h : Ro P R ds n ops ((d, G, .agg c.toArray) :: l) os k w) :
    Ro P R ds n ops l ({ dst := some d, op := .load T x, type := ty, pos := ps, after := af, guard := gu } :: os) k w := by
  obtain ⟨i, z, dd, h1, h2, h3, h4, h5, h6⟩ := hT.get
  refine opv hG rfl hn ?_ h
  intro hT' a ha
  subst hl
  have hl := run_loadCells_list (P := P) (w := w) ⟨b, 0, none⟩ c (fun j v hj => by
    rw [add_new, cell_of_row w b (0 + j) _ _ _ (S.var hk), ← hj]; simp)
  simp only [execOp, ha.eval hx (pre_T hpx hT'), Instr.loadAt, Instr.sureAddr, loadVar, isAgg]
  cases dd <;> simp [aggD] at h6 <;> simp [run_underlying h5, sizeOf, typeInfo, h1, h2, hl]

theorem setRow_keep (g : Nat) (cs : Array Value) (i : Nat) (h : i ≠ g) : (w.setRow g cs).heap[i]? = w.heap[i]? := by
  simp only [World.setRow, Array.getElem?_modify]
  rw [if_neg (by omega)]

theorem setRow_at {g : Nat} {cur cs : Array Value} {t : TypeId} (hg : w.heap[g]? = some (.cells cur t (0, 0))) : (w.setRow g cs).heap[g]? = some (.cells cs t (0, 0)) := by
  simp [World.setRow, Array.getElem?_modify, hg]

theorem St.put {b i : Nat} {T' : TypeId} {c c' : List Value} (S : St N0 w0 L w) (hk : getN L i = some (.var b T' c)) (hL : setN L i (.var b T' c') = some L') :
    St N0 w0 L' (w.setRow b c'.toArray) := by
  obtain ⟨A, B, rfl, rfl⟩ := setN_get hL hk
  refine S.turn rfl rfl rfl (by simp) ?_ (setRow_at (S.var hk)) ?_
  · intro j _ hj; exact setRow_keep _ _ _ (by simpa [Own.ids] using hj)
  · intro j hj; exact .inl hj

theorem storeRun {T : TypeId} {sz : Nat} {ag : Bool} {zc : List Value} (hT : TyI P T sz ag zc) {b off : Nat} {T' : TypeId} {c c' vs : List Value} {v : Value} (hv : v.cells.toList = vs) (hh : w.heap[b]? = some (.cells c.toArray T' (0, 0)))
    (hc : putN c off vs = some c') (h1 : ∀ u ∈ vs, u.oneCell' = true) (hl : vs.length = sz) (h0 : sz ≠ 0) :
    (storeVar T ⟨b, off, none⟩ v).run P w = .ok () (w.setRow b c'.toArray) := by
  obtain ⟨i, z, dd, g1, g2, _⟩ := hT.get
  have hne : vs ≠ [] := by intro e; subst e; simp at hl; omega
  obtain ⟨h2, h3⟩ := putN_spec _ _ _ _ hc hne
  have hst := run_storeCells_at P b off T' vs 0 c.toArray w hh (by simpa using h2) h1
  have hsz : v.cells.size = i.size := by rw [g2, ← hl, ← hv]; simp
  simp only [storeVar, sizeOf, typeInfo]
  simp only [Sem.run_bind, run_program, Result.andThen_ok, g1, Sem.run_pure, hsz, hv]
  simp only [ne_eq, not_true_eq_false, if_false, Sem.run_bind, Sem.run_pure, Result.andThen_ok]
  simp only [Nat.add_zero] at hst
  rw [hst, h3]

/-- a store of one cell -/
theorem st1 {T : TypeId} {zc : List Value} {ag : Bool} {b off i : Nat} {T' : TypeId} {c c' : List Value} {v : Value} (hx : ev l x = some ([], .pointer (some ⟨b, off, none⟩))) (hy : ev l y = some ([], v))
    (hT : TyI P T 1 ag zc) (h1 : v.oneCell' = true) (S : St N0 w0 L w) (hk : getN L i = some (.var b T' c)) (hc : putN c off [v] = some c') (hL : setN L i (.var b T' c') = some L')
    (h : ∀ w', St N0 w0 L' w' → Ro P R ds n ops l os k w') :
    Ro P R ds n ops l ({ dst := none, op := .store T x y, type := ty, pos := ps, after := af, guard := none } :: os) k w := by
  refine opu rfl rfl ?_ (h _ (S.put hk hL))
  intro a ha
  simp only [execOp, ha.eval hx trivial, ha.eval hy trivial, Instr.storeAt, Instr.sureAddr, Sem.run_bind, Sem.run_pure, Result.andThen_ok]
  rw [storeRun hT (vs := [v]) (by rw [cells_one h1]) (S.var hk) hc (by simpa using h1) rfl (by simp)]
  rfl

/-- a store of several cells -/
theorem stA {T : TypeId} {sz : Nat} {zc : List Value} {ag : Bool} {b off i : Nat} {T' : TypeId} {c c' vs : List Value} (hx : ev l x = some ([], .pointer (some ⟨b, off, none⟩))) (hy : ev l y = some ([], .agg vs.toArray))
    (hT : TyI P T sz ag zc) (hl : vs.length = sz) (h0 : sz ≠ 0) (h1 : ∀ u ∈ vs, u.oneCell' = true) (S : St N0 w0 L w) (hk : getN L i = some (.var b T' c)) (hc : putN c off vs = some c') (hL : setN L i (.var b T' c') = some L')
    (h : ∀ w', St N0 w0 L' w' → Ro P R ds n ops l os k w') :
    Ro P R ds n ops l ({ dst := none, op := .store T x y, type := ty, pos := ps, after := af, guard := none } :: os) k w := by
  refine opu rfl rfl ?_ (h _ (S.put hk hL))
  intro a ha
  simp only [execOp, ha.eval hx trivial, ha.eval hy trivial, Instr.storeAt, Instr.sureAddr, Sem.run_bind, Sem.run_pure, Result.andThen_ok]
  rw [storeRun hT (vs := vs) (by simp [Value.cells]) (S.var hk) hc h1 hl h0]
  rfl

/-- a store over a whole block -/
theorem stW {T : TypeId} {sz : Nat} {zc : List Value} {ag : Bool} {b i : Nat} {T' : TypeId} {c vs : List Value} (hx : ev l x = some ([], .pointer (some ⟨b, 0, none⟩))) (hy : ev l y = some ([], .agg vs.toArray))
    (hT : TyI P T sz ag zc) (hl : vs.length = sz) (hlc : c.length = sz) (h1 : ∀ u ∈ vs, u.oneCell' = true) (S : St N0 w0 L w) (hk : getN L i = some (.var b T' c)) (hL : setN L i (.var b T' vs) = some L')
    (h : ∀ w', St N0 w0 L' w' → Ro P R ds n ops l os k w') :
    Ro P R ds n ops l ({ dst := none, op := .store T x y, type := ty, pos := ps, after := af, guard := none } :: os) k w := by
  refine opu rfl rfl ?_ (h _ (S.put hk hL))
  intro a ha
  obtain ⟨i, z, dd, g1, g2, _⟩ := hT.get
  have hst := run_storeCells_at P b 0 T' vs 0 c.toArray w (S.var hk) (by simp [hl, hlc]) h1
  simp only [Nat.add_zero] at hst
  have e : (List.take 0 c.toArray.toList ++ vs ++ List.drop (0 + vs.length) c.toArray.toList).toArray = vs.toArray := by
    have : List.drop (0 + vs.length) c.toArray.toList = [] := List.drop_eq_nil_of_le (by simp; omega)
    rw [this]; simp
  rw [e] at hst
  simp [execOp, ha.eval hx trivial, ha.eval hy trivial, Instr.storeAt, Instr.sureAddr, storeVar, sizeOf, typeInfo, g1, g2, Value.cells, hl, hst]

/-- a field's place -/
def fldO (P : Program) (T : TypeId) (f : Nat) : Option Nat :=
  match P.underlying T with
  | some (.struct fs) => match fs[f]? with
    | some fi => match P.info? fi.type with
      | some i => if i.size = 0 then none else some fi.offset
      | none => none
    | none => none
  | _ => none

theorem fldO_spec {T : TypeId} {f o : Nat} (h : fldO P T f = some o) {a : Addr} (ha : a.spot = none) :
    (Instr.fieldAt T (.pointer (some a)) f).run P w = .ok (.pointer (some ⟨a.block, a.off + o, none⟩)) w := by
  unfold fldO at h
  cases hu : P.underlying T with
  | none => rw [hu] at h; cases h
  | some u =>
    rw [hu] at h
    cases u with
    | struct fs =>
      simp only at h
      cases hf : fs[f]? with
      | none => rw [hf] at h; cases h
      | some fi =>
        rw [hf] at h
        simp only at h
        cases hi : P.info? fi.type with
        | none => rw [hi] at h; cases h
        | some i =>
          rw [hi] at h
          simp only at h
          split at h
          · cases h
          · rename_i hz
            simp only [Option.some.injEq] at h
            subst h
            simp [Instr.fieldAt, run_underlying hu, hf, Instr.sureAddr, fieldPlace, sizeOf, typeInfo, hi, hz, add_addr ha]
    | _ => cases h

theorem fld {T : TypeId} {f o o' : Nat} {b off : Nat} (hx : ev l x = some (gx, .pointer (some ⟨b, off, none⟩))) (hf : fldO P T f = some o) (ho : off + o = o') (hG : gd ops l gu = some G) (hpx : G = gx ++ ex) (hn : Nat.blt d n = true)
    (h : Ro P R ds n ops ((d, G, .pointer (some ⟨b, o', none⟩)) :: l) os k w) :
    Ro P R ds n ops l ({ dst := some d, op := .fieldAddr T x f, type := ty, pos := ps, after := af, guard := gu } :: os) k w := by
  subst ho
  refine opv hG rfl hn ?_ h
  intro hT a ha
  simp only [execOp, ha.eval hx (pre_T hpx hT)]
  rw [Sem.run_bind, fldO_spec hf rfl]; rfl

theorem nilc {p : Addr} (hx : ev l x = some (gx, .pointer (some p))) (hG : gd ops l gu = some G) (hpx : G = gx ++ ex) (hn : Nat.blt d n = true)
    (h : Ro P R ds n ops ((d, G, .pointer (some p)) :: l) os k w) :
    Ro P R ds n ops l ({ dst := some d, op := .nilCheck x, type := ty, pos := ps, after := af, guard := gu } :: os) k w := by
  refine opv hG rfl hn ?_ h
  intro hT a ha
  simp only [execOp, ha.eval hx (pre_T hpx hT)]
  rfl

/-! ### slices -/
theorem lenS {T E : TypeId} {sz m : Nat} {v : Value} {cs : List Value} (hx : ev l x = some (gx, v)) (hS : Sl N0 w0 sz v m cs) (hT : P.underlying T = some (.slice E)) (hG : gd ops l gu = some G) (hpx : G = gx ++ ex) (hn : Nat.blt d n = true)
    (h : Ro P R ds n ops ((d, G, .int .i64 m) :: l) os k w) :
    Ro P R ds n ops l ({ dst := some d, op := .call { callee := .builtin .len, args := #[x], argTypes := #[T] }, type := ty, pos := ps, after := af, guard := gu } :: os) k w := by
  obtain ⟨_, A, cap, rfl, _⟩ := hS
  refine opv hG rfl hn ?_ h
  intro hT' a ha
  simp [execOp, resolve, invoke, builtin, Builtin.len_, ha.eval hx (pre_T hpx hT'), run_underlying hT, goInt]

/-- the address of a cell of a slice -/
def eP : Value → Nat → Value
  | .slice (some a) _ _, j => .pointer (some ⟨a.block, a.off + j, none⟩)
  | _, _ => undef

theorem Sl.some {sz m : Nat} {v : Value} {cs : List Value} (hS : Sl N0 w0 sz v m cs) {j : Nat} (hj : j < cs.length) : ∃ a cap, v = .slice (some a) m cap ∧ a.spot = none ∧ eP v j = .pointer (some ⟨a.block, a.off + j, none⟩) ∧
    w0.cell? ⟨a.block, a.off + j, none⟩ = some cs[j] ∧ a.block ∉ N0 := by
  obtain ⟨_, A, cap, rfl, _, _, h⟩ := hS
  obtain ⟨a, rfl, h2, h3, h4⟩ := h j hj
  exact ⟨a, cap, rfl, h2, rfl, h4, h3⟩

theorem lt_mul {i m sz : Nat} (h : i < m) (hp : 0 < sz) : i * sz < m * sz := Nat.mul_lt_mul_of_pos_right h hp

theorem ixa {T E : TypeId} {sz by_ m : Nat} {zc : List Value} {v : Value} {cs : List Value} {kd : IntKind} {i : Int} (hx : ev l x = some (gx, v)) (hy : ev l y = some (gy, .int kd i)) (hS : Sl N0 w0 sz v m cs) (hE : ElT P T E sz by_ zc)
    (hG : gd ops l gu = some G) (hpx : G = gx ++ ex) (hpy : G = gy ++ ey) (hn : Nat.blt d n = true) (hb : allT G → 0 ≤ i ∧ i < m)
    (h : Ro P R ds n ops ((d, G, eP v (i.toNat * sz)) :: l) os k w) :
    Ro P R ds n ops l ({ dst := some d, op := .indexAddr T x y, type := ty, pos := ps, after := af, guard := gu } :: os) k w := by
  refine opv hG rfl hn ?_ h
  intro hT a ha
  obtain ⟨i1, z, g1, g2, g3, g4, g5⟩ := hE.get
  have hb' := hb hT
  have hj : i.toNat * sz < cs.length := by
    rw [hS.1]
    exact lt_mul (by omega) hE.p
  obtain ⟨A, cap, rfl, hsp, he, _⟩ := hS.some hj
  simp only [execOp, ha.eval hx (pre_T hpx hT), ha.eval hy (pre_T hpy hT)]
  rw [he]
  simp [Instr.indexAt, asIntOf, run_underlying hE.u, hb'.1, hb'.2, sizeOf, typeInfo, g1, g2, add_addr hsp]

theorem flE {T : TypeId} {f o sz m j : Nat} {v : Value} {cs : List Value} (hx : ev l x = some (gx, eP v j)) (hS : Sl N0 w0 sz v m cs) (hf : fldO P T f = some o) (hG : gd ops l gu = some G) (hpx : G = gx ++ ex) (hn : Nat.blt d n = true)
    (hj : allT G → j < cs.length) (h : Ro P R ds n ops ((d, G, eP v (j + o)) :: l) os k w) :
    Ro P R ds n ops l ({ dst := some d, op := .fieldAddr T x f, type := ty, pos := ps, after := af, guard := gu } :: os) k w := by
  refine opv hG rfl hn ?_ h
  intro hT a ha
  obtain ⟨A, cap, rfl, hsp, he, _⟩ := hS.some (hj hT)
  simp only [execOp, ha.eval hx (pre_T hpx hT), he]
  rw [Sem.run_bind, fldO_spec hf rfl]
  simp [eP, Nat.add_assoc]

theorem ldE {T : TypeId} {sz tsz m j : Nat} {zc : List Value} {v u : Value} {cs : List Value} (hx : ev l x = some (gx, eP v j)) (hS : Sl N0 w0 sz v m cs) (S : St N0 w0 L w) (hT : TyI P T tsz false zc) (hG : gd ops l gu = some G) (hpx : G = gx ++ ex) (hn : Nat.blt d n = true)
    (hv : allT G → cs[j]? = some u) (h : Ro P R ds n ops ((d, G, u) :: l) os k w) :
    Ro P R ds n ops l ({ dst := some d, op := .load T x, type := ty, pos := ps, after := af, guard := gu } :: os) k w := by
  obtain ⟨i, z, dd, h1, h2, h3, h4, h5, h6⟩ := hT.get
  refine opv hG rfl hn ?_ h
  intro hT' a ha
  have hu := hv hT'
  have hj : j < cs.length := by
    rcases Nat.lt_or_ge j cs.length with h | h
    · exact h
    · rw [List.getElem?_eq_none h] at hu; cases hu
  obtain ⟨A, cap, rfl, hsp, he, hc, hb⟩ := hS.some hj
  have hc' : w.cell? ⟨A.block, A.off + j, none⟩ = some u := by
    rw [cell_congr (w := w0) (S.keep _ (cell_lt hc) hb), hc, ← hu, List.getElem?_eq_getElem hj]
  simp only [execOp, ha.eval hx (pre_T hpx hT'), he, Instr.loadAt, Instr.sureAddr, loadVar, isAgg]
  cases dd <;> simp [aggD] at h6 <;> simp [run_underlying h5, hc']

/-- a struct read out of a slice -/
theorem ldEA {T : TypeId} {sz m j tsz : Nat} {zc : List Value} {v : Value} {cs us : List Value} (hx : ev l x = some (gx, eP v j)) (hS : Sl N0 w0 sz v m cs) (S : St N0 w0 L w) (hT : TyI P T tsz true zc) (hG : gd ops l gu = some G) (hpx : G = gx ++ ex) (hn : Nat.blt d n = true)
    (h0 : tsz ≠ 0) (hl : us.length = tsz) (hv : allT G → j + tsz ≤ cs.length ∧ (cs.drop j).take tsz = us) (h : Ro P R ds n ops ((d, G, .agg us.toArray) :: l) os k w) :
    Ro P R ds n ops l ({ dst := some d, op := .load T x, type := ty, pos := ps, after := af, guard := gu } :: os) k w := by
  obtain ⟨i, z, dd, h1, h2, h3, h4, h5, h6⟩ := hT.get
  refine opv hG rfl hn ?_ h
  intro hT' a ha
  obtain ⟨hlen, hus⟩ := hv hT'
  obtain ⟨A, cap, hve, hsp, he, _, _⟩ := hS.some (j := j) (by omega)
  have hcs : ∀ q u, us[q]? = some u → w.cell? ((⟨A.block, A.off + j, none⟩ : Addr).add q) = some u := by
    intro q u hq
    have hqlt : q < us.length := by
      rcases Nat.lt_or_ge q us.length with h | h
      · exact h
      · rw [List.getElem?_eq_none h] at hq; cases hq
    obtain ⟨A', cap', hve', hsp', he', hc', hb'⟩ := hS.some (j := j + q) (by omega)
    rw [hve] at hve'
    simp only [Value.slice.injEq, Option.some.injEq] at hve'
    obtain ⟨rfl, _⟩ := hve'
    rw [add_new, Nat.add_assoc, cell_congr (w := w0) (S.keep _ (cell_lt hc') hb'), hc', ← hq]
    have e : us[q]? = ((cs.drop j).take tsz)[q]? := by rw [hus]
    rw [e, List.getElem?_take, if_pos (by omega), List.getElem?_drop, List.getElem?_eq_getElem (by omega)]
  have hl' := run_loadCells_list (P := P) (w := w) ⟨A.block, A.off + j, none⟩ us hcs
  rw [hl] at hl'
  simp only [execOp, ha.eval hx (pre_T hpx hT'), he, Instr.loadAt, Instr.sureAddr, loadVar, isAgg]
  cases dd <;> simp [aggD] at h6 <;> simp [run_underlying h5, sizeOf, typeInfo, h1, h2, hl']

theorem St.rowI {v : Value} {T : TypeId} {sz m : Nat} {xs : List Value} (S : St N0 w0 L w) {i : Nat} (hk : getN L i = some (.row v T sz m xs)) : w.ownsRow 0 T sz v m xs := by
  rw [getN_eq] at hk
  exact S.hold _ (List.mem_of_getElem? hk)
theorem St.slI {v : Value} {T : TypeId} {sz m : Nat} {xs : List Value} (S : St N0 w0 L w) {i : Nat} (hk : getN L i = some (.row v T sz m xs)) : Sl [] w sz v m xs := by
  rw [getN_eq] at hk
  exact S.sl (List.mem_of_getElem? hk)

/-- a cell of one's own slice is written -/
theorem stE {T T' : TypeId} {zc : List Value} {ag : Bool} {sz m j i : Nat} {v u : Value} {xs : List Value} (hx : ev l x = some ([], eP v j)) (hy : ev l y = some ([], u)) (hT : TyI P T 1 ag zc) (h1 : u.oneCell' = true) (S : St N0 w0 L w)
    (hk : getN L i = some (.row v T' sz m xs)) (hj : j < m * sz) (hL : setN L i (.row v T' sz m (xs.set j u)) = some L')
    (h : ∀ w', St N0 w0 L' w' → Ro P R ds n ops l os k w') :
    Ro P R ds n ops l ({ dst := none, op := .store T x y, type := ty, pos := ps, after := af, guard := none } :: os) k w := by
  obtain ⟨hlen, ho⟩ := S.rowI hk
  rcases ho with ⟨rfl, rfl⟩ | ⟨b, cap, c, rfl, _, hh, hm, hcm, hs, ht⟩
  · omega
  have hjc : j < c.size := by
    have : m * sz ≤ cap * sz := Nat.mul_le_mul_right _ hm
    omega
  obtain ⟨ii, z, dd, g1, g2, _⟩ := hT.get
  have hst := run_storeCells_at P b j T' [u] 0 c w hh (by simp; omega) (by simpa using h1)
  simp only [Nat.add_zero] at hst
  obtain ⟨A, B, rfl, rfl⟩ := setN_get hL hk
  refine opu (w' := w.setRow b (c.toList.take j ++ [u] ++ c.toList.drop (j + [u].length)).toArray) rfl rfl ?_ (h _ ?_)
  · intro a ha
    have he : eP (.slice (some ⟨b, 0, none⟩) m cap) j = .pointer (some ⟨b, j, none⟩) := by simp [eP]
    simp [execOp, ha.eval hx trivial, he, ha.eval hy trivial, Instr.storeAt, Instr.sureAddr, storeVar, sizeOf, typeInfo, g1, g2, cells_one h1, hst]
  · refine S.turn rfl rfl rfl (by simp) ?_ ?_ ?_
    · intro q _ hq; exact setRow_keep _ _ _ (by simpa [Own.ids] using hq)
    · refine ⟨by simp [hlen], .inr ⟨b, cap, _, rfl, Nat.zero_le _, setRow_at hh, hm, hcm, ?_, ?_⟩⟩
      · simp only [List.size_toArray, List.length_append, List.length_take, List.length_drop, Array.length_toList, List.length_cons, List.length_nil]
        omega
      · rw [← ht]
        have e : (c.toList.take j ++ [u] ++ c.toList.drop (j + [u].length)) = c.toList.set j u := by
          rw [List.set_eq_take_append_cons_drop, if_pos (by simpa using hjc)]
          simp
        simp only [e, List.take_set]
    · intro q hq; exact .inl hq

end op
end Go.Proofs.YtkahmepenjhcpaaDoor.W
