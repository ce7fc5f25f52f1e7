/- The base of this seat's proofs, tenth part: addresses compared, arrays written. No statement of the seat is proved here. -/
import Derived.Test.YtkahmepenjhcpaaDoorFh
namespace Go.Proofs.YtkahmepenjhcpaaDoor.W
open Go
set_option linter.unusedSimpArgs false

def arrC (f : Nat → Int) : List Value := [u8 (f 0), u8 (f 1), u8 (f 2), u8 (f 3), u8 (f 4), u8 (f 5), u8 (f 6), u8 (f 7), u8 (f 8), u8 (f 9), u8 (f 10), u8 (f 11), u8 (f 12), u8 (f 13), u8 (f 14), u8 (f 15)]
theorem arrC_at (f : Nat → Int) : ∀ i, i < 16 → (arrC f)[i]? = some (u8 (f i))
  | 0, _ => rfl | 1, _ => rfl | 2, _ => rfl | 3, _ => rfl | 4, _ => rfl | 5, _ => rfl | 6, _ => rfl | 7, _ => rfl
  | 8, _ => rfl | 9, _ => rfl | 10, _ => rfl | 11, _ => rfl | 12, _ => rfl | 13, _ => rfl | 14, _ => rfl | 15, _ => rfl
  | n + 16, h => by omega
theorem encIP_at (x : IP) : ∀ i, i < 16 → (encIP x)[1 + i]? = some (u8 (x.a i))
  | 0, _ => rfl | 1, _ => rfl | 2, _ => rfl | 3, _ => rfl | 4, _ => rfl | 5, _ => rfl | 6, _ => rfl | 7, _ => rfl
  | 8, _ => rfl | 9, _ => rfl | 10, _ => rfl | 11, _ => rfl | 12, _ => rfl | 13, _ => rfl | 14, _ => rfl | 15, _ => rfl
  | n + 16, h => by omega

theorem agg5 (w : World) : (isAgg 5).run Tryd.prog w = .ok false w := by kernel_rfl
theorem cells5 : Tryd.prog.cellsOf 5 = 1 := by kernel_rfl
theorem part_arr (f : Nat → Int) (w : World) {i : Nat} (h : i < 16) : (part 5 (arrC f).toArray (i * 1)).run Tryd.prog w = .ok (u8 (f i)) w := by
  have := arrC_at f i h
  simp [part, agg5, this]

def sameA (f g : Nat → Int) : Bool := (List.range 16).all fun i => decide (f i = g i)
theorem sameA_iff {f g : Nat → Int} : sameA f g = true ↔ ∀ i, i < 16 → f i = g i := by simp [sameA]

theorem items_arr (f g : Nat → Int) (w : World) (d : Nat) : ∀ is : List Nat, (∀ i ∈ is, i < 16) → (Op.eqItems (d + 1) 5 1 (arrC f).toArray (arrC g).toArray is).run Tryd.prog w = .ok (is.all fun i => decide (f i = g i)) w
  | [], _ => rfl
  | i :: is, h => by
    have hi := h i (by simp)
    simp only [Op.eqItems, Sem.run_bind, part_arr f w hi, Result.andThen_ok, part_arr g w hi, run_equalIn_int w d 5 .u8 .u8 (f i) (g i) Tryd.underlying5]
    have ih := items_arr f g w d is (fun j hj => h j (by simp [hj]))
    by_cases e : f i = g i
    · simp [e, ih]
    · simp [e]

theorem eq22 (f g : Nat → Int) (w : World) (d : Nat) : (Op.equalIn (d + 2) 22 (.agg (arrC f).toArray) (.agg (arrC g).toArray)).run Tryd.prog w = .ok (sameA f g) w := by
  obtain ⟨i, z, dd, h1, _⟩ := T5.get
  rw [run_equalIn_array w (d + 1) _ _ Tryd.underlying22 h1, cells5, items_arr f g w d _ (fun i hi => by simpa using hi)]
  rfl

theorem encIP_arr (x : IP) : encIP x = i64 x.v :: arrC x.a := rfl

theorem guard22 : Tryd.prog.eqGuardType Tryd.prog.depth 22 = false := by kernel_rfl
theorem guard24 : Tryd.prog.eqGuardType Tryd.prog.depth 24 = false := by kernel_rfl
theorem stood24 : Tryd.prog.stoodInHeld 24 = false := by kernel_rfl
theorem sm24 (w : World) : (isAgg 3).run Tryd.prog w = .ok false w ∧ (isAgg 22).run Tryd.prog w = .ok true w ∧ (sizeOf 22).run Tryd.prog w = .ok 16 w := ⟨by kernel_rfl, by kernel_rfl, by kernel_rfl⟩
def sameB (x y : IP) : Bool := decide (x.v = y.v) && sameA x.a y.a
theorem sameB_iff {x y : IP} : sameB x y = true ↔ x.same y := by simp [sameB, sameA_iff, IP.same]

theorem fields24 (w : World) (d : Nat) (x y : IP) (p2 : ∀ z : IP, (part 22 (encIP z).toArray 1).run Tryd.prog w = .ok (.agg (arrC z.a).toArray) w) (p1 : ∀ z : IP, (part 3 (encIP z).toArray 0).run Tryd.prog w = .ok (i64 z.v) w)
    (fs : List Field) (hf : fs.map (fun f => (f.name, f.type, f.offset)) = [("V", 3, 0), ("A", 22, 1)]) : (Op.eqFields (d + 2) (encIP x).toArray (encIP y).toArray fs).run Tryd.prog w = .ok (sameB x y) w := by
  rcases fs with _ | ⟨f1, _ | ⟨f2, _ | ⟨f3, fs⟩⟩⟩
  · simp at hf
  · simp at hf
  · simp only [List.map_cons, List.map_nil, List.cons.injEq, Prod.mk.injEq, and_true] at hf
    obtain ⟨⟨n1, t1, o1⟩, n2, t2, o2⟩ := hf
    have m1 : f1.name ≠ "_" := by rw [n1]; decide
    have m2 : f2.name ≠ "_" := by rw [n2]; decide
    have e1 := run_equalIn_int (P := Tryd.prog) w (d + 1) 3 .i64 .i64 x.v y.v Tryd.underlying3
    have e2 := eq22 x.a y.a w d
    simp only [Op.eqFields, t1, t2, o1, o2]
    rw [if_pos m1, if_pos m2]
    rw [Sem.run_bind, p1, Result.andThen_ok, Sem.run_bind, p1, Result.andThen_ok, Sem.run_bind, e1, Result.andThen_ok]
    unfold sameB
    by_cases e : x.v = y.v
    · have e' : (x.v == y.v) = true := by simp [e]
      rw [e']
      simp only [Bool.not_true, Bool.false_eq_true, if_false]
      rw [Sem.run_bind, p2, Result.andThen_ok, Sem.run_bind, p2, Result.andThen_ok, Sem.run_bind, e2, Result.andThen_ok]
      cases sameA x.a y.a <;> simp [e]
    · have e' : (x.v == y.v) = false := by simp [e]
      rw [e']
      simp [e]
  · simp at hf

theorem eq24 (x y : IP) (w : World) (d : Nat) : (Op.equalIn (d + 3) 24 (.agg (encIP x).toArray) (.agg (encIP y).toArray)).run Tryd.prog w = .ok (sameB x y) w := by
  have hu : Tryd.prog.underlying 24 = some (.struct (Tryd.prog.fieldsOf 24)) := by kernel_rfl
  have hf : (Tryd.prog.fieldsOf 24).toList.map (fun f => (f.name, f.type, f.offset)) = [("V", 3, 0), ("A", 22, 1)] := by kernel_rfl
  rw [run_equalIn_struct w (d + 2) 24 _ _ hu stood24]
  refine fields24 w d x y ?_ ?_ _ hf
  · intro z; simp [part, (sm24 w).2.1, (sm24 w).2.2, encIP_arr, arrC]
  · intro z; simp [part, (sm24 w).1, encIP]

section op
variable {R : Qp} {ds : List Deferred} {n : Nat} {l : Env} {k : List KI} {w w0 : World} {ops : Array Oper} {os : List Oper} {C : World → Prop}
variable {d : Nat} {G gx gy ex ey : Gs} {ty yt : TypeId} {ps : String} {af : Array Edge} {gu : Option (Nat × Bool)} {x y : Operand} {N0 : List Nat} {L L' : List Own}

theorem eqA_run (f g : Nat → Int) (w : World) : (do eqGuard .eql 22 x y (.agg (arrC f).toArray) (.agg (arrC g).toArray); binOp .eql 22 (.agg (arrC f).toArray) (.agg (arrC g).toArray) : Sem Value).run Tryd.prog w = .ok (.bool (sameA f g)) w := by
  rw [Sem.run_bind, run_eqGuard_agg w .eql 22 x y _ _ guard22, Result.andThen_ok, run_eql_struct, eq22 f g w 9998]
  rfl
theorem eqA (f g : Nat → Int) (hx : ev l x = some (gx, .agg (arrC f).toArray)) (hy : ev l y = some (gy, .agg (arrC g).toArray)) (hG : gd ops l gu = some G) (hpx : G = gx ++ ex) (hpy : G = gy ++ ey) (hn : Nat.blt d n = true)
    (h : Ro Tryd.prog R ds n ops ((d, G, .bool (sameA f g)) :: l) os k w) :
    Ro Tryd.prog R ds n ops l ({ dst := some d, op := .binOp .eql 22 x y yt, type := ty, pos := ps, after := af, guard := gu } :: os) k w :=
  bin hx hy hG hpx hpy hn (fun _ => eqA_run f g w) h
theorem neI_run (a b : IP) (w : World) : (do eqGuard .neq 24 x y (.agg (encIP a).toArray) (.agg (encIP b).toArray); binOp .neq 24 (.agg (encIP a).toArray) (.agg (encIP b).toArray) : Sem Value).run Tryd.prog w = .ok (.bool (!sameB a b)) w := by
  rw [Sem.run_bind, run_eqGuard_agg w .neq 24 x y _ _ guard24, Result.andThen_ok, run_neq_struct, eq24 a b w 9997]
  rfl
theorem neI (a b : IP) (hx : ev l x = some (gx, .agg (encIP a).toArray)) (hy : ev l y = some (gy, .agg (encIP b).toArray)) (hG : gd ops l gu = some G) (hpx : G = gx ++ ex) (hpy : G = gy ++ ey) (hn : Nat.blt d n = true)
    (h : Ro Tryd.prog R ds n ops ((d, G, .bool (!sameB a b)) :: l) os k w) :
    Ro Tryd.prog R ds n ops l ({ dst := some d, op := .binOp .neq 24 x y yt, type := ty, pos := ps, after := af, guard := gu } :: os) k w :=
  bin hx hy hG hpx hpy hn (fun _ => neI_run a b w) h
theorem neA (f g : Nat → Int) (hx : ev l x = some (gx, .agg (arrC f).toArray)) (hy : ev l y = some (gy, .agg (arrC g).toArray)) (hG : gd ops l gu = some G) (hpx : G = gx ++ ex) (hpy : G = gy ++ ey) (hn : Nat.blt d n = true)
    (h : Ro Tryd.prog R ds n ops ((d, G, .bool (!sameA f g)) :: l) os k w) :
    Ro Tryd.prog R ds n ops l ({ dst := some d, op := .binOp .neq 22 x y yt, type := ty, pos := ps, after := af, guard := gu } :: os) k w :=
  bin hx hy hG hpx hpy hn (fun _ => by
    rw [Sem.run_bind, run_eqGuard_agg w .neq 22 x y _ _ guard22, Result.andThen_ok, run_neq_struct, eq22 f g w 9998]; rfl) h

/-- an element's address in an array that is a variable's -/
theorem ixP {P : Program} {T E : TypeId} {m sz b off : Nat} {zc : List Value} {ag : Bool} {kd : IntKind} {i : Int} {o' : Nat} (hx : ev l x = some (gx, .pointer (some ⟨b, off, none⟩))) (hy : ev l y = some (gy, .int kd i)) (hu : P.underlying T = some (.array m E)) (hE : TyI P E sz ag zc)
    (hG : gd ops l gu = some G) (hpx : G = gx ++ ex) (hpy : G = gy ++ ey) (hn : Nat.blt d n = true) (hb : allT G → 0 ≤ i ∧ i < m) (ho : off + i.toNat * sz = o')
    (h : Ro P R ds n ops ((d, G, .pointer (some ⟨b, o', none⟩)) :: l) os k w) :
    Ro P R ds n ops l ({ dst := some d, op := .indexAddr T x y, type := ty, pos := ps, after := af, guard := gu } :: os) k w := by
  subst ho
  obtain ⟨i1, z, dd, g1, g2, _⟩ := hE.get
  refine opv hG rfl hn ?_ h
  intro hT a ha
  have hb' := hb hT
  simp [execOp, ha.eval hx (pre_T hpx hT), ha.eval hy (pre_T hpy hT), Instr.indexAt, asIntOf, run_underlying hu, Instr.sureAddr, hb'.1, hb'.2, sizeOf, typeInfo, g1, g2, add_new]
theorem qixP {P : Program} {T E : TypeId} {m sz b off : Nat} {zc : List Value} {ag : Bool} {kd : IntKind} {i : Int} {o' : Nat} (hx : ev l x = some (gx, .pointer (some ⟨b, off, none⟩))) (hy : ev l y = some (gy, .int kd i)) (hu : P.underlying T = some (.array m E)) (hE : TyI P E sz ag zc)
    (hG : gd ops l gu = some G) (hpx : G = gx ++ ex) (hpy : G = gy ++ ey) (hn : Nat.blt d n = true) (hb : allT G → 0 ≤ i ∧ i < m) (ho : off + i.toNat * sz = o')
    (h : Qo P R ds n ops C ((d, G, .pointer (some ⟨b, o', none⟩)) :: l) os k) :
    Qo P R ds n ops C l ({ dst := some d, op := .indexAddr T x y, type := ty, pos := ps, after := af, guard := gu } :: os) k := by
  subst ho
  obtain ⟨i1, z, dd, g1, g2, _⟩ := hE.get
  refine qopv hG rfl hn ?_ h
  intro hT w _ a ha
  have hb' := hb hT
  simp [execOp, ha.eval hx (pre_T hpx hT), ha.eval hy (pre_T hpy hT), Instr.indexAt, asIntOf, run_underlying hu, Instr.sureAddr, hb'.1, hb'.2, sizeOf, typeInfo, g1, g2, add_new]
end op

/-! ### addresses -/
def fourB (x : IP) : Bool := decide (x.v = 4) && (List.range 16).all fun i => decide (i < 4) || decide (x.a i = 0)
def verI (x : IP) : Int := if x.v = 6 then 6 else if fourB x then 4 else 0
def ip4of (a b c d : Int) : IP := ⟨4, fun i => if i = 0 then a else if i = 1 then b else if i = 2 then c else if i = 3 then d else 0⟩
end Go.Proofs.YtkahmepenjhcpaaDoor.W
