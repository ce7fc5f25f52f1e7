/- The base of this seat's proofs, second part: rules for single operations on numbers and truth values, calls, returns. No statement of the seat is proved here. -/
import Derived.Test.YtkahmepenjhcpaaDoorFa
namespace Go.Proofs.YtkahmepenjhcpaaDoor.W
open Go
set_option linter.unusedSimpArgs false

/-- blocks that were there are as they were -/
def Bl (w w' : World) : Prop := Go.RowKit.Below w.heap.size w w'
theorem Bl.refl (w : World) : Bl w w := Go.RowKit.Below.refl _ _
theorem Bl.trans {a b c : World} (h : Bl a b) (k : Bl b c) : Bl a c := Go.RowKit.Below.trans h (Go.RowKit.Below.mono k h.size)

def CallsV (P : Program) (f : FuncId) (args : Array Value) (w : World) (Rr : Value → World → Prop) : Prop :=
  Calls P f args w (fun e w' => match e with | .returned v => Rr v w' | _ => False)
/-- a call with one answer, that leaves what was there -/
def CallsD (P : Program) (f : FuncId) (args : Array Value) (w : World) (v : Value) : Prop :=
  CallsV P f args w (fun v' w' => v' = v ∧ Bl w w')

theorem CallsV.mono {P : Program} {f : FuncId} {args : Array Value} {w : World} {R R' : Value → World → Prop} (h : CallsV P f args w R)
    (hr : ∀ v w', R v w' → R' v w') : CallsV P f args w R' :=
  Calls.mono h fun e w' r => by cases e <;> first | exact hr _ _ r | exact r

structure Callable (P : Program) (f : FuncId) : Prop where
  ex : ∃ fn, P.funcs[f]? = some fn ∧ (fn.name == "runtime.NumGoroutine") = false ∧ fn.body.isNone = false

def penv : Nat → List Value → Env
  | _, [] => []
  | i, v :: r => (i, [], v) :: penv (i + 1) r

theorem lk_penv {t : Nat} {g : Gs} {v : Value} : ∀ (vs : List Value) (i : Nat), lk (penv i vs) t = some (g, v) → i ≤ t ∧ g = [] ∧ vs[t - i]? = some v
  | [], i, h => by simp [penv, lk] at h
  | u :: r, i, h => by
    simp only [penv, lk] at h
    cases hb : Nat.beq i t with
    | true =>
      rw [hb] at h
      simp only [cond_true, Option.some.injEq, Prod.mk.injEq] at h
      obtain ⟨rfl, rfl⟩ := h
      have : i = t := Nat.eq_of_beq_eq_true hb
      subst this
      simp
    | false =>
      rw [hb] at h
      have hne := beq_ne hb
      obtain ⟨h1, h2, h3⟩ := lk_penv r (i + 1) h
      refine ⟨by omega, h2, ?_⟩
      have : t - i = (t - (i + 1)) + 1 := by omega
      rw [this]; simpa using h3

def RV (Rr : Value → World → Prop) : Ending → World → Prop := fun e w' => match e with | .returned v => Rr v w' | _ => False

theorem enter {P : Program} {f : FuncId} {fn : Func} {c : Code} {n : Nat} {args : List Value} {l : Env} {w : World} {Rr : Value → World → Prop}
    (hf : P.funcs[f]? = some fn) (hb : fn.body = some c) (hn : fn.ntmps = n) (hl : penv 0 args = l) (hsz : Nat.ble args.length n = true)
    (h : Run P (bodyPost P fn (RV Rr)) [] n l c [] w) : CallsV P f args.toArray w Rr := by
  subst hl
  have hsz' : args.length ≤ n := Nat.le_of_ble_eq_true hsz
  refine calls_of_wp hf hb (h _ ⟨rfl, by simp [hn]; omega, ?_⟩)
  intro t g v ht
  obtain ⟨_, rfl, h3⟩ := lk_penv args 0 ht
  have hlt : t < args.length := by
    rcases Nat.lt_or_ge t args.length with h | h
    · exact h
    · rw [Nat.sub_zero, List.getElem?_eq_none h] at h3; cases h3
  rw [Array.getElem?_append_left (by simpa using hlt), gval_nil]
  simpa using h3

section ret
variable {P : Program} {fn : Func} {Rr : Value → World → Prop} {n : Nat} {l : Env} {k : List KI} {w : World}

theorem En.getD {ds : List Deferred} {a : Act} (ha : En ds n l a) {t : Nat} {v : Value} (h : lk l t = some ([], v)) : a.tmps.getD t undef = v := by
  have := ha.at_ _ _ _ h
  simp [Array.getD_eq_getD_getElem?, this, gval_nil]

theorem Rt.one {t : Nat} {v : Value} (hr : fn.results = #[.tmp t]) (ht : lk l t = some ([], v)) (h : Rr v w) :
    Rt P (bodyPost P fn (RV Rr)) [] n l k w :=
  Rt.top (R := bodyPost P fn (RV Rr)) (fun a ha => show bodyPost P fn (RV Rr) .ret a w from bodyPost_ret (v := v) (by rw [results_tmp hr, ha.getD ht]) ha.defers h) k

theorem Rt.two {t u : Nat} {v x : Value} (hr : fn.results = #[.tmp t, .tmp u]) (ht : lk l t = some ([], v)) (hu : lk l u = some ([], x)) (h : Rr (.tuple #[v, x]) w) :
    Rt P (bodyPost P fn (RV Rr)) [] n l k w :=
  Rt.top (R := bodyPost P fn (RV Rr)) (fun a ha => show bodyPost P fn (RV Rr) .ret a w from bodyPost_ret (v := .tuple #[v, x]) (by rw [results_tmp2 hr, ha.getD ht, ha.getD hu]) ha.defers h) k

theorem results_tmp3 {fn : Func} {t u x : Tmp} (h : fn.results = #[.tmp t, .tmp u, .tmp x]) (tmps : Array Value) (P : Program) (w : World) :
    (results fn tmps).run P w = .ok (.tuple #[tmps.getD t undef, tmps.getD u undef, tmps.getD x undef]) w := by
  simp [results, h]

theorem Rt.three {t u q : Nat} {v x y : Value} (hr : fn.results = #[.tmp t, .tmp u, .tmp q]) (ht : lk l t = some ([], v)) (hu : lk l u = some ([], x))
    (hq : lk l q = some ([], y)) (h : Rr (.tuple #[v, x, y]) w) :
    Rt P (bodyPost P fn (RV Rr)) [] n l k w :=
  Rt.top (R := bodyPost P fn (RV Rr)) (fun a ha => show bodyPost P fn (RV Rr) .ret a w from bodyPost_ret (v := .tuple #[v, x, y]) (by rw [results_tmp3 hr, ha.getD ht, ha.getD hu, ha.getD hq]) ha.defers h) k

theorem Nrm.zero (hr : fn.results = #[]) (h : Rr (.tuple #[]) w) : Nrm P (bodyPost P fn (RV Rr)) [] n l [] w :=
  fun a ha => show bodyPost P fn (RV Rr) .normal a w from bodyPost_end (v := .tuple #[]) (results_none hr _ _ _) ha.defers h
theorem Rt.zero (hr : fn.results = #[]) (h : Rr (.tuple #[]) w) : Rt P (bodyPost P fn (RV Rr)) [] n l k w :=
  Rt.top (R := bodyPost P fn (RV Rr)) (fun a ha => show bodyPost P fn (RV Rr) .ret a w from bodyPost_ret (v := .tuple #[]) (results_none hr _ _ _) ha.defers h) k
end ret

/-! ### numbers -/
theorem w64 {z : Int} (h : -9223372036854775808 ≤ z ∧ z ≤ 9223372036854775807) : IntKind.i64.wrap z = z := by
  have h1 : (2 ^ IntKind.i64.bits : Int) = 18446744073709551616 := rfl
  have h2 : (2 ^ (IntKind.i64.bits - 1) : Int) = 9223372036854775808 := rfl
  simp only [IntKind.wrap, h1, h2, IntKind.signed, Bool.true_and, decide_eq_true_eq]
  split <;> omega
theorem w8 {z : Int} (h : 0 ≤ z ∧ z ≤ 255) : IntKind.u8.wrap z = z := by
  simp only [IntKind.wrap, IntKind.bits, IntKind.signed]
  simp; omega
theorem w8m (z : Int) : IntKind.u8.wrap z = z % 256 := by
  simp only [IntKind.wrap, IntKind.bits, IntKind.signed]
  simp
theorem wu64 {z : Int} (h : 0 ≤ z ∧ z ≤ 18446744073709551615) : IntKind.u64.wrap z = z := by
  simp only [IntKind.wrap, IntKind.bits, IntKind.signed]
  simp; omega
theorem q64 {z y : Int} (h : 0 ≤ z ∧ 1 ≤ y ∧ z ≤ 9223372036854775807) : IntKind.i64.wrap (z.tdiv y) = z / y := by
  have h1 : z.tdiv y = z / y := Int.tdiv_eq_ediv_of_nonneg h.1
  have h2 : 0 ≤ z / y := Int.ediv_nonneg h.1 (by omega)
  have h3 : z / y ≤ z := Int.ediv_le_self _ h.1
  rw [h1]; exact w64 (by omega)
theorem r64 {z y : Int} (h : 0 ≤ z) : z.tmod y = z % y := Int.tmod_eq_emod_of_nonneg h

section op
variable {P : Program} {R : Qp} {ds : List Deferred} {n : Nat} {l : Env} {k : List KI} {w : World} {ops : Array Oper} {os : List Oper}
variable {d : Nat} {G gx gy ex ey : Gs} {ty xt yt : TypeId} {ps : String} {af : Array Edge} {gu : Option (Nat × Bool)} {x y : Operand}

theorem bin {op : BinOp} {a b v : Value} (hx : ev l x = some (gx, a)) (hy : ev l y = some (gy, b)) (hG : gd ops l gu = some G) (hpx : G = gx ++ ex) (hpy : G = gy ++ ey)
    (hn : Nat.blt d n = true) (he : allT G → (do eqGuard op xt x y a b; binOp op xt a b : Sem Value).run P w = .ok v w)
    (h : Ro P R ds n ops ((d, G, v) :: l) os k w) :
    Ro P R ds n ops l ({ dst := some d, op := .binOp op xt x y yt, type := ty, pos := ps, after := af, guard := gu } :: os) k w :=
  opv hG rfl hn (fun hT A ha => by
    have h1 := he hT
    simp only [execOp, ha.eval hx (pre_T hpx hT), ha.eval hy (pre_T hpy hT)]
    rw [Sem.run_bind, h1]; rfl) h

theorem intBin {op : BinOp} {kd : IntKind} {a b : Int} {v : Value} (hx : ev l x = some (gx, .int kd a)) (hy : ev l y = some (gy, .int kd b)) (hG : gd ops l gu = some G) (hpx : G = gx ++ ex) (hpy : G = gy ++ ey)
    (hn : Nat.blt d n = true) (he : allT G → (binOp op xt (.int kd a) (.int kd b) : Sem Value).run P w = .ok v w)
    (h : Ro P R ds n ops ((d, G, v) :: l) os k w) :
    Ro P R ds n ops l ({ dst := some d, op := .binOp op xt x y yt, type := ty, pos := ps, after := af, guard := gu } :: os) k w :=
  bin hx hy hG hpx hpy hn (fun hT => by
    have : eqGuard op xt x y (.int kd a) (.int kd b) = pure () := by unfold eqGuard; split <;> rfl
    rw [this]; exact he hT) h

theorem add {kd : IntKind} {a b z : Int} (hx : ev l x = some (gx, .int kd a)) (hy : ev l y = some (gy, .int kd b)) (hG : gd ops l gu = some G) (hpx : G = gx ++ ex) (hpy : G = gy ++ ey)
    (hn : Nat.blt d n = true) (he : allT G → kd.wrap (a + b) = z) (h : Ro P R ds n ops ((d, G, .int kd z) :: l) os k w) :
    Ro P R ds n ops l ({ dst := some d, op := .binOp .add xt x y yt, type := ty, pos := ps, after := af, guard := gu } :: os) k w :=
  intBin hx hy hG hpx hpy hn (fun hT => by simp [binOp, Op.intArith, pure, Sem.run, he hT]) h
theorem sub {kd : IntKind} {a b z : Int} (hx : ev l x = some (gx, .int kd a)) (hy : ev l y = some (gy, .int kd b)) (hG : gd ops l gu = some G) (hpx : G = gx ++ ex) (hpy : G = gy ++ ey)
    (hn : Nat.blt d n = true) (he : allT G → kd.wrap (a - b) = z) (h : Ro P R ds n ops ((d, G, .int kd z) :: l) os k w) :
    Ro P R ds n ops l ({ dst := some d, op := .binOp .sub xt x y yt, type := ty, pos := ps, after := af, guard := gu } :: os) k w :=
  intBin hx hy hG hpx hpy hn (fun hT => by simp [binOp, Op.intArith, pure, Sem.run, he hT]) h
theorem mul {kd : IntKind} {a b z : Int} (hx : ev l x = some (gx, .int kd a)) (hy : ev l y = some (gy, .int kd b)) (hG : gd ops l gu = some G) (hpx : G = gx ++ ex) (hpy : G = gy ++ ey)
    (hn : Nat.blt d n = true) (he : allT G → kd.wrap (a * b) = z) (h : Ro P R ds n ops ((d, G, .int kd z) :: l) os k w) :
    Ro P R ds n ops l ({ dst := some d, op := .binOp .mul xt x y yt, type := ty, pos := ps, after := af, guard := gu } :: os) k w :=
  intBin hx hy hG hpx hpy hn (fun hT => by simp [binOp, Op.intArith, pure, Sem.run, he hT]) h
theorem quo {kd : IntKind} {a b z : Int} (hx : ev l x = some (gx, .int kd a)) (hy : ev l y = some (gy, .int kd b)) (hG : gd ops l gu = some G) (hpx : G = gx ++ ex) (hpy : G = gy ++ ey)
    (hn : Nat.blt d n = true) (h0 : allT G → b ≠ 0) (he : allT G → kd.wrap (a.tdiv b) = z) (h : Ro P R ds n ops ((d, G, .int kd z) :: l) os k w) :
    Ro P R ds n ops l ({ dst := some d, op := .binOp .quo xt x y yt, type := ty, pos := ps, after := af, guard := gu } :: os) k w :=
  intBin hx hy hG hpx hpy hn (fun hT => by simp [binOp, Op.intDiv, pure, Sem.run, he hT, h0 hT]) h
theorem rem {kd : IntKind} {a b z : Int} (hx : ev l x = some (gx, .int kd a)) (hy : ev l y = some (gy, .int kd b)) (hG : gd ops l gu = some G) (hpx : G = gx ++ ex) (hpy : G = gy ++ ey)
    (hn : Nat.blt d n = true) (h0 : allT G → b ≠ 0) (he : allT G → a.tmod b = z) (h : Ro P R ds n ops ((d, G, .int kd z) :: l) os k w) :
    Ro P R ds n ops l ({ dst := some d, op := .binOp .rem xt x y yt, type := ty, pos := ps, after := af, guard := gu } :: os) k w :=
  intBin hx hy hG hpx hpy hn (fun hT => by simp [binOp, Op.intDiv, pure, Sem.run, he hT, h0 hT]) h
theorem shr {kd yk : IntKind} {a b z : Int} (hx : ev l x = some (gx, .int kd a)) (hy : ev l y = some (gy, .int yk b)) (hG : gd ops l gu = some G) (hpx : G = gx ++ ex) (hpy : G = gy ++ ey)
    (hn : Nat.blt d n = true) (h0 : allT G → 0 ≤ b) (he : allT G → a.fdiv (2 ^ (min b.toNat kd.bits)) = z) (h : Ro P R ds n ops ((d, G, .int kd z) :: l) os k w) :
    Ro P R ds n ops l ({ dst := some d, op := .binOp .shr xt x y yt, type := ty, pos := ps, after := af, guard := gu } :: os) k w :=
  bin hx hy hG hpx hpy hn (fun hT => by
    have h1 : ¬ b < 0 := by have := h0 hT; omega
    have h2 : eqGuard .shr xt x y (.int kd a) (.int yk b) = pure () := by unfold eqGuard; rfl
    rw [h2]; simp [binOp, Op.shift, bind, Sem.bind, pure, Sem.run, he hT, h1]) h
theorem shl {kd yk : IntKind} {a b z : Int} (hx : ev l x = some (gx, .int kd a)) (hy : ev l y = some (gy, .int yk b)) (hG : gd ops l gu = some G) (hpx : G = gx ++ ex) (hpy : G = gy ++ ey)
    (hn : Nat.blt d n = true) (h0 : allT G → 0 ≤ b) (he : allT G → kd.wrap (a * 2 ^ (min b.toNat kd.bits)) = z) (h : Ro P R ds n ops ((d, G, .int kd z) :: l) os k w) :
    Ro P R ds n ops l ({ dst := some d, op := .binOp .shl xt x y yt, type := ty, pos := ps, after := af, guard := gu } :: os) k w :=
  bin hx hy hG hpx hpy hn (fun hT => by
    have h1 : ¬ b < 0 := by have := h0 hT; omega
    have h2 : eqGuard .shl xt x y (.int kd a) (.int yk b) = pure () := by unfold eqGuard; rfl
    rw [h2]; simp [binOp, Op.shift, bind, Sem.bind, pure, Sem.run, he hT, h1]) h
theorem band {kd : IntKind} {a b z : Int} (hx : ev l x = some (gx, .int kd a)) (hy : ev l y = some (gy, .int kd b)) (hG : gd ops l gu = some G) (hpx : G = gx ++ ex) (hpy : G = gy ++ ey)
    (hn : Nat.blt d n = true) (he : allT G → kd.wrap (((a % 2 ^ kd.bits).toNat &&& (b % 2 ^ kd.bits).toNat : Nat) : Int) = z)
    (h : Ro P R ds n ops ((d, G, .int kd z) :: l) os k w) :
    Ro P R ds n ops l ({ dst := some d, op := .binOp .and xt x y yt, type := ty, pos := ps, after := af, guard := gu } :: os) k w :=
  intBin hx hy hG hpx hpy hn (fun hT => by
    have := he hT
    simp [binOp, Op.intBits, pure, Sem.run, this]) h
theorem bor {kd : IntKind} {a b z : Int} (hx : ev l x = some (gx, .int kd a)) (hy : ev l y = some (gy, .int kd b)) (hG : gd ops l gu = some G) (hpx : G = gx ++ ex) (hpy : G = gy ++ ey)
    (hn : Nat.blt d n = true) (he : allT G → kd.wrap (((a % 2 ^ kd.bits).toNat ||| (b % 2 ^ kd.bits).toNat : Nat) : Int) = z)
    (h : Ro P R ds n ops ((d, G, .int kd z) :: l) os k w) :
    Ro P R ds n ops l ({ dst := some d, op := .binOp .or xt x y yt, type := ty, pos := ps, after := af, guard := gu } :: os) k w :=
  intBin hx hy hG hpx hpy hn (fun hT => by
    have := he hT
    simp [binOp, Op.intBits, pure, Sem.run, this]) h
theorem bxor {kd : IntKind} {a b z : Int} (hx : ev l x = some (gx, .int kd a)) (hy : ev l y = some (gy, .int kd b)) (hG : gd ops l gu = some G) (hpx : G = gx ++ ex) (hpy : G = gy ++ ey)
    (hn : Nat.blt d n = true) (he : allT G → kd.wrap (((a % 2 ^ kd.bits).toNat ^^^ (b % 2 ^ kd.bits).toNat : Nat) : Int) = z)
    (h : Ro P R ds n ops ((d, G, .int kd z) :: l) os k w) :
    Ro P R ds n ops l ({ dst := some d, op := .binOp .xor xt x y yt, type := ty, pos := ps, after := af, guard := gu } :: os) k w :=
  intBin hx hy hG hpx hpy hn (fun hT => by
    have := he hT
    simp [binOp, Op.intBits, pure, Sem.run, this]) h
theorem eql {kd : IntKind} {a b : Int} (hx : ev l x = some (gx, .int kd a)) (hy : ev l y = some (gy, .int kd b)) (hG : gd ops l gu = some G) (hpx : G = gx ++ ex) (hpy : G = gy ++ ey)
    (hn : Nat.blt d n = true) (h : Ro P R ds n ops ((d, G, .bool (decide (a = b))) :: l) os k w) :
    Ro P R ds n ops l ({ dst := some d, op := .binOp .eql xt x y yt, type := ty, pos := ps, after := af, guard := gu } :: os) k w :=
  intBin hx hy hG hpx hpy hn (fun _ => by simp [binOp, Op.intCmp, pure, Sem.run]; by_cases hab : a = b <;> simp [hab]) h
theorem neq {kd : IntKind} {a b : Int} (hx : ev l x = some (gx, .int kd a)) (hy : ev l y = some (gy, .int kd b)) (hG : gd ops l gu = some G) (hpx : G = gx ++ ex) (hpy : G = gy ++ ey)
    (hn : Nat.blt d n = true) (h : Ro P R ds n ops ((d, G, .bool (decide (a ≠ b))) :: l) os k w) :
    Ro P R ds n ops l ({ dst := some d, op := .binOp .neq xt x y yt, type := ty, pos := ps, after := af, guard := gu } :: os) k w :=
  intBin hx hy hG hpx hpy hn (fun _ => by simp [binOp, Op.intCmp, pure, Sem.run]; by_cases hab : a = b <;> simp [hab]) h
theorem lss {kd : IntKind} {a b : Int} (hx : ev l x = some (gx, .int kd a)) (hy : ev l y = some (gy, .int kd b)) (hG : gd ops l gu = some G) (hpx : G = gx ++ ex) (hpy : G = gy ++ ey)
    (hn : Nat.blt d n = true) (h : Ro P R ds n ops ((d, G, .bool (decide (a < b))) :: l) os k w) :
    Ro P R ds n ops l ({ dst := some d, op := .binOp .lss xt x y yt, type := ty, pos := ps, after := af, guard := gu } :: os) k w :=
  intBin hx hy hG hpx hpy hn (fun _ => by simp [binOp, Op.intCmp, pure, Sem.run]) h
theorem leq {kd : IntKind} {a b : Int} (hx : ev l x = some (gx, .int kd a)) (hy : ev l y = some (gy, .int kd b)) (hG : gd ops l gu = some G) (hpx : G = gx ++ ex) (hpy : G = gy ++ ey)
    (hn : Nat.blt d n = true) (h : Ro P R ds n ops ((d, G, .bool (decide (a ≤ b))) :: l) os k w) :
    Ro P R ds n ops l ({ dst := some d, op := .binOp .leq xt x y yt, type := ty, pos := ps, after := af, guard := gu } :: os) k w :=
  intBin hx hy hG hpx hpy hn (fun _ => by simp [binOp, Op.intCmp, pure, Sem.run]) h
theorem gtr {kd : IntKind} {a b : Int} (hx : ev l x = some (gx, .int kd a)) (hy : ev l y = some (gy, .int kd b)) (hG : gd ops l gu = some G) (hpx : G = gx ++ ex) (hpy : G = gy ++ ey)
    (hn : Nat.blt d n = true) (h : Ro P R ds n ops ((d, G, .bool (decide (b < a))) :: l) os k w) :
    Ro P R ds n ops l ({ dst := some d, op := .binOp .gtr xt x y yt, type := ty, pos := ps, after := af, guard := gu } :: os) k w :=
  intBin hx hy hG hpx hpy hn (fun _ => by simp [binOp, Op.intCmp, pure, Sem.run]) h
theorem geq {kd : IntKind} {a b : Int} (hx : ev l x = some (gx, .int kd a)) (hy : ev l y = some (gy, .int kd b)) (hG : gd ops l gu = some G) (hpx : G = gx ++ ex) (hpy : G = gy ++ ey)
    (hn : Nat.blt d n = true) (h : Ro P R ds n ops ((d, G, .bool (decide (b ≤ a))) :: l) os k w) :
    Ro P R ds n ops l ({ dst := some d, op := .binOp .geq xt x y yt, type := ty, pos := ps, after := af, guard := gu } :: os) k w :=
  intBin hx hy hG hpx hpy hn (fun _ => by simp [binOp, Op.intCmp, pure, Sem.run]) h

theorem nt {b : Bool} (hx : ev l x = some (gx, .bool b)) (hG : gd ops l gu = some G) (hpx : G = gx ++ ex) (hn : Nat.blt d n = true)
    (h : Ro P R ds n ops ((d, G, .bool (!b)) :: l) os k w) :
    Ro P R ds n ops l ({ dst := some d, op := .unOp .not xt x, type := ty, pos := ps, after := af, guard := gu } :: os) k w :=
  opv hG rfl hn (fun hT a ha => by simp [execOp, ha.eval hx (pre_T hpx hT), Op.unary, bind, Sem.bind, pure, Sem.run]) h

theorem extr {i : Nat} {vs : Array Value} {v : Value} (hx : ev l x = some (gx, .tuple vs)) (hv : vs[i]? = some v) (hG : gd ops l gu = some G) (hpx : G = gx ++ ex) (hn : Nat.blt d n = true)
    (h : Ro P R ds n ops ((d, G, v) :: l) os k w) :
    Ro P R ds n ops l ({ dst := some d, op := .extract x i, type := ty, pos := ps, after := af, guard := gu } :: os) k w :=
  opv hG rfl hn (fun hT a ha => by simp [execOp, ha.eval hx (pre_T hpx hT), Instr.extract, hv, bind, Sem.bind, pure, Sem.run]) h

/-- 'a || b' -/
theorem pkO {c : Operand} {gc gb eb ec : Gs} {p q : Bool} (hc : ev l c = some (gc, .bool p)) (hb : ev l y = some (gb, .bool q)) (hG : gd ops l gu = some G) (hpc : G = gc ++ ec)
    (hpb : G ++ [!p] = gb ++ eb) (hn : Nat.blt d n = true) (h : Ro P R ds n ops ((d, G, .bool (p || q)) :: l) os k w) :
    Ro P R ds n ops l ({ dst := some d, op := .pick c (.const (.bool true)) y, type := ty, pos := ps, after := af, guard := gu } :: os) k w :=
  opv hG rfl hn (fun hT a ha => by
    have h1 := ha.eval hc (pre_T hpc hT)
    cases p with
    | true => simp only [execOp, h1]; rfl
    | false =>
      have hT' : allT (G ++ [!false]) := allT_app.2 ⟨hT, rfl, trivial⟩
      simp [execOp, h1, ha.eval hb (pre_T hpb hT'), asBool, bind, Sem.bind, pure, Sem.run]) h
/-- 'a && b' -/
theorem pkA {c : Operand} {gc gb eb ec : Gs} {p q : Bool} (hc : ev l c = some (gc, .bool p)) (hb : ev l y = some (gb, .bool q)) (hG : gd ops l gu = some G) (hpc : G = gc ++ ec)
    (hpb : G ++ [p] = gb ++ eb) (hn : Nat.blt d n = true) (h : Ro P R ds n ops ((d, G, .bool (p && q)) :: l) os k w) :
    Ro P R ds n ops l ({ dst := some d, op := .pick c y (.const (.bool false)), type := ty, pos := ps, after := af, guard := gu } :: os) k w :=
  opv hG rfl hn (fun hT a ha => by
    have h1 := ha.eval hc (pre_T hpc hT)
    cases p with
    | false => simp only [execOp, h1]; rfl
    | true =>
      have hT' : allT (G ++ [true]) := allT_app.2 ⟨hT, rfl, trivial⟩
      simp [execOp, h1, ha.eval hb (pre_T hpb hT'), asBool, bind, Sem.bind, pure, Sem.run]) h

/-- a conversion between kinds of whole numbers -/
theorem cvi {kd kd' : IntKind} {src dst : TypeId} {a z : Int} {u : TypeDesc} (hx : ev l x = some (gx, .int kd a)) (hG : gd ops l gu = some G) (hpx : G = gx ++ ex) (hn : Nat.blt d n = true)
    (hs : P.underlying src = some u) (ht : P.underlying dst = some (.int kd')) (he : allT G → kd'.wrap a = z) (h : Ro P R ds n ops ((d, G, .int kd' z) :: l) os k w) :
    Ro P R ds n ops l ({ dst := some d, op := .convert src dst x, type := ty, pos := ps, after := af, guard := gu } :: os) k w :=
  opv hG rfl hn (fun hT A ha => by
    simp only [execOp, ha.eval hx (pre_T hpx hT)]
    simp [Go.convert, underlying, program, hs, ht, Conv.intToInt, bind, Sem.bind, pure, Sem.run, he hT]) h

/-! ### calls -/
def Evs (l : Env) (G : Gs) : List Operand → List Value → Prop
  | [], [] => True
  | x :: xs, v :: vs => (∃ g e, ev l x = some (g, v) ∧ G = g ++ e) ∧ Evs l G xs vs
  | _, _ => False

theorem Evs.eval {a : Act} (ha : En ds n l a) (hT : allT G) : ∀ {xs : List Operand} {vs : List Value}, Evs l G xs vs → xs.map a.eval = vs
  | [], [], _ => rfl
  | [], _ :: _, h => h.elim
  | _ :: _, [], h => h.elim
  | x :: xs, v :: vs, ⟨⟨g, e, h1, h2⟩, h⟩ => by rw [List.map_cons, ha.eval h1 (pre_T h2 hT), Evs.eval ha hT h]

theorem call_run {f : FuncId} {xs : List Operand} {vs : List Value} {at_ : Array TypeId} {a : Act}
    (hk : Callable P f) (hx : xs.map a.eval = vs) : (execOp a.eval { dst := some d, op := .call { callee := .value (.func f), args := xs.toArray, argTypes := at_ }, type := ty, pos := ps, after := af, guard := gu }).run P w = .ok (.enter f vs.toArray) w := by
  obtain ⟨fn, h1, h2, h3⟩ := hk.ex
  have h5 : a.eval (.func f) = .func (.func f) #[] #[] := rfl
  simp only [execOp, resolve, h5, Deferred.ofValue]
  have h4 : xs.toArray.map a.eval = vs.toArray := by rw [← hx]; simp
  have h2' : ¬ fn.name = "runtime.NumGoroutine" := by simpa using h2
  have h3' : ¬ fn.body = none := by intro e; rw [e] at h3; cases h3
  simp [invoke, callFunc, program, h1, h2', h3', bind, Sem.bind, pure, Sem.run, h4]

theorem call {f : FuncId} {xs : List Operand} {vs : List Value} {at_ : Array TypeId} {Rr : Value → World → Prop}
    (hx : Evs l [] xs vs) (hk : Callable P f) (hn : Nat.blt d n = true) (hc : CallsV P f vs.toArray w Rr)
    (h : ∀ v w', Rr v w' → Ro P R ds n ops ((d, [], v) :: l) os k w') :
    Ro P R ds n ops l ({ dst := some d, op := .call { callee := .value (.func f), args := xs.toArray, argTypes := at_ }, type := ty, pos := ps, after := af, guard := none } :: os) k w := by
  intro a ha
  have hn' : d < n := by simpa [Nat.blt_eq] using hn
  refine wpList_of (fun _ => ?_) (fun hw => by simp [Region.wanted] at hw)
  have hr := call_run (P := P) (w := w) (d := d) (ty := ty) (ps := ps) (af := af) (gu := none) (at_ := at_) hk (Evs.eval ha (show allT [] from trivial) hx)
  simp only [Oper.wp, hr, Oper.upon]
  refine Calls.mono hc ?_
  intro e w' r
  cases e with
  | returned v => exact h v w' r _ (ha.put_nil hn' v)
  | panicked ch => exact r.elim
  | outgrown => exact r.elim

/-- a call with one answer, under guards -/
theorem calg {f : FuncId} {xs : List Operand} {vs : List Value} {at_ : Array TypeId} {v : Value} (hG : gd ops l gu = some G)
    (hx : Evs l G xs vs) (hk : Callable P f) (hn : Nat.blt d n = true) (hc : allT G → CallsD P f vs.toArray w v)
    (h : ∀ w', Bl w w' → Ro P R ds n ops ((d, G, v) :: l) os k w') :
    Ro P R ds n ops l ({ dst := some d, op := .call { callee := .value (.func f), args := xs.toArray, argTypes := at_ }, type := ty, pos := ps, after := af, guard := gu } :: os) k w := by
  intro a ha
  have hn' : d < n := by simpa [Nat.blt_eq] using hn
  refine wpList_of (fun hw => ?_) (fun hw => ?_)
  · rw [gd_wanted ha hG] at hw
    have hT := (allB_iff G).1 hw
    have hr := call_run (P := P) (w := w) (d := d) (ty := ty) (ps := ps) (af := af) (gu := gu) (at_ := at_) hk (Evs.eval ha hT hx)
    simp only [Oper.wp, hr, Oper.upon]
    refine Calls.mono (hc hT) ?_
    intro e w' r
    cases e with
    | returned v' => obtain ⟨rfl, hb⟩ := r; exact h w' hb _ (ha.put_true hn' hT v')
    | panicked ch => exact r.elim
    | outgrown => exact r.elim
  · rw [gd_wanted ha hG] at hw
    have hT : ¬ allT G := fun hT => by rw [(allB_iff G).2 hT] at hw; cases hw
    exact h w (Bl.refl w) _ (ha.put_false hn' hT v)

end op

/-! ### the same without guards -/
section one
variable {P : Program} {R : Qp} {ds : List Deferred} {n : Nat} {l : Env} {k : List KI} {w : World} {ops : Array Oper} {os : List Oper}
variable {d : Nat} {ty xt yt : TypeId} {ps : String} {af : Array Edge} {x y : Operand}
theorem mv1 {v : Value} (hx : ev l x = some ([], v)) (hn : Nat.blt d n = true)
    (h : Ro P R ds n ops ((d, [], v) :: l) os k w) : Ro P R ds n ops l ({ dst := some d, op := .move x, type := ty, pos := ps, after := af, guard := none } :: os) k w := mv hx rfl (ex := []) rfl hn h
theorem asg1 {v : Value} (hx : ev l x = some ([], v)) (hn : Nat.blt d n = true)
    (h : Ro P R ds n ops ((d, [], v) :: l) os k w) : Ro P R ds n ops l ({ dst := some d, op := .assign x, type := ty, pos := ps, after := af, guard := none } :: os) k w := asg hx rfl (ex := []) rfl hn h
theorem add1 {kd : IntKind} {a b z : Int} (hx : ev l x = some ([], .int kd a)) (hy : ev l y = some ([], .int kd b)) (hn : Nat.blt d n = true) (he : kd.wrap (a + b) = z)
    (h : Ro P R ds n ops ((d, [], .int kd z) :: l) os k w) : Ro P R ds n ops l ({ dst := some d, op := .binOp .add xt x y yt, type := ty, pos := ps, after := af, guard := none } :: os) k w := add hx hy rfl (ex := []) rfl (ey := []) rfl hn (fun _ => he) h
theorem sub1 {kd : IntKind} {a b z : Int} (hx : ev l x = some ([], .int kd a)) (hy : ev l y = some ([], .int kd b)) (hn : Nat.blt d n = true) (he : kd.wrap (a - b) = z)
    (h : Ro P R ds n ops ((d, [], .int kd z) :: l) os k w) : Ro P R ds n ops l ({ dst := some d, op := .binOp .sub xt x y yt, type := ty, pos := ps, after := af, guard := none } :: os) k w := sub hx hy rfl (ex := []) rfl (ey := []) rfl hn (fun _ => he) h
theorem mul1 {kd : IntKind} {a b z : Int} (hx : ev l x = some ([], .int kd a)) (hy : ev l y = some ([], .int kd b)) (hn : Nat.blt d n = true) (he : kd.wrap (a * b) = z)
    (h : Ro P R ds n ops ((d, [], .int kd z) :: l) os k w) : Ro P R ds n ops l ({ dst := some d, op := .binOp .mul xt x y yt, type := ty, pos := ps, after := af, guard := none } :: os) k w := mul hx hy rfl (ex := []) rfl (ey := []) rfl hn (fun _ => he) h
theorem quo1 {kd : IntKind} {a b z : Int} (hx : ev l x = some ([], .int kd a)) (hy : ev l y = some ([], .int kd b)) (hn : Nat.blt d n = true) (h0 : b ≠ 0) (he : kd.wrap (a.tdiv b) = z)
    (h : Ro P R ds n ops ((d, [], .int kd z) :: l) os k w) : Ro P R ds n ops l ({ dst := some d, op := .binOp .quo xt x y yt, type := ty, pos := ps, after := af, guard := none } :: os) k w := quo hx hy rfl (ex := []) rfl (ey := []) rfl hn (fun _ => h0) (fun _ => he) h
theorem rem1 {kd : IntKind} {a b z : Int} (hx : ev l x = some ([], .int kd a)) (hy : ev l y = some ([], .int kd b)) (hn : Nat.blt d n = true) (h0 : b ≠ 0) (he : a.tmod b = z)
    (h : Ro P R ds n ops ((d, [], .int kd z) :: l) os k w) : Ro P R ds n ops l ({ dst := some d, op := .binOp .rem xt x y yt, type := ty, pos := ps, after := af, guard := none } :: os) k w := rem hx hy rfl (ex := []) rfl (ey := []) rfl hn (fun _ => h0) (fun _ => he) h
theorem eql1 {kd : IntKind} {a b : Int} (hx : ev l x = some ([], .int kd a)) (hy : ev l y = some ([], .int kd b)) (hn : Nat.blt d n = true)
    (h : Ro P R ds n ops ((d, [], .bool (decide (a = b))) :: l) os k w) : Ro P R ds n ops l ({ dst := some d, op := .binOp .eql xt x y yt, type := ty, pos := ps, after := af, guard := none } :: os) k w := eql hx hy rfl (ex := []) rfl (ey := []) rfl hn h
theorem neq1 {kd : IntKind} {a b : Int} (hx : ev l x = some ([], .int kd a)) (hy : ev l y = some ([], .int kd b)) (hn : Nat.blt d n = true)
    (h : Ro P R ds n ops ((d, [], .bool (decide (a ≠ b))) :: l) os k w) : Ro P R ds n ops l ({ dst := some d, op := .binOp .neq xt x y yt, type := ty, pos := ps, after := af, guard := none } :: os) k w := neq hx hy rfl (ex := []) rfl (ey := []) rfl hn h
theorem lss1 {kd : IntKind} {a b : Int} (hx : ev l x = some ([], .int kd a)) (hy : ev l y = some ([], .int kd b)) (hn : Nat.blt d n = true)
    (h : Ro P R ds n ops ((d, [], .bool (decide (a < b))) :: l) os k w) : Ro P R ds n ops l ({ dst := some d, op := .binOp .lss xt x y yt, type := ty, pos := ps, after := af, guard := none } :: os) k w := lss hx hy rfl (ex := []) rfl (ey := []) rfl hn h
theorem leq1 {kd : IntKind} {a b : Int} (hx : ev l x = some ([], .int kd a)) (hy : ev l y = some ([], .int kd b)) (hn : Nat.blt d n = true)
    (h : Ro P R ds n ops ((d, [], .bool (decide (a ≤ b))) :: l) os k w) : Ro P R ds n ops l ({ dst := some d, op := .binOp .leq xt x y yt, type := ty, pos := ps, after := af, guard := none } :: os) k w := leq hx hy rfl (ex := []) rfl (ey := []) rfl hn h
theorem gtr1 {kd : IntKind} {a b : Int} (hx : ev l x = some ([], .int kd a)) (hy : ev l y = some ([], .int kd b)) (hn : Nat.blt d n = true)
    (h : Ro P R ds n ops ((d, [], .bool (decide (b < a))) :: l) os k w) : Ro P R ds n ops l ({ dst := some d, op := .binOp .gtr xt x y yt, type := ty, pos := ps, after := af, guard := none } :: os) k w := gtr hx hy rfl (ex := []) rfl (ey := []) rfl hn h
theorem geq1 {kd : IntKind} {a b : Int} (hx : ev l x = some ([], .int kd a)) (hy : ev l y = some ([], .int kd b)) (hn : Nat.blt d n = true)
    (h : Ro P R ds n ops ((d, [], .bool (decide (b ≤ a))) :: l) os k w) : Ro P R ds n ops l ({ dst := some d, op := .binOp .geq xt x y yt, type := ty, pos := ps, after := af, guard := none } :: os) k w := geq hx hy rfl (ex := []) rfl (ey := []) rfl hn h
theorem nt1 {b : Bool} (hx : ev l x = some ([], .bool b)) (hn : Nat.blt d n = true)
    (h : Ro P R ds n ops ((d, [], .bool (!b)) :: l) os k w) : Ro P R ds n ops l ({ dst := some d, op := .unOp .not xt x, type := ty, pos := ps, after := af, guard := none } :: os) k w := nt hx rfl (ex := []) rfl hn h
theorem extr1 {i : Nat} {vs : Array Value} {v : Value} (hx : ev l x = some ([], .tuple vs)) (hv : vs[i]? = some v) (hn : Nat.blt d n = true)
    (h : Ro P R ds n ops ((d, [], v) :: l) os k w) : Ro P R ds n ops l ({ dst := some d, op := .extract x i, type := ty, pos := ps, after := af, guard := none } :: os) k w := extr hx hv rfl (ex := []) rfl hn h
theorem cvi1 {kd kd' : IntKind} {src dst : TypeId} {a z : Int} {u : TypeDesc} (hx : ev l x = some ([], .int kd a)) (hn : Nat.blt d n = true)
    (hs : P.underlying src = some u) (ht : P.underlying dst = some (.int kd')) (he : kd'.wrap a = z) (h : Ro P R ds n ops ((d, [], .int kd' z) :: l) os k w) :
    Ro P R ds n ops l ({ dst := some d, op := .convert src dst x, type := ty, pos := ps, after := af, guard := none } :: os) k w := cvi hx rfl (ex := []) rfl hn hs ht (fun _ => he) h
end one
end Go.Proofs.YtkahmepenjhcpaaDoor.W
