/- The base of this seat's proofs, eighth part: the rules again, for regions that draw their order. No statement of the seat is proved here. -/
import Derived.Test.YtkahmepenjhcpaaDoorFg
import Derived.Deep.Quiet
namespace Go.Proofs.YtkahmepenjhcpaaDoor.W
open Go
set_option linter.unusedSimpArgs false
set_option linter.unusedVariables false

def Qo (P : Program) (R : Qp) (ds : List Deferred) (n : Nat) (ops : Array Oper) (C : World → Prop) (l : Env) (os : List Oper) (k : List KI) : Prop :=
  ∀ a, En ds n l a → wpQuiet P ops C (fun a' => ∀ w', C w' → kont P R k .normal a' w') os a

section op
variable {P : Program} {R : Qp} {ds : List Deferred} {n : Nat} {l : Env} {k : List KI} {w w0 : World} {C : World → Prop} {ops : Array Oper} {os : List Oper}
variable {d : Nat} {G gx gy ex ey : Gs} {ty xt yt : TypeId} {ps : String} {af : Array Edge} {gu : Option (Nat × Bool)} {x y z : Operand} {N0 : List Nat} {L L' : List Own}

/-- a region that draws its order and only reads: one walk in the text's order -/
theorem Run.draw {id : Nat} (hm : P.follows .mixedOrders = true) (hB : Region.lexB .any ops = true) (S : St N0 w0 L w)
    (h : Qo P R ds n ops (fun w' => St N0 w0 L w') l ops.toList k) : Run P R ds n l (.region id ops true) k w :=
  fun a ha => wp_region_quiet hm hB (S.drew _) (h a ha)

theorem Qo.nil (h : ∀ w', C w' → Nrm P R ds n l k w') : Qo P R ds n ops C l [] k := fun a ha w' hw => h w' hw a ha

theorem qopv {o : Oper} {G : Gs} {d : Nat} {v : Value} (hG : gd ops l o.guard = some G) (hd : o.dst = some d) (hn : Nat.blt d n = true)
    (hx : allT G → ∀ w, C w → ∀ a, En ds n l a → (execOp a.eval o).run P w = .ok (.value v) w)
    (h : Qo P R ds n ops C ((d, G, v) :: l) os k) : Qo P R ds n ops C l (o :: os) k := by
  intro a ha
  have hn' : d < n := by simpa [Nat.blt_eq] using hn
  simp only [wpQuiet]
  cases hw : Region.wanted o (yielded ops a.tmps) with
  | true =>
    rw [gd_wanted ha hG] at hw
    have hT := (allB_iff G).1 hw
    simp only [if_true]
    refine ⟨v, fun w hC => ?_, ?_⟩
    · simp only [Oper.quietAt, hx hT w hC a ha, Oper.quietUpon]; exact ⟨trivial, trivial⟩
    · rw [hd]; exact h _ (ha.put_true hn' hT v)
  | false =>
    rw [gd_wanted ha hG] at hw
    have hT : ¬ allT G := fun hT => by rw [(allB_iff G).2 hT] at hw; cases hw
    simp only [Bool.false_eq_true, if_false]
    rw [hd]; exact h _ (ha.put_false hn' hT v)

/-- a call with one answer -/
theorem qcal {f : FuncId} {xs : List Operand} {vs : List Value} {at_ : Array TypeId} {v : Value} (hG : gd ops l gu = some G)
    (hx : Evs l G xs vs) (hk : Callable P f) (hn : Nat.blt d n = true) (hC : ∀ w w', C w → Bl w w' → C w') (hc : allT G → ∀ w, C w → CallsD P f vs.toArray w v)
    (h : Qo P R ds n ops C ((d, G, v) :: l) os k) :
    Qo P R ds n ops C l ({ dst := some d, op := .call { callee := .value (.func f), args := xs.toArray, argTypes := at_ }, type := ty, pos := ps, after := af, guard := gu } :: os) k := by
  intro a ha
  have hn' : d < n := by simpa [Nat.blt_eq] using hn
  simp only [wpQuiet]
  split
  · rename_i hw
    rw [gd_wanted ha hG] at hw
    have hT := (allB_iff G).1 hw
    refine ⟨v, fun w hCw => ?_, h _ (ha.put_true hn' hT v)⟩
    have hr := call_run (P := P) (w := w) (d := d) (ty := ty) (ps := ps) (af := af) (gu := gu) (at_ := at_) hk (Evs.eval ha hT hx)
    simp only [Oper.quietAt, hr, Oper.quietUpon]
    refine ⟨trivial, Calls.mono (hc hT w hCw) ?_⟩
    intro e w' r
    cases e with
    | returned v' => obtain ⟨rfl, hb⟩ := r; exact ⟨rfl, hC w w' hCw hb⟩
    | panicked ch => exact r.elim
    | outgrown => exact r.elim
  · rename_i hw
    simp only [Bool.not_eq_true] at hw
    rw [gd_wanted ha hG] at hw
    have hT : ¬ allT G := fun hT => by rw [(allB_iff G).2 hT] at hw; cases hw
    exact h _ (ha.put_false hn' hT v)

/-- 'x[lo:hi:mx]' of a slice -/
theorem qslS {T E : TypeId} {sz by_ m : Nat} {zc : List Value} {v : Value} {cs : List Value} {o1 o2 o3 : Option Operand} {i1 i2 i3 : Option Nat} {lo hi mx : Nat}
    (hx : ev l x = some (gx, v)) (hS : Sl N0 w0 sz v m cs) (hE : ElT P T E sz by_ zc)
    (hG : gd ops l gu = some G) (hpx : G = gx ++ ex) (hn : Nat.blt d n = true)
    (h1 : bnd l G o1 i1) (h2 : bnd l G o2 i2) (h3 : bnd l G o3 i3)
    (e1 : i1.getD 0 = lo) (e2 : i2.getD m = hi) (e3 : i3.getD (capV v) = mx) (h23 : i3.isSome = true → i2.isSome = true)
    (hb : allT G → lo ≤ hi ∧ hi ≤ m ∧ hi ≤ mx ∧ mx ≤ capV v)
    (h : ∀ v', (allT G → Sl N0 w0 sz v' (hi - lo) ((cs.drop (lo * sz)).take ((hi - lo) * sz)) ∧ capV v' = mx - lo) → Qo P R ds n ops C ((d, G, v') :: l) os k) :
    Qo P R ds n ops C l ({ dst := some d, op := .slice T x o1 o2 o3, type := ty, pos := ps, after := af, guard := gu } :: os) k := by
  rcases Classical.em (allT G) with hT0 | hT0
  case inr => exact qopv (v := undef) hG rfl hn (fun hT => absurd hT hT0) (h _ (fun hT => absurd hT hT0))
  obtain ⟨v', f1, f2, f3⟩ := slX hS hE lo hi mx (hb hT0)
  refine qopv hG rfl hn ?_ (h v' (fun _ => ⟨f1, f2⟩))
  intro hT w hw a ha
  exact f3 w a (d := d) (ty := ty) (ps := ps) (af := af) (gu := gu) ha (pre_T hpx hT) hT hx h1 h2 h3 e1 e2 e3 h23

/-- 'x[lo:hi:mx]' of bytes -/
theorem qslB {T E : TypeId} {by_ : Nat} {zc : List Value} {v : Value} {bs : List Int} {o1 o2 o3 : Option Operand} {i1 i2 i3 : Option Nat} {lo hi mx : Nat}
    (hx : ev l x = some (gx, v)) (hS : BS N0 w0 v bs) (hE : ElT P T E 1 by_ zc)
    (hG : gd ops l gu = some G) (hpx : G = gx ++ ex) (hn : Nat.blt d n = true)
    (h1 : bnd l G o1 i1) (h2 : bnd l G o2 i2) (h3 : bnd l G o3 i3)
    (e1 : i1.getD 0 = lo) (e2 : i2.getD bs.length = hi) (e3 : i3.getD (capV v) = mx) (h23 : i3.isSome = true → i2.isSome = true)
    (hb : allT G → lo ≤ hi ∧ hi ≤ bs.length ∧ hi ≤ mx ∧ mx ≤ capV v)
    (h : ∀ v', (allT G → BS N0 w0 v' ((bs.drop lo).take (hi - lo)) ∧ capV v' = mx - lo) → Qo P R ds n ops C ((d, G, v') :: l) os k) :
    Qo P R ds n ops C l ({ dst := some d, op := .slice T x o1 o2 o3, type := ty, pos := ps, after := af, guard := gu } :: os) k :=
  qslS hx hS.2 hE hG hpx hn h1 h2 h3 e1 e2 e3 h23 hb (fun v' hv' => h v' (fun hT => by
    obtain ⟨q1, q2⟩ := hv' hT
    obtain ⟨b1, b2, _⟩ := hb hT
    rw [map_drop_take] at q1
    have hl : ((bs.drop lo).take (hi - lo)).length = hi - lo := by simp; omega
    exact ⟨⟨byt_take (byt_drop hS.1 _) _, by rw [hl]; exact q1⟩, q2⟩))

theorem qmv {x : Operand} {d : Nat} {G g ex : Gs} {v : Value} {ty : TypeId} {ps : String} {af : Array Edge} {gu : Option (Nat × Bool)}
    (hx : ev l x = some (g, v)) (hG : gd ops l gu = some G) (hp : G = g ++ ex) (hn : Nat.blt d n = true)
    (h : Qo P R ds n ops C ((d, G, v) :: l) os k) :
    Qo P R ds n ops C l ({ dst := some d, op := .move x, type := ty, pos := ps, after := af, guard := gu } :: os) k :=
  qopv hG rfl hn (fun hT w hw a ha => by simp [execOp, pure, ha.eval hx (pre_T hp hT)]) h


theorem qasg {x : Operand} {d : Nat} {G g ex : Gs} {v : Value} {ty : TypeId} {ps : String} {af : Array Edge} {gu : Option (Nat × Bool)}
    (hx : ev l x = some (g, v)) (hG : gd ops l gu = some G) (hp : G = g ++ ex) (hn : Nat.blt d n = true)
    (h : Qo P R ds n ops C ((d, G, v) :: l) os k) :
    Qo P R ds n ops C l ({ dst := some d, op := .assign x, type := ty, pos := ps, after := af, guard := gu } :: os) k :=
  qopv hG rfl hn (fun hT w hw a ha => by simp [execOp, pure, ha.eval hx (pre_T hp hT)]) h


theorem qbin {op : BinOp} {a b v : Value} (hx : ev l x = some (gx, a)) (hy : ev l y = some (gy, b)) (hG : gd ops l gu = some G) (hpx : G = gx ++ ex) (hpy : G = gy ++ ey)
    (hn : Nat.blt d n = true) (he : allT G → ∀ w, (do eqGuard op xt x y a b; binOp op xt a b : Sem Value).run P w = .ok v w)
    (h : Qo P R ds n ops C ((d, G, v) :: l) os k) :
    Qo P R ds n ops C l ({ dst := some d, op := .binOp op xt x y yt, type := ty, pos := ps, after := af, guard := gu } :: os) k :=
  qopv hG rfl hn (fun hT w hw A ha => by
    have h1 := he hT w
    simp only [execOp, ha.eval hx (pre_T hpx hT), ha.eval hy (pre_T hpy hT)]
    rw [Sem.run_bind, h1]; rfl) h


theorem qintBin {op : BinOp} {kd : IntKind} {a b : Int} {v : Value} (hx : ev l x = some (gx, .int kd a)) (hy : ev l y = some (gy, .int kd b)) (hG : gd ops l gu = some G) (hpx : G = gx ++ ex) (hpy : G = gy ++ ey)
    (hn : Nat.blt d n = true) (he : allT G → ∀ w, (binOp op xt (.int kd a) (.int kd b) : Sem Value).run P w = .ok v w)
    (h : Qo P R ds n ops C ((d, G, v) :: l) os k) :
    Qo P R ds n ops C l ({ dst := some d, op := .binOp op xt x y yt, type := ty, pos := ps, after := af, guard := gu } :: os) k :=
  qbin hx hy hG hpx hpy hn (fun hT w => by
    have : eqGuard op xt x y (.int kd a) (.int kd b) = pure () := by unfold eqGuard; split <;> rfl
    rw [this]; exact he hT w) h


theorem qadd {kd : IntKind} {a b z : Int} (hx : ev l x = some (gx, .int kd a)) (hy : ev l y = some (gy, .int kd b)) (hG : gd ops l gu = some G) (hpx : G = gx ++ ex) (hpy : G = gy ++ ey)
    (hn : Nat.blt d n = true) (he : allT G → kd.wrap (a + b) = z) (h : Qo P R ds n ops C ((d, G, .int kd z) :: l) os k) :
    Qo P R ds n ops C l ({ dst := some d, op := .binOp .add xt x y yt, type := ty, pos := ps, after := af, guard := gu } :: os) k :=
  qintBin hx hy hG hpx hpy hn (fun hT w => by simp [binOp, Op.intArith, pure, Sem.run, he hT]) h

theorem qsub {kd : IntKind} {a b z : Int} (hx : ev l x = some (gx, .int kd a)) (hy : ev l y = some (gy, .int kd b)) (hG : gd ops l gu = some G) (hpx : G = gx ++ ex) (hpy : G = gy ++ ey)
    (hn : Nat.blt d n = true) (he : allT G → kd.wrap (a - b) = z) (h : Qo P R ds n ops C ((d, G, .int kd z) :: l) os k) :
    Qo P R ds n ops C l ({ dst := some d, op := .binOp .sub xt x y yt, type := ty, pos := ps, after := af, guard := gu } :: os) k :=
  qintBin hx hy hG hpx hpy hn (fun hT w => by simp [binOp, Op.intArith, pure, Sem.run, he hT]) h

theorem qmul {kd : IntKind} {a b z : Int} (hx : ev l x = some (gx, .int kd a)) (hy : ev l y = some (gy, .int kd b)) (hG : gd ops l gu = some G) (hpx : G = gx ++ ex) (hpy : G = gy ++ ey)
    (hn : Nat.blt d n = true) (he : allT G → kd.wrap (a * b) = z) (h : Qo P R ds n ops C ((d, G, .int kd z) :: l) os k) :
    Qo P R ds n ops C l ({ dst := some d, op := .binOp .mul xt x y yt, type := ty, pos := ps, after := af, guard := gu } :: os) k :=
  qintBin hx hy hG hpx hpy hn (fun hT w => by simp [binOp, Op.intArith, pure, Sem.run, he hT]) h

theorem qquo {kd : IntKind} {a b z : Int} (hx : ev l x = some (gx, .int kd a)) (hy : ev l y = some (gy, .int kd b)) (hG : gd ops l gu = some G) (hpx : G = gx ++ ex) (hpy : G = gy ++ ey)
    (hn : Nat.blt d n = true) (h0 : allT G → b ≠ 0) (he : allT G → kd.wrap (a.tdiv b) = z) (h : Qo P R ds n ops C ((d, G, .int kd z) :: l) os k) :
    Qo P R ds n ops C l ({ dst := some d, op := .binOp .quo xt x y yt, type := ty, pos := ps, after := af, guard := gu } :: os) k :=
  qintBin hx hy hG hpx hpy hn (fun hT w => by simp [binOp, Op.intDiv, pure, Sem.run, he hT, h0 hT]) h

theorem qrem {kd : IntKind} {a b z : Int} (hx : ev l x = some (gx, .int kd a)) (hy : ev l y = some (gy, .int kd b)) (hG : gd ops l gu = some G) (hpx : G = gx ++ ex) (hpy : G = gy ++ ey)
    (hn : Nat.blt d n = true) (h0 : allT G → b ≠ 0) (he : allT G → a.tmod b = z) (h : Qo P R ds n ops C ((d, G, .int kd z) :: l) os k) :
    Qo P R ds n ops C l ({ dst := some d, op := .binOp .rem xt x y yt, type := ty, pos := ps, after := af, guard := gu } :: os) k :=
  qintBin hx hy hG hpx hpy hn (fun hT w => by simp [binOp, Op.intDiv, pure, Sem.run, he hT, h0 hT]) h

theorem qshr {kd yk : IntKind} {a b z : Int} (hx : ev l x = some (gx, .int kd a)) (hy : ev l y = some (gy, .int yk b)) (hG : gd ops l gu = some G) (hpx : G = gx ++ ex) (hpy : G = gy ++ ey)
    (hn : Nat.blt d n = true) (h0 : allT G → 0 ≤ b) (he : allT G → a.fdiv (2 ^ (min b.toNat kd.bits)) = z) (h : Qo P R ds n ops C ((d, G, .int kd z) :: l) os k) :
    Qo P R ds n ops C l ({ dst := some d, op := .binOp .shr xt x y yt, type := ty, pos := ps, after := af, guard := gu } :: os) k :=
  qbin hx hy hG hpx hpy hn (fun hT w => by
    have h1 : ¬ b < 0 := by have := h0 hT; omega
    have h2 : eqGuard .shr xt x y (.int kd a) (.int yk b) = pure () := by unfold eqGuard; rfl
    rw [h2]; simp [binOp, Op.shift, bind, Sem.bind, pure, Sem.run, he hT, h1]) h

theorem qshl {kd yk : IntKind} {a b z : Int} (hx : ev l x = some (gx, .int kd a)) (hy : ev l y = some (gy, .int yk b)) (hG : gd ops l gu = some G) (hpx : G = gx ++ ex) (hpy : G = gy ++ ey)
    (hn : Nat.blt d n = true) (h0 : allT G → 0 ≤ b) (he : allT G → kd.wrap (a * 2 ^ (min b.toNat kd.bits)) = z) (h : Qo P R ds n ops C ((d, G, .int kd z) :: l) os k) :
    Qo P R ds n ops C l ({ dst := some d, op := .binOp .shl xt x y yt, type := ty, pos := ps, after := af, guard := gu } :: os) k :=
  qbin hx hy hG hpx hpy hn (fun hT w => by
    have h1 : ¬ b < 0 := by have := h0 hT; omega
    have h2 : eqGuard .shl xt x y (.int kd a) (.int yk b) = pure () := by unfold eqGuard; rfl
    rw [h2]; simp [binOp, Op.shift, bind, Sem.bind, pure, Sem.run, he hT, h1]) h

theorem qband {kd : IntKind} {a b z : Int} (hx : ev l x = some (gx, .int kd a)) (hy : ev l y = some (gy, .int kd b)) (hG : gd ops l gu = some G) (hpx : G = gx ++ ex) (hpy : G = gy ++ ey)
    (hn : Nat.blt d n = true) (he : allT G → kd.wrap (((a % 2 ^ kd.bits).toNat &&& (b % 2 ^ kd.bits).toNat : Nat) : Int) = z)
    (h : Qo P R ds n ops C ((d, G, .int kd z) :: l) os k) :
    Qo P R ds n ops C l ({ dst := some d, op := .binOp .and xt x y yt, type := ty, pos := ps, after := af, guard := gu } :: os) k :=
  qintBin hx hy hG hpx hpy hn (fun hT w => by
    have := he hT
    simp [binOp, Op.intBits, pure, Sem.run, this]) h

theorem qbor {kd : IntKind} {a b z : Int} (hx : ev l x = some (gx, .int kd a)) (hy : ev l y = some (gy, .int kd b)) (hG : gd ops l gu = some G) (hpx : G = gx ++ ex) (hpy : G = gy ++ ey)
    (hn : Nat.blt d n = true) (he : allT G → kd.wrap (((a % 2 ^ kd.bits).toNat ||| (b % 2 ^ kd.bits).toNat : Nat) : Int) = z)
    (h : Qo P R ds n ops C ((d, G, .int kd z) :: l) os k) :
    Qo P R ds n ops C l ({ dst := some d, op := .binOp .or xt x y yt, type := ty, pos := ps, after := af, guard := gu } :: os) k :=
  qintBin hx hy hG hpx hpy hn (fun hT w => by
    have := he hT
    simp [binOp, Op.intBits, pure, Sem.run, this]) h

theorem qbxor {kd : IntKind} {a b z : Int} (hx : ev l x = some (gx, .int kd a)) (hy : ev l y = some (gy, .int kd b)) (hG : gd ops l gu = some G) (hpx : G = gx ++ ex) (hpy : G = gy ++ ey)
    (hn : Nat.blt d n = true) (he : allT G → kd.wrap (((a % 2 ^ kd.bits).toNat ^^^ (b % 2 ^ kd.bits).toNat : Nat) : Int) = z)
    (h : Qo P R ds n ops C ((d, G, .int kd z) :: l) os k) :
    Qo P R ds n ops C l ({ dst := some d, op := .binOp .xor xt x y yt, type := ty, pos := ps, after := af, guard := gu } :: os) k :=
  qintBin hx hy hG hpx hpy hn (fun hT w => by
    have := he hT
    simp [binOp, Op.intBits, pure, Sem.run, this]) h

theorem qeql {kd : IntKind} {a b : Int} (hx : ev l x = some (gx, .int kd a)) (hy : ev l y = some (gy, .int kd b)) (hG : gd ops l gu = some G) (hpx : G = gx ++ ex) (hpy : G = gy ++ ey)
    (hn : Nat.blt d n = true) (h : Qo P R ds n ops C ((d, G, .bool (decide (a = b))) :: l) os k) :
    Qo P R ds n ops C l ({ dst := some d, op := .binOp .eql xt x y yt, type := ty, pos := ps, after := af, guard := gu } :: os) k :=
  qintBin hx hy hG hpx hpy hn (fun _ w => by simp [binOp, Op.intCmp, pure, Sem.run]; by_cases hab : a = b <;> simp [hab]) h

theorem qneq {kd : IntKind} {a b : Int} (hx : ev l x = some (gx, .int kd a)) (hy : ev l y = some (gy, .int kd b)) (hG : gd ops l gu = some G) (hpx : G = gx ++ ex) (hpy : G = gy ++ ey)
    (hn : Nat.blt d n = true) (h : Qo P R ds n ops C ((d, G, .bool (decide (a ≠ b))) :: l) os k) :
    Qo P R ds n ops C l ({ dst := some d, op := .binOp .neq xt x y yt, type := ty, pos := ps, after := af, guard := gu } :: os) k :=
  qintBin hx hy hG hpx hpy hn (fun _ w => by simp [binOp, Op.intCmp, pure, Sem.run]; by_cases hab : a = b <;> simp [hab]) h

theorem qlss {kd : IntKind} {a b : Int} (hx : ev l x = some (gx, .int kd a)) (hy : ev l y = some (gy, .int kd b)) (hG : gd ops l gu = some G) (hpx : G = gx ++ ex) (hpy : G = gy ++ ey)
    (hn : Nat.blt d n = true) (h : Qo P R ds n ops C ((d, G, .bool (decide (a < b))) :: l) os k) :
    Qo P R ds n ops C l ({ dst := some d, op := .binOp .lss xt x y yt, type := ty, pos := ps, after := af, guard := gu } :: os) k :=
  qintBin hx hy hG hpx hpy hn (fun _ w => by simp [binOp, Op.intCmp, pure, Sem.run]) h

theorem qleq {kd : IntKind} {a b : Int} (hx : ev l x = some (gx, .int kd a)) (hy : ev l y = some (gy, .int kd b)) (hG : gd ops l gu = some G) (hpx : G = gx ++ ex) (hpy : G = gy ++ ey)
    (hn : Nat.blt d n = true) (h : Qo P R ds n ops C ((d, G, .bool (decide (a ≤ b))) :: l) os k) :
    Qo P R ds n ops C l ({ dst := some d, op := .binOp .leq xt x y yt, type := ty, pos := ps, after := af, guard := gu } :: os) k :=
  qintBin hx hy hG hpx hpy hn (fun _ w => by simp [binOp, Op.intCmp, pure, Sem.run]) h

theorem qgtr {kd : IntKind} {a b : Int} (hx : ev l x = some (gx, .int kd a)) (hy : ev l y = some (gy, .int kd b)) (hG : gd ops l gu = some G) (hpx : G = gx ++ ex) (hpy : G = gy ++ ey)
    (hn : Nat.blt d n = true) (h : Qo P R ds n ops C ((d, G, .bool (decide (b < a))) :: l) os k) :
    Qo P R ds n ops C l ({ dst := some d, op := .binOp .gtr xt x y yt, type := ty, pos := ps, after := af, guard := gu } :: os) k :=
  qintBin hx hy hG hpx hpy hn (fun _ w => by simp [binOp, Op.intCmp, pure, Sem.run]) h

theorem qgeq {kd : IntKind} {a b : Int} (hx : ev l x = some (gx, .int kd a)) (hy : ev l y = some (gy, .int kd b)) (hG : gd ops l gu = some G) (hpx : G = gx ++ ex) (hpy : G = gy ++ ey)
    (hn : Nat.blt d n = true) (h : Qo P R ds n ops C ((d, G, .bool (decide (b ≤ a))) :: l) os k) :
    Qo P R ds n ops C l ({ dst := some d, op := .binOp .geq xt x y yt, type := ty, pos := ps, after := af, guard := gu } :: os) k :=
  qintBin hx hy hG hpx hpy hn (fun _ w => by simp [binOp, Op.intCmp, pure, Sem.run]) h


theorem qnt {b : Bool} (hx : ev l x = some (gx, .bool b)) (hG : gd ops l gu = some G) (hpx : G = gx ++ ex) (hn : Nat.blt d n = true)
    (h : Qo P R ds n ops C ((d, G, .bool (!b)) :: l) os k) :
    Qo P R ds n ops C l ({ dst := some d, op := .unOp .not xt x, type := ty, pos := ps, after := af, guard := gu } :: os) k :=
  qopv hG rfl hn (fun hT w hw a ha => by simp [execOp, ha.eval hx (pre_T hpx hT), Op.unary, bind, Sem.bind, pure, Sem.run]) h


theorem qextr {i : Nat} {vs : Array Value} {v : Value} (hx : ev l x = some (gx, .tuple vs)) (hv : vs[i]? = some v) (hG : gd ops l gu = some G) (hpx : G = gx ++ ex) (hn : Nat.blt d n = true)
    (h : Qo P R ds n ops C ((d, G, v) :: l) os k) :
    Qo P R ds n ops C l ({ dst := some d, op := .extract x i, type := ty, pos := ps, after := af, guard := gu } :: os) k :=
  qopv hG rfl hn (fun hT w hw a ha => by simp [execOp, ha.eval hx (pre_T hpx hT), Instr.extract, hv, bind, Sem.bind, pure, Sem.run]) h


theorem qpkO {c : Operand} {gc gb eb ec : Gs} {p q : Bool} (hc : ev l c = some (gc, .bool p)) (hb : ev l y = some (gb, .bool q)) (hG : gd ops l gu = some G) (hpc : G = gc ++ ec)
    (hpb : G ++ [!p] = gb ++ eb) (hn : Nat.blt d n = true) (h : Qo P R ds n ops C ((d, G, .bool (p || q)) :: l) os k) :
    Qo P R ds n ops C l ({ dst := some d, op := .pick c (.const (.bool true)) y, type := ty, pos := ps, after := af, guard := gu } :: os) k :=
  qopv hG rfl hn (fun hT w hw a ha => by
    have h1 := ha.eval hc (pre_T hpc hT)
    cases p with
    | true => simp only [execOp, h1]; rfl
    | false =>
      have hT' : allT (G ++ [!false]) := allT_app.2 ⟨hT, rfl, trivial⟩
      simp [execOp, h1, ha.eval hb (pre_T hpb hT'), asBool, bind, Sem.bind, pure, Sem.run]) h

theorem qpkA {c : Operand} {gc gb eb ec : Gs} {p q : Bool} (hc : ev l c = some (gc, .bool p)) (hb : ev l y = some (gb, .bool q)) (hG : gd ops l gu = some G) (hpc : G = gc ++ ec)
    (hpb : G ++ [p] = gb ++ eb) (hn : Nat.blt d n = true) (h : Qo P R ds n ops C ((d, G, .bool (p && q)) :: l) os k) :
    Qo P R ds n ops C l ({ dst := some d, op := .pick c y (.const (.bool false)), type := ty, pos := ps, after := af, guard := gu } :: os) k :=
  qopv hG rfl hn (fun hT w hw a ha => by
    have h1 := ha.eval hc (pre_T hpc hT)
    cases p with
    | false => simp only [execOp, h1]; rfl
    | true =>
      have hT' : allT (G ++ [true]) := allT_app.2 ⟨hT, rfl, trivial⟩
      simp [execOp, h1, ha.eval hb (pre_T hpb hT'), asBool, bind, Sem.bind, pure, Sem.run]) h


theorem qcvi {kd kd' : IntKind} {src dst : TypeId} {a z : Int} {u : TypeDesc} (hx : ev l x = some (gx, .int kd a)) (hG : gd ops l gu = some G) (hpx : G = gx ++ ex) (hn : Nat.blt d n = true)
    (hs : P.underlying src = some u) (ht : P.underlying dst = some (.int kd')) (he : allT G → kd'.wrap a = z) (h : Qo P R ds n ops C ((d, G, .int kd' z) :: l) os k) :
    Qo P R ds n ops C l ({ dst := some d, op := .convert src dst x, type := ty, pos := ps, after := af, guard := gu } :: os) k :=
  qopv hG rfl hn (fun hT w hw A ha => by
    simp only [execOp, ha.eval hx (pre_T hpx hT)]
    simp [Go.convert, underlying, program, hs, ht, Conv.intToInt, bind, Sem.bind, pure, Sem.run, he hT]) h


theorem qld1 {T : TypeId} {sz : Nat} {zc : List Value} {b off i : Nat} {T' : TypeId} {c : List Value} {v : Value} (hx : ev l x = some (gx, .pointer (some ⟨b, off, none⟩))) (hT : TyI P T sz false zc)
    (S : ∀ w, C w → St N0 w0 L w) (hk : getN L i = some (.var b T' c)) (hv : getN c off = some v) (hG : gd ops l gu = some G) (hpx : G = gx ++ ex) (hn : Nat.blt d n = true)
    (h : Qo P R ds n ops C ((d, G, v) :: l) os k) :
    Qo P R ds n ops C l ({ dst := some d, op := .load T x, type := ty, pos := ps, after := af, guard := gu } :: os) k := by
  obtain ⟨i, z, dd, h1, h2, h3, h4, h5, h6⟩ := hT.get
  refine qopv hG rfl hn ?_ h
  intro hT' w hw a ha
  have hc : w.cell? ⟨b, off, none⟩ = some v := by
    rw [cell_of_row w b off _ _ _ ((S w hw).var hk), ← hv, getN_eq]; simp
  simp only [execOp, ha.eval hx (pre_T hpx hT'), Instr.loadAt, Instr.sureAddr, loadVar, isAgg]
  cases dd <;> simp [aggD] at h6 <;> simp [run_underlying h5, hc]


theorem qldA {T : TypeId} {sz : Nat} {zc : List Value} {b off i : Nat} {T' : TypeId} {c cs : List Value} (hx : ev l x = some (gx, .pointer (some ⟨b, off, none⟩))) (hT : TyI P T sz true zc)
    (S : ∀ w, C w → St N0 w0 L w) (hk : getN L i = some (.var b T' c)) (hv : subN c off sz = some cs) (hl : cs.length = sz) (h0 : sz ≠ 0) (hG : gd ops l gu = some G) (hpx : G = gx ++ ex) (hn : Nat.blt d n = true)
    (h : Qo P R ds n ops C ((d, G, .agg cs.toArray) :: l) os k) :
    Qo P R ds n ops C l ({ dst := some d, op := .load T x, type := ty, pos := ps, after := af, guard := gu } :: os) k := by
  obtain ⟨i, z, dd, h1, h2, h3, h4, h5, h6⟩ := hT.get
  refine qopv hG rfl hn ?_ h
  intro hT' w hw a ha
  subst hl
  have hl := run_loadCells_list (P := P) (w := w) ⟨b, off, none⟩ cs (cellsLoad ((S w hw).var hk) hv h0)
  simp only [execOp, ha.eval hx (pre_T hpx hT'), Instr.loadAt, Instr.sureAddr, loadVar, isAgg]
  cases dd <;> simp [aggD] at h6 <;> simp [run_underlying h5, sizeOf, typeInfo, h1, h2, hl]


theorem qldW {T : TypeId} {sz : Nat} {zc : List Value} {b i : Nat} {T' : TypeId} {c : List Value} (hx : ev l x = some (gx, .pointer (some ⟨b, 0, none⟩))) (hT : TyI P T sz true zc)
    (S : ∀ w, C w → St N0 w0 L w) (hk : getN L i = some (.var b T' c)) (hl : c.length = sz) (hG : gd ops l gu = some G) (hpx : G = gx ++ ex) (hn : Nat.blt d n = true)
    (h : Qo P R ds n ops C ((d, G, .agg c.toArray) :: l) os k) :
    Qo P R ds n ops C l ({ dst := some d, op := .load T x, type := ty, pos := ps, after := af, guard := gu } :: os) k := by
  obtain ⟨i, z, dd, h1, h2, h3, h4, h5, h6⟩ := hT.get
  refine qopv hG rfl hn ?_ h
  intro hT' w hw a ha
  subst hl
  have hl := run_loadCells_list (P := P) (w := w) ⟨b, 0, none⟩ c (fun j v hj => by
    rw [add_new, cell_of_row w b (0 + j) _ _ _ ((S w hw).var hk), ← hj]; simp)
  simp only [execOp, ha.eval hx (pre_T hpx hT'), Instr.loadAt, Instr.sureAddr, loadVar, isAgg]
  cases dd <;> simp [aggD] at h6 <;> simp [run_underlying h5, sizeOf, typeInfo, h1, h2, hl]


theorem qfld {T : TypeId} {f o o' : Nat} {b off : Nat} (hx : ev l x = some (gx, .pointer (some ⟨b, off, none⟩))) (hf : fldO P T f = some o) (ho : off + o = o') (hG : gd ops l gu = some G) (hpx : G = gx ++ ex) (hn : Nat.blt d n = true)
    (h : Qo P R ds n ops C ((d, G, .pointer (some ⟨b, o', none⟩)) :: l) os k) :
    Qo P R ds n ops C l ({ dst := some d, op := .fieldAddr T x f, type := ty, pos := ps, after := af, guard := gu } :: os) k := by
  subst ho
  refine qopv hG rfl hn ?_ h
  intro hT w hw a ha
  simp only [execOp, ha.eval hx (pre_T hpx hT)]
  rw [Sem.run_bind, fldO_spec hf rfl]; rfl


theorem qnilc {p : Addr} (hx : ev l x = some (gx, .pointer (some p))) (hG : gd ops l gu = some G) (hpx : G = gx ++ ex) (hn : Nat.blt d n = true)
    (h : Qo P R ds n ops C ((d, G, .pointer (some p)) :: l) os k) :
    Qo P R ds n ops C l ({ dst := some d, op := .nilCheck x, type := ty, pos := ps, after := af, guard := gu } :: os) k := by
  refine qopv hG rfl hn ?_ h
  intro hT w hw a ha
  simp only [execOp, ha.eval hx (pre_T hpx hT)]
  rfl


theorem qlenS {T E : TypeId} {sz m : Nat} {v : Value} {cs : List Value} (hx : ev l x = some (gx, v)) (hS : Sl N0 w0 sz v m cs) (hT : P.underlying T = some (.slice E)) (hG : gd ops l gu = some G) (hpx : G = gx ++ ex) (hn : Nat.blt d n = true)
    (h : Qo P R ds n ops C ((d, G, .int .i64 m) :: l) os k) :
    Qo P R ds n ops C l ({ dst := some d, op := .call { callee := .builtin .len, args := #[x], argTypes := #[T] }, type := ty, pos := ps, after := af, guard := gu } :: os) k := by
  obtain ⟨_, A, cap, rfl, _⟩ := hS
  refine qopv hG rfl hn ?_ h
  intro hT' w hw a ha
  simp [execOp, resolve, invoke, builtin, Builtin.len_, ha.eval hx (pre_T hpx hT'), run_underlying hT, goInt]


theorem qixa {T E : TypeId} {sz by_ m : Nat} {zc : List Value} {v : Value} {cs : List Value} {kd : IntKind} {i : Int} (hx : ev l x = some (gx, v)) (hy : ev l y = some (gy, .int kd i)) (hS : Sl N0 w0 sz v m cs) (hE : ElT P T E sz by_ zc)
    (hG : gd ops l gu = some G) (hpx : G = gx ++ ex) (hpy : G = gy ++ ey) (hn : Nat.blt d n = true) (hb : allT G → 0 ≤ i ∧ i < m)
    (h : Qo P R ds n ops C ((d, G, eP v (i.toNat * sz)) :: l) os k) :
    Qo P R ds n ops C l ({ dst := some d, op := .indexAddr T x y, type := ty, pos := ps, after := af, guard := gu } :: os) k := by
  refine qopv hG rfl hn ?_ h
  intro hT w hw a ha
  obtain ⟨i1, z, g1, g2, g3, g4, g5⟩ := hE.get
  have hb' := hb hT
  have hj : i.toNat * sz < cs.length := by
    rw [hS.1]
    exact lt_mul (by omega) hE.p
  obtain ⟨A, cap, rfl, hsp, he, _⟩ := hS.some hj
  simp only [execOp, ha.eval hx (pre_T hpx hT), ha.eval hy (pre_T hpy hT)]
  rw [he]
  simp [Instr.indexAt, asIntOf, run_underlying hE.u, hb'.1, hb'.2, sizeOf, typeInfo, g1, g2, add_addr hsp]


theorem qflE {T : TypeId} {f o sz m j : Nat} {v : Value} {cs : List Value} (hx : ev l x = some (gx, eP v j)) (hS : Sl N0 w0 sz v m cs) (hf : fldO P T f = some o) (hG : gd ops l gu = some G) (hpx : G = gx ++ ex) (hn : Nat.blt d n = true)
    (hj : allT G → j < cs.length) (h : Qo P R ds n ops C ((d, G, eP v (j + o)) :: l) os k) :
    Qo P R ds n ops C l ({ dst := some d, op := .fieldAddr T x f, type := ty, pos := ps, after := af, guard := gu } :: os) k := by
  refine qopv hG rfl hn ?_ h
  intro hT w hw a ha
  obtain ⟨A, cap, rfl, hsp, he, _⟩ := hS.some (hj hT)
  simp only [execOp, ha.eval hx (pre_T hpx hT), he]
  rw [Sem.run_bind, fldO_spec hf rfl]
  simp [eP, Nat.add_assoc]


theorem qldE {T : TypeId} {sz tsz m j : Nat} {zc : List Value} {v u : Value} {cs : List Value} (hx : ev l x = some (gx, eP v j)) (hS : Sl N0 w0 sz v m cs) (S : ∀ w, C w → St N0 w0 L w) (hT : TyI P T tsz false zc) (hG : gd ops l gu = some G) (hpx : G = gx ++ ex) (hn : Nat.blt d n = true)
    (hv : allT G → cs[j]? = some u) (h : Qo P R ds n ops C ((d, G, u) :: l) os k) :
    Qo P R ds n ops C l ({ dst := some d, op := .load T x, type := ty, pos := ps, after := af, guard := gu } :: os) k := by
  obtain ⟨i, z, dd, h1, h2, h3, h4, h5, h6⟩ := hT.get
  refine qopv hG rfl hn ?_ h
  intro hT' w hw a ha
  have hu := hv hT'
  have hj : j < cs.length := by
    rcases Nat.lt_or_ge j cs.length with h | h
    · exact h
    · rw [List.getElem?_eq_none h] at hu; cases hu
  obtain ⟨A, cap, rfl, hsp, he, hc, hb⟩ := hS.some hj
  have hc' : w.cell? ⟨A.block, A.off + j, none⟩ = some u := by
    rw [cell_congr (w := w0) ((S w hw).keep _ (cell_lt hc) hb), hc, ← hu, List.getElem?_eq_getElem hj]
  simp only [execOp, ha.eval hx (pre_T hpx hT'), he, Instr.loadAt, Instr.sureAddr, loadVar, isAgg]
  cases dd <;> simp [aggD] at h6 <;> simp [run_underlying h5, hc']


theorem qldEA {T : TypeId} {sz m j tsz : Nat} {zc : List Value} {v : Value} {cs us : List Value} (hx : ev l x = some (gx, eP v j)) (hS : Sl N0 w0 sz v m cs) (S : ∀ w, C w → St N0 w0 L w) (hT : TyI P T tsz true zc) (hG : gd ops l gu = some G) (hpx : G = gx ++ ex) (hn : Nat.blt d n = true)
    (h0 : tsz ≠ 0) (hl : us.length = tsz) (hv : allT G → j + tsz ≤ cs.length ∧ (cs.drop j).take tsz = us) (h : Qo P R ds n ops C ((d, G, .agg us.toArray) :: l) os k) :
    Qo P R ds n ops C l ({ dst := some d, op := .load T x, type := ty, pos := ps, after := af, guard := gu } :: os) k := by
  obtain ⟨i, z, dd, h1, h2, h3, h4, h5, h6⟩ := hT.get
  refine qopv hG rfl hn ?_ h
  intro hT' w hw a ha
  obtain ⟨hlen, hus⟩ := hv hT'
  obtain ⟨A, cap, hve, hsp, he, _, _⟩ := hS.some (j := j) (by omega)
  have hcs : ∀ q u, us[q]? = some u → w.cell? ((⟨A.block, A.off + j, none⟩ : Addr).add q) = some u := by
    intro q u hq
    have hqlt : q < us.length := by
      rcases Nat.lt_or_ge q us.length with h | h
      · exact h
      · rw [List.getElem?_eq_none h] at hq; cases hq
    obtain ⟨A', cap', hve', hsp', he', hc', hb'⟩ := hS.some (j := j + q) (by omega)
    rw [hve] at hve'
    simp only [Value.slice.injEq, Option.some.injEq] at hve'
    obtain ⟨rfl, _⟩ := hve'
    rw [add_new, Nat.add_assoc, cell_congr (w := w0) ((S w hw).keep _ (cell_lt hc') hb'), hc', ← hq]
    have e : us[q]? = ((cs.drop j).take tsz)[q]? := by rw [hus]
    rw [e, List.getElem?_take, if_pos (by omega), List.getElem?_drop, List.getElem?_eq_getElem (by omega)]
  have hl' := run_loadCells_list (P := P) (w := w) ⟨A.block, A.off + j, none⟩ us hcs
  rw [hl] at hl'
  simp only [execOp, ha.eval hx (pre_T hpx hT'), he, Instr.loadAt, Instr.sureAddr, loadVar, isAgg]
  cases dd <;> simp [aggD] at h6 <;> simp [run_underlying h5, sizeOf, typeInfo, h1, h2, hl']


theorem qbld {T : TypeId} {places : List (Nat × Nat)} {zc c : List Value} {parts : List (Nat × Operand)} {qs : List (Nat × List Value)} (hT : BldT P T places zc)
    (hp : Pts l G (getN places) parts qs) (hf : fillN zc qs = some c) (hG : gd ops l gu = some G) (hn : Nat.blt d n = true)
    (h : Qo P R ds n ops C ((d, G, .agg c.toArray) :: l) os k) :
    Qo P R ds n ops C l ({ dst := some d, op := .build T parts.toArray, type := ty, pos := ps, after := af, guard := gu } :: os) k := by
  refine qopv hG rfl hn ?_ h
  intro hT' w hw a ha
  obtain ⟨fs, hu⟩ := hT.s
  have hpl := hT.p w
  simp only [Sem.run_bind, run_underlying hu, Result.andThen_ok] at hpl
  have hfr := fill_run _ qs zc c (Pts.get ha hT' hp) hf
  have hpe : (fun i => places.toArray[i]?) = getN places := by funext i; rw [getN_eq]; simp
  simp only [execOp, Instr.build, Sem.run_bind, hT.z w, Result.andThen_ok, run_underlying hu, Value.cells]
  rw [hpl]
  simp only [Result.andThen_ok]
  have e : (parts.toArray.map fun x => (x.1, a.eval x.2)).toList = parts.map fun p => (p.1, a.eval p.2) := by simp
  rw [e, hpe, hfr]
  rfl


theorem qslA {T E : TypeId} {m hi b off : Nat} {o2 : Option Operand} {i2 : Option Nat} {ei : TypeInfo} (hx : ev l x = some (gx, .pointer (some ⟨b, off, none⟩))) (hu : P.underlying T = some (.array m E)) (hi' : P.info? E = some ei)
    (hG : gd ops l gu = some G) (hpx : G = gx ++ ex) (hn : Nat.blt d n = true) (h2 : bnd l G o2 i2) (e2 : i2.getD m = hi) (hb : Nat.ble hi m = true) (h0 : m ≠ 0)
    (h : Qo P R ds n ops C ((d, G, .slice (some ⟨b, off, none⟩) hi m) :: l) os k) :
    Qo P R ds n ops C l ({ dst := some d, op := .slice T x none o2 none, type := ty, pos := ps, after := af, guard := gu } :: os) k := by
  have hb' : hi ≤ m := Nat.le_of_ble_eq_true hb
  refine qopv hG rfl hn ?_ h
  intro hT w hw a ha
  obtain ⟨k2, q2⟩ := bnd_eval ha hT h2
  simp only [execOp, ha.eval hx (pre_T hpx hT), Option.map_none, q2]
  cases i2 with
  | none =>
    simp only [Option.getD_none] at e2; subst e2
    simp [Instr.sliceAt, run_underlying hu, Instr.sureAddr, Instr.sliceBounds, sizeOf, typeInfo, hi', h0, add_new]
  | some i2 =>
    simp only [Option.getD_some] at e2; subst e2
    simp [Instr.sliceAt, run_underlying hu, Instr.sureAddr, Instr.sliceBounds, sizeOf, typeInfo, hi', h0, sb_run (P := P) hb', add_new]


theorem qcvS {src dst E : TypeId} {by_ : Nat} {zc : List Value} {v : Value} {bs : List Int} (hx : ev l x = some (gx, v)) (hB : BS N0 w0 v bs) (S : ∀ w, C w → St N0 w0 L w) (hE : ElT P src E 1 by_ zc) (hu8 : P.underlying E = some (.int .u8)) (hd : P.underlying dst = some .string)
    (hG : gd ops l gu = some G) (hpx : G = gx ++ ex) (hn : Nat.blt d n = true) (h : Qo P R ds n ops C ((d, G, .string (strB bs)) :: l) os k) :
    Qo P R ds n ops C l ({ dst := some d, op := .convert src dst x, type := ty, pos := ps, after := af, guard := gu } :: os) k := by
  refine qopv hG rfl hn ?_ h
  intro hT w hw a ha
  have hB' := hB.now (S w hw)
  obtain ⟨hlen, A, cap, rfl, hcap, hA, hR⟩ := hB'.2
  simp only [execOp, ha.eval hx (pre_T hpx hT), Sem.run_bind]
  rw [run_convert_bytes_string w src dst E A _ _ hE.u hu8 hd]
  cases A with
  | none =>
    have hc := hA rfl
    have : bs = [] := List.eq_nil_of_length_eq_zero (by omega)
    subst this
    simp [Conv.bytesToString, strB]
  | some a =>
    have hl := run_loadCells_list (P := P) (w := w) a (bs.map u8) hR.cells
    rw [List.length_map] at hl
    rw [run_bytesToString w a bs.length cap bs (by rw [hl])]
    rfl


theorem qeqS {t yt : TypeId} {a b : List Int} (hx : ev l x = some (gx, .string (strB a))) (hy : ev l y = some (gy, .string (strB b))) (ha : byt a) (hb : byt b) (hG : gd ops l gu = some G) (hpx : G = gx ++ ex) (hpy : G = gy ++ ey) (hn : Nat.blt d n = true)
    (h : Qo P R ds n ops C ((d, G, .bool (decide (a = b))) :: l) os k) :
    Qo P R ds n ops C l ({ dst := some d, op := .binOp .eql t x y yt, type := ty, pos := ps, after := af, guard := gu } :: os) k :=
  qbin hx hy hG hpx hpy hn (fun _ w => by
    have h2 : eqGuard .eql t x y (.string (strB a)) (.string (strB b)) = pure () := by unfold eqGuard; rfl
    rw [h2]
    have h3 : ((strB a).toList == (strB b).toList) = decide (a = b) := by
      rw [Bool.eq_iff_iff]; simp [strB_inj ha hb]
    simp [binOp, Op.stringOp, h3]) h


theorem qeqB {t yt : TypeId} {a b : Bool} (hx : ev l x = some (gx, .bool a)) (hy : ev l y = some (gy, .bool b)) (ht : P.underlying t = some .bool) (hG : gd ops l gu = some G) (hpx : G = gx ++ ex) (hpy : G = gy ++ ey) (hn : Nat.blt d n = true)
    (h : Qo P R ds n ops C ((d, G, .bool (a == b)) :: l) os k) :
    Qo P R ds n ops C l ({ dst := some d, op := .binOp .eql t x y yt, type := ty, pos := ps, after := af, guard := gu } :: os) k :=
  qbin hx hy hG hpx hpy hn (fun _ w => by
    have h2 : eqGuard .eql t x y (.bool a) (.bool b) = pure () := by unfold eqGuard; rfl
    rw [h2]
    simp [binOp, run_equal_bool w t a b ht]) h

theorem qneB {t yt : TypeId} {a b : Bool} (hx : ev l x = some (gx, .bool a)) (hy : ev l y = some (gy, .bool b)) (ht : P.underlying t = some .bool) (hG : gd ops l gu = some G) (hpx : G = gx ++ ex) (hpy : G = gy ++ ey) (hn : Nat.blt d n = true)
    (h : Qo P R ds n ops C ((d, G, .bool (!(a == b))) :: l) os k) :
    Qo P R ds n ops C l ({ dst := some d, op := .binOp .neq t x y yt, type := ty, pos := ps, after := af, guard := gu } :: os) k :=
  qbin hx hy hG hpx hpy hn (fun _ w => by
    have h2 : eqGuard .neq t x y (.bool a) (.bool b) = pure () := by unfold eqGuard; rfl
    rw [h2]
    simp [binOp, run_equal_bool w t a b ht]) h


theorem qldB {T : TypeId} {tsz : Nat} {zc : List Value} {v : Value} {bs : List Int} {j : Nat} (hx : ev l x = some (gx, eP v j)) (hB : BS N0 w0 v bs) (S : ∀ w, C w → St N0 w0 L w) (hT : TyI P T tsz false zc)
    (hG : gd ops l gu = some G) (hpx : G = gx ++ ex) (hn : Nat.blt d n = true) (hj : allT G → j < bs.length)
    (h : ∀ q, q = bs.getD j 0 → 0 ≤ q ∧ q < 256 → Qo P R ds n ops C ((d, G, .int .u8 q) :: l) os k) :
    Qo P R ds n ops C l ({ dst := some d, op := .load T x, type := ty, pos := ps, after := af, guard := gu } :: os) k :=
  qldE hx hB.2 S hT hG hpx hn (fun hT => bs_cell (hj hT)) (h _ rfl (byt_getD hB.1 j))


theorem qldI {T : TypeId} {tsz : Nat} {zc : List Value} {v : Value} {bs : List Int} {j : Nat} (hx : ev l x = some (gx, eP v j)) (hB : IS N0 w0 v bs) (S : ∀ w, C w → St N0 w0 L w) (hT : TyI P T tsz false zc)
    (hG : gd ops l gu = some G) (hpx : G = gx ++ ex) (hn : Nat.blt d n = true) (hj : allT G → j < bs.length)
    (h : ∀ q, q = bs.getD j 0 → Qo P R ds n ops C ((d, G, .int .i64 q) :: l) os k) :
    Qo P R ds n ops C l ({ dst := some d, op := .load T x, type := ty, pos := ps, after := af, guard := gu } :: os) k :=
  qldE hx hB S hT hG hpx hn (fun hT => is_cell (hj hT)) (h _ rfl)


end op
end Go.Proofs.YtkahmepenjhcpaaDoor.W
