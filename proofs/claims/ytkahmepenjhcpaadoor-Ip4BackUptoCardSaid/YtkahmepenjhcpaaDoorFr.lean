/- The base of this seat's proofs, eleventh part: regions that draw their order and do more than read. No statement of the seat is proved here. -/
import Derived.Test.YtkahmepenjhcpaaDoorFi
import Derived.OrdersHeld
namespace Go.Proofs.YtkahmepenjhcpaaDoor.W
open Go
set_option linter.unusedSimpArgs false
set_option linter.unusedVariables false

def valB : Op → Bool
  | .move _ | .assign _ | .pick .. | .load .. | .binOp .. | .unOp .. | .convert .. | .slice .. | .fieldAddr .. | .indexAddr .. | .extract .. | .build .. | .makeFunc .. => true
  | .call c => match c.callee with
    | .builtin .len => true
    | _ => false
  | _ => false

theorem val_bind {P : Program} {s : Sem Value} {nx : Next} {w w' : World} (h : (do pure (Next.value (← s)) : Sem Next).run P w = .ok nx w') : ∃ u, nx = .value u := by
  rw [Sem.run_bind] at h
  cases hr : s.run P w with
  | ok v w1 => rw [hr] at h; simp only [Result.andThen_ok, Sem.run_pure, Result.ok.injEq] at h; exact ⟨v, h.1.symm⟩
  | halt x w1 => rw [hr] at h; simp [Result.andThen] at h

theorem val_op {P : Program} {ρ : Operand → Value} {o : Oper} {nx : Next} {w w' : World} (hv : valB o.op = true) (h : (execOp ρ o).run P w = .ok nx w') : ∃ u, nx = .value u := by
  obtain ⟨dst, op, ty, ps, af, gu⟩ := o
  cases op <;> simp only [valB, Bool.false_eq_true] at hv <;> simp only [execOp] at h
  all_goals first
    | exact val_bind h
    | (simp only [Sem.run_pure, Result.ok.injEq] at h; exact ⟨_, h.1.symm⟩)
    | skip
  case pick c x y =>
    rw [Sem.run_bind] at h
    cases hr : (asBool (ρ c)).run P w with
    | ok v w1 => rw [hr] at h; simp only [Result.andThen_ok, Sem.run_pure, Result.ok.injEq] at h; exact ⟨_, h.1.symm⟩
    | halt x w1 => rw [hr] at h; simp [Result.andThen] at h
  case call c =>
    obtain ⟨callee, args, at_⟩ := c
    cases callee <;> simp only [Bool.false_eq_true] at hv
    case builtin b =>
      cases b <;> simp only [Bool.false_eq_true] at hv
      simp only [resolve, Sem.run_bind, Sem.run_pure, Result.andThen_ok, invoke, builtin] at h
      cases hr : (Builtin.len_ at_ ty (Array.map ρ args)).run P w with
      | ok v w1 => rw [hr] at h; simp only [Result.andThen_ok, Result.ok.injEq] at h; exact ⟨v, h.1.symm⟩
      | halt x w1 => rw [hr] at h; simp [Result.andThen] at h

theorem qslAT {P : Program} {R : Qp} {ds : List Deferred} {n : Nat} {l : Env} {k : List KI} {C : World → Prop} {ops : Array Oper} {os : List Oper} {d : Nat} {G gx ex : Gs} {ty : TypeId} {ps : String} {af : Array Edge} {gu : Option (Nat × Bool)} {x : Operand}
    {T E : TypeId} {m hi b off sz : Nat} {ag : Bool} {zc : List Value} {o2 : Option Operand} {i2 : Option Nat} (hx : ev l x = some (gx, .pointer (some ⟨b, off, none⟩))) (hu : P.underlying T = some (.array m E)) (hi' : TyI P E sz ag zc)
    (hG : gd ops l gu = some G) (hpx : G = gx ++ ex) (hn : Nat.blt d n = true) (h2 : bnd l G o2 i2) (e2 : i2.getD m = hi) (hb : Nat.ble hi m = true) (h0 : m ≠ 0)
    (h : Qo P R ds n ops C ((d, G, .slice (some ⟨b, off, none⟩) hi m) :: l) os k) :
    Qo P R ds n ops C l ({ dst := some d, op := .slice T x none o2 none, type := ty, pos := ps, after := af, guard := gu } :: os) k := by
  obtain ⟨ei, _, _, he, _⟩ := hi'.get
  exact qslA hx hu he hG hpx hn h2 e2 hb h0 h

theorem cells1 {v : Value} (h : v.oneCell' = true) : v.cells.toList = [v] := by rw [cells_one h]

/-- some of the rows -/
def pickB : List Own → List Bool → List Own
  | o :: L, b :: ks => bif b then o :: pickB L ks else pickB L ks
  | L, [] => L
  | [], _ => []
theorem pickB_sub : ∀ (L : List Own) (ks : List Bool), (pickB L ks).Sublist L
  | o :: L, true :: ks => (pickB_sub L ks).cons_cons o
  | o :: L, false :: ks => (pickB_sub L ks).cons o
  | [], [] => List.Sublist.slnil
  | o :: L, [] => List.Sublist.refl _
  | [], b :: ks => List.Sublist.slnil
theorem idsL_sub {L L' : List Own} (h : L'.Sublist L) : (idsL L').Sublist (idsL L) := by
  induction h with
  | slnil => exact List.Sublist.refl _
  | cons a h ih => simp only [idsL]; exact ih.trans (List.sublist_append_right _ _)
  | cons_cons a h ih => simp only [idsL]; exact (List.Sublist.refl _).append ih
theorem St.pick {N0 : List Nat} {w0 w : World} {L L' : List Own} (S : St N0 w0 L w) (ks : List Bool) (h : pickB L ks = L') : St N0 w0 L' w := by
  subst h
  exact S.perm (fun o ho => (pickB_sub L ks).subset ho) (S.nodup.sublist (idsL_sub (pickB_sub L ks)))

def Pp (R : Qp) : Prop := ∀ c a d v w, R (.panic c) (a.put d v) w → R (.panic c) a w
theorem Pp.body {P : Program} {fn : Func} {Rr : Value → World → Prop} : Pp (bodyPost P fn (RV Rr)) := fun c a d v w h => h.2.elim
theorem Pp.kont {P : Program} {R : Qp} (h : Pp R) : ∀ k, Pp (kont P R k)
  | [] => h
  | .code c :: k => fun c a d v w hh => (Pp.kont h k) c a d v w hh
  | .blk id :: k => fun c a d v w hh => (Pp.kont h k) c a d v w hh
  | .back B :: k => fun c a d v w hh => (Pp.kont h k) c a d v w hh

def Ho (P : Program) (R : Qp) (ds : List Deferred) (n : Nat) (ops : Array Oper) (C : World → Prop) (listed : Array Bool) (l : Env) (k : List KI) (fuel : Nat) (w : World) : Prop :=
  ∀ a, En ds n l a → wpAnyH P .any ops (kont P R k) C fuel listed a w

/-- behind an operation that only reads -/
def hR (P : Program) (R : Qp) (ops : Array Oper) (C : World → Prop) (listed : Array Bool) (k : List KI) (fuel : Nat) (w : World) : Qp := fun e a' w' =>
  match e with
  | .normal => w' = w → wpAnyH P .any ops (kont P R k) C fuel listed a' w
  | _ => True
/-- behind one that does more -/
def hE (P : Program) (R : Qp) (ops : Array Oper) (C : World → Prop) (listed : Array Bool) (k : List KI) (fuel : Nat) : Qp := fun e a' w' =>
  match e with
  | .normal => C w' ∧ wpAnyH P .any ops (kont P R k) C fuel listed a' w'
  | e => kont P R k e a' w'

section
variable {P : Program} {R : Qp} {ds : List Deferred} {n : Nat} {l : Env} {k : List KI} {w w0 : World} {C : World → Prop} {ops : Array Oper} {listed : Array Bool} {fuel : Nat} {N0 : List Nat} {L : List Own}

theorem Run.held {id : Nat} {Lq : List Own} (hm : P.follows .mixedOrders = true) (S : St N0 w0 L w) (ks : List Bool) (hq : pickB L ks = Lq) {m : Nat} {ls : Array Bool} (hs : ops.size = m) (hl : Array.replicate m false = ls)
    (h : ∀ w', Bl w w' → St N0 w0 L w' → St N0 w0 Lq w' → Ho P R ds n ops (fun w => St N0 w0 Lq w) ls l k m w') : Run P R ds n l (.region id ops true) k w := by
  subst hs; subst hl
  exact fun a ha => wp_region_held hm (h _ ((St.refl [] w).drew _).bl (S.drew _) ((S.drew _).pick ks hq) a ha)

theorem Ho.take {i : Nat} {o : Oper} {ls : Array Bool} (hC : C w) (hp : Pp R) (hi : ops[i]? = some o) (hs : Region.noSelect ops = true) (hf : Region.free .any ops listed i = true) (hr : (Region.ready .any ops listed).contains i = true) (hv : valB o.op = true) (hl : listed.setIfInBounds i true = ls)
    (h : Qo P (hR P R ops C ls k fuel w) ds n ops C l [o] []) : Ho P R ds n ops C listed l k (fuel + 1) w := by
  subst hl
  intro a ha
  have q := h a ha
  simp only [wpQuiet] at q
  cases hw : Region.wanted o (yielded ops a.tmps) with
  | true =>
    rw [hw] at q
    simp only [if_true] at q
    obtain ⟨v, h1, h2⟩ := q
    have q2 := h2 w hC
    refine wpAnyH_take (v := v) hi hs hf hr (fun c a w hh => (hp.kont k) c a _ _ w hh) (Or.inl ⟨hw, fun w1 hC1 => ?_⟩) hC (q2 rfl)
    have h3 := h1 w1 hC1
    unfold Oper.quietAt at h3
    cases hx : (execOp a.eval o).run P w1 with
    | ok nx w' =>
      obtain ⟨u, rfl⟩ := val_op hv hx
      rw [hx] at h3
      simp only [Oper.quietUpon] at h3
      rw [h3.1, h3.2]
    | halt x w' => rw [hx] at h3; exact h3.elim
  | false =>
    rw [hw] at q
    simp only [Bool.false_eq_true, if_false] at q
    exact wpAnyH_take (v := undef) hi hs hf hr (fun c a w hh => (hp.kont k) c a _ _ w hh) (Or.inr ⟨hw, rfl⟩) hC (q w hC rfl)

theorem Ho.back {l' : Env} (h : Ho P R ds n ops C listed l' k fuel w) : Qo P (hR P R ops C listed k fuel w) ds n ops C l' [] [] :=
  fun a ha w' hw e => h a ha

theorem Ho.on {l' : Env} (hC : C w) (h : Ho P R ds n ops C listed l' k fuel w) : Ro P (hE P R ops C listed k fuel) ds n ops l' [] [] w :=
  fun a ha => ⟨hC, h a ha⟩

theorem Ho.done (hr : Region.ready .any ops listed = []) (h : Nrm P R ds n l k w) : Ho P R ds n ops C listed l k fuel w :=
  fun a ha => wpAnyH_done hr (h a ha) _

theorem wp_hE {o : Oper} {a : Act} {K : Act → World → Prop} (h : o.wp P a w K (hE P R ops C listed k fuel)) : o.wp P a w K (kont P R k) := by
  unfold Oper.wp at *
  generalize (execOp a.eval o).run P w = r at *
  cases r with
  | ok n w' =>
    cases n <;> simp only [Oper.upon] at h ⊢ <;> try exact h
  | halt x w' => cases x <;> simp only [Oper.upon] at h ⊢ <;> exact h

theorem Ho.eff {i : Nat} {o : Oper} {ls : Array Bool} (hi : ops[i]? = some o) (hl : listed.setIfInBounds i true = ls) (h : Ro P (hE P R ops C ls k fuel) ds n ops l [o] [] w) :
    ∀ a, En ds n l a → wpOp P ops (kont P R k) i (fun a' w' => C w' ∧ wpAnyH P .any ops (kont P R k) C fuel (listed.setIfInBounds i true) a' w') a w := by
  subst hl
  intro a ha
  have q := h a ha
  unfold wpOp
  simp only [hi]
  simp only [wpList] at q
  split
  · rename_i hw
    rw [if_pos hw] at q
    rcases q with q | q
    · exact Or.inl (wp_hE q)
    · exact Or.inr ⟨q.1, q.2⟩
  · rename_i hw
    rw [if_neg hw] at q
    exact q

theorem Ho.one {i : Nat} {o : Oper} {ls : Array Bool} (hr : Region.ready .any ops listed = [i]) (hi : ops[i]? = some o) (hl : listed.setIfInBounds i true = ls) (h : Ro P (hE P R ops C ls k fuel) ds n ops l [o] [] w) :
    Ho P R ds n ops C listed l k (fuel + 1) w :=
  fun a ha => wpAnyH_all hr (by simp) (fun j hj => by rw [List.mem_singleton.1 hj]; exact Ho.eff hi hl h a ha)
theorem Ho.two {i i' : Nat} {o o' : Oper} {ls ls' : Array Bool} (hr : Region.ready .any ops listed = [i, i']) (hi : ops[i]? = some o) (hi' : ops[i']? = some o') (hl : listed.setIfInBounds i true = ls) (hl' : listed.setIfInBounds i' true = ls')
    (h : Ro P (hE P R ops C ls k fuel) ds n ops l [o] [] w) (h' : Ro P (hE P R ops C ls' k fuel) ds n ops l [o'] [] w) :
    Ho P R ds n ops C listed l k (fuel + 1) w :=
  fun a ha => wpAnyH_all hr (by simp) (fun j hj => by
    simp only [List.mem_cons, List.not_mem_nil, or_false] at hj
    rcases hj with e | e
    · rw [e]; exact Ho.eff hi hl h a ha
    · rw [e]; exact Ho.eff hi' hl' h' a ha)
theorem Ho.three {i i' i'' : Nat} {o o' o'' : Oper} {ls ls' ls'' : Array Bool} (hr : Region.ready .any ops listed = [i, i', i'']) (hi : ops[i]? = some o) (hi' : ops[i']? = some o') (hi'' : ops[i'']? = some o'') (hl : listed.setIfInBounds i true = ls) (hl' : listed.setIfInBounds i' true = ls') (hl'' : listed.setIfInBounds i'' true = ls'')
    (h : Ro P (hE P R ops C ls k fuel) ds n ops l [o] [] w) (h' : Ro P (hE P R ops C ls' k fuel) ds n ops l [o'] [] w) (h'' : Ro P (hE P R ops C ls'' k fuel) ds n ops l [o''] [] w) :
    Ho P R ds n ops C listed l k (fuel + 1) w :=
  fun a ha => wpAnyH_all hr (by simp) (fun j hj => by
    simp only [List.mem_cons, List.not_mem_nil, or_false] at hj
    rcases hj with e | e | e
    · rw [e]; exact Ho.eff hi hl h a ha
    · rw [e]; exact Ho.eff hi' hl' h' a ha
    · rw [e]; exact Ho.eff hi'' hl'' h'' a ha)
end
end Go.Proofs.YtkahmepenjhcpaaDoor.W
