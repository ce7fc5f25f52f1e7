/- Texts of the proofs of this seat, packed into one (Fx Fv Fw Fy Ct La Lb Lc Se Ld Le Lf). No statement of the seat is proved here. -/
import Derived.Lib.SlBytesConst
import Derived.Test.YtkahmepenjhcpaaDoorKb
/- The base: what a callee may turn of its caller's; regions that draw their order, with calls that only read taken first; functions that hold variables. No statement of the seat is proved here. -/
namespace Go.Proofs.YtkahmepenjhcpaaDoor.W
open Go
set_option linter.unusedVariables false
set_option linter.unusedSimpArgs false
/-! ### what a callee turns -/
structure Tn (w w' : World) (o o' : Own) : Prop where
  os : w'.os = w.os
  tape : w'.tape = w.tape
  output : w'.output = w.output
  size : w.heap.size ≤ w'.heap.size
  keep : ∀ i, i < w.heap.size → i ∉ o.ids → w'.heap[i]? = w.heap[i]?
  hold : o'.holds w'
  ids : ∀ i ∈ o'.ids, i ∈ o.ids ∨ w.heap.size ≤ i
section
variable {N0 N1 N : List Nat} {w0 w w' : World} {L L' : List Own} {o o' : Own} {i j : Nat}
theorem St.tn (S : St N0 w0 L w) (hk : getN L i = some o) (hL : setN L i o' = some L') (T : Tn w w' o o') : St N0 w0 L' w' := by
  obtain ⟨A, B, rfl, rfl⟩ := setN_get hL hk
  exact S.turn T.os T.tape T.output T.size T.keep T.hold T.ids
theorem St.own0 (h : o.holds w) : St o.ids w [o] w :=
  ⟨rfl, rfl, rfl, Nat.le_refl _, fun _ _ _ => rfl, fun i _ h => by simpa [idsL] using h, fun p hp => by rw [List.mem_singleton.1 hp]; exact h, by simpa [idsL] using Own.ids_nodup o⟩
theorem St.toTn (S : St o.ids w L w') (hk : getN L i = some o') : Tn w w' o o' := by
  rw [getN_eq] at hk
  have hm := List.mem_of_getElem? hk
  refine ⟨S.os, S.tape, S.output, S.size, S.keep, S.hold _ hm, fun j hj => ?_⟩
  rcases Nat.lt_or_ge j w.heap.size with h | h
  · left
    rcases Classical.em (j ∈ o.ids) with h2 | h2
    · exact h2
    · exact absurd (List.mem_flatMap.2 ⟨_, hm, hj⟩) (S.off j h h2)
  · exact .inr h
theorem idsL_disj : ∀ {L : List Own} {i j : Nat} {o o' : Own}, (idsL L).Nodup → getN L i = some o → getN L j = some o' → i ≠ j → ∀ x ∈ o.ids, x ∉ o'.ids
  | [], _, _, _, _, _, h, _, _ => by simp [getN] at h
  | p :: L, 0, 0, _, _, _, _, _, hn => absurd rfl hn
  | p :: L, 0, j + 1, o, o', hd, h1, h2, _ => fun x hx hx' => by
    simp only [getN, Option.some.injEq] at h1 h2
    subst h1
    rw [getN_eq] at h2
    simp only [idsL, List.flatMap_cons] at hd
    exact (List.nodup_append.1 hd).2.2 x hx x (List.mem_flatMap.2 ⟨_, List.mem_of_getElem? h2, hx'⟩) rfl
  | p :: L, i + 1, 0, o, o', hd, h1, h2, _ => fun x hx hx' => by
    simp only [getN, Option.some.injEq] at h1 h2
    subst h2
    rw [getN_eq] at h1
    simp only [idsL, List.flatMap_cons] at hd
    exact (List.nodup_append.1 hd).2.2 x hx' x (List.mem_flatMap.2 ⟨_, List.mem_of_getElem? h1, hx⟩) rfl
  | p :: L, i + 1, j + 1, o, o', hd, h1, h2, hn => by
    simp only [getN] at h1 h2
    simp only [idsL, List.flatMap_cons] at hd
    exact idsL_disj (L := L) (List.nodup_append.1 hd).2.1 h1 h2 (by omega)
theorem St.hold_at (S : St N0 w0 L w) (hk : getN L i = some o) : o.holds w := by
  rw [getN_eq] at hk; exact S.hold _ (List.mem_of_getElem? hk)
theorem ids_sub (hk : getN L i = some o) : ∀ x ∈ o.ids, x ∈ idsL L := fun x hx => by
  rw [getN_eq] at hk; exact List.mem_flatMap.2 ⟨_, List.mem_of_getElem? hk, hx⟩
/-- bytes of one's own, beside another row -/
theorem St.bsN {v : Value} {l : List Int} (S : St N0 w0 L w) (hk : getN L i = some (oB v l)) (hj : getN L j = some o) (hn : i ≠ j) (hb : byt l) : BS o.ids w v l :=
  ⟨hb, Own.sl (S.hold_at hk) _ (idsL_disj S.nodup hk hj hn)⟩
/-- begin anew, the base by a name -/
theorem St.reb (S : St N0 w0 L w) : ∃ N, idsL L = N ∧ St N w L w := ⟨_, rfl, S.rebase⟩
theorem St.tran (S : St N0 w0 L w) (e : idsL L = N) (S' : St N w L' w') : St N0 w0 L' w' := by
  subst e; exact S.trans S'
end
/-! ### drawn regions in which calls that only read are taken first -/
section
variable {P : Program} {ops : Array Oper} {Q : Exit → Act → World → Prop} {md : Region.Mode} {C : World → Prop}
def RunsTo (P : Program) (x : Sem Next) (w : World) (v : Value) : Prop :=
  match x.run P w with
  | .ok (.value u) w' => u = v ∧ Bl w w'
  | .ok (.enter f args) w' => w' = w ∧ CallsD P f args w v
  | _ => False
def YR (P : Program) (ops : Array Oper) (C : World → Prop) (o : Oper) (v : Value) (a : Act) : Prop :=
  (Region.wanted o (yielded ops a.tmps) = true ∧ ∀ w, C w → RunsTo P (execOp a.eval o) w v) ∨ (Region.wanted o (yielded ops a.tmps) = false ∧ v = undef)
theorem YR.wpOp {i : Nat} {o : Oper} {v : Value} {a : Act} (hi : ops[i]? = some o) (hy : YR P ops C o v a) {K : Act → World → Prop} {w : World} (hS : C w) (h : ∀ w', Bl w w' → K (a.put o.dst v) w') : wpOp P ops Q i K a w := by
  unfold Go.wpOp
  simp only [hi]
  rcases hy with ⟨hw, hv⟩ | ⟨hw, rfl⟩
  · simp only [hw, if_true]
    left
    have := hv w hS
    unfold RunsTo at this
    unfold Oper.wp
    generalize (execOp a.eval o).run P w = r at *
    cases r with
    | ok n w' =>
      cases n <;> simp only [Oper.upon] at this ⊢ <;> try exact this.elim
      case value u => obtain ⟨rfl, B⟩ := this; exact h _ B
      case enter f args =>
        obtain ⟨rfl, hc⟩ := this
        refine Calls.mono hc fun e w'' he => ?_
        cases e with
        | returned u => obtain ⟨rfl, B⟩ := he; exact h _ B
        | panicked c => exact he.elim
        | outgrown => exact he.elim
    | halt x w' => cases x <;> exact this.elim
  · simp only [hw, Bool.false_eq_true, if_false]; exact h _ (Bl.refl w)
theorem YR.of_same {o : Oper} {v : Value} {a a' : Act} (hy : YR P ops C o v a) (he : execOp a'.eval o = execOp a.eval o) (hw : Region.wanted o (yielded ops a'.tmps) = Region.wanted o (yielded ops a.tmps)) : YR P ops C o v a' := by
  unfold YR at *; rw [he, hw]; exact hy
theorem wpOp_putR {j : Nat} {oi oj : Oper} {v : Value} (hj : ops[j]? = some oj) (hap : oi.apart ops oj = true)
    (hsi : ∀ cs b, oi.op ≠ .select cs b) (hsj : ∀ cs b, oj.op ≠ .select cs b)
    (hQ : ∀ c a w, Q (.panic c) (a.put oi.dst v) w → Q (.panic c) a w) {K : Act → World → Prop} {a : Act} {w : World}
    (hy : YR P ops C oi v a) (h : wpOp P ops Q j K (a.put oi.dst v) w) :
    wpOp P ops Q j (fun a' w' => YR P ops C oi v a' ∧ K (a'.put oi.dst v) w') a w := by
  obtain ⟨h1, h2, h3⟩ := Oper.apart_spec hap
  have keep : ∀ (a : Act), YR P ops C oi v a → ∀ u, YR P ops C oi v (a.put oj.dst u) := fun a hy u =>
    hy.of_same (execOp_put oi hsi a oj.dst u h3) (wanted_put oi a oj.dst u h3)
  have keepD : ∀ d, YR P ops C oi v { a with defers := d :: a.defers } := fun d => hy.of_same rfl rfl
  unfold wpOp at *
  simp only [hj] at *
  rw [wanted_put oj a oi.dst v h1] at h
  split
  · rename_i hw
    simp only [hw, if_true] at h
    rcases h with h | ⟨hasks, hlets⟩
    case inr => exact .inr ⟨by unfold Oper.asks at *; rw [execOp_put oj hsj a oi.dst v h1] at hasks; exact hasks, hlets⟩
    refine .inl ?_
    unfold Oper.wp at *
    rw [execOp_put oj hsj a oi.dst v h1] at h
    generalize (execOp a.eval oj).run P w = r at *
    cases r with
    | ok n w' =>
      cases n <;> simp only [Oper.upon] at h ⊢
      case value u => exact ⟨keep a hy u, by rw [← Act.put_comm a v u h2]; exact h⟩
      case skip => exact ⟨keep a hy _, by rw [← Act.put_comm a v undef h2]; exact h⟩
      case defer d =>
        refine ⟨keep _ (keepD d) _, ?_⟩
        rw [← Act.put_comm _ v undef h2, ← Act.put_defers]
        exact h
      case enter f args =>
        refine Calls.mono h fun e w'' he => ?_
        cases e with
        | returned u => exact ⟨keep a hy u, by rw [← Act.put_comm a v u h2]; exact he⟩
        | panicked c => exact hQ _ _ _ he
        | outgrown => exact he
      case row row args => exact Rows.mono h fun u w'' he => ⟨keep a hy u, by rw [← Act.put_comm a v u h2]; exact he⟩
    | halt x w' =>
      cases x <;> simp only [Oper.upon] at h ⊢
      case panic u => exact hQ _ _ _ h
  · rename_i hw
    simp only [hw] at h
    exact ⟨keep a hy _, by rw [← Act.put_comm a v undef h2]; exact h⟩
/-- whatever order is picked; between two operations the memory may grow -/
def wpB (P : Program) (ops : Array Oper) (Q : Exit → Act → World → Prop) (C : World → Prop) : Nat → Array Bool → Act → World → Prop
  | 0, listed, a, w => ∀ w', Bl w w' → Region.ready .any ops listed = [] ∧ Q .normal a w'
  | fuel + 1, listed, a, w => ∀ w', Bl w w' → (Region.ready .any ops listed = [] → Q .normal a w') ∧
    ∀ i ∈ Region.ready .any ops listed, wpOp P ops Q i (fun a' w'' => C w'' ∧ wpB P ops Q C fuel (listed.setIfInBounds i true) a' w'') a w'
theorem wpB_bl : ∀ {fuel : Nat} {listed : Array Bool} {a : Act} {w w' : World}, wpB P ops Q C fuel listed a w → Bl w w' → wpB P ops Q C fuel listed a w'
  | 0, _, _, _, _, h, B => fun w2 B2 => h w2 (B.trans B2)
  | _ + 1, _, _, _, _, h, B => fun w2 B2 => h w2 (B.trans B2)
theorem wpB_any : ∀ (fuel : Nat) (listed : Array Bool) (a : Act) (w : World), wpB P ops Q C fuel listed a w → wpAny P .any ops Q fuel listed a w
  | 0, _, _, w, h => h w (Bl.refl w)
  | fuel + 1, _, _, w, h => ⟨(h w (Bl.refl w)).1, fun i hi => wpOp_mono (fun a' w' h' => wpB_any fuel _ a' w' h'.2) ((h w (Bl.refl w)).2 i hi)⟩
theorem wpB_first {i : Nat} {oi : Oper} {v : Value} (hi : ops[i]? = some oi) (hsel : ∀ (j : Nat) (o : Oper) cs b, ops[j]? = some o → o.op ≠ .select cs b)
    (hQ : ∀ c a w, Q (.panic c) (a.put oi.dst v) w → Q (.panic c) a w) (hC : ∀ w w', C w → Bl w w' → C w') :
    ∀ (fuel : Nat) (listed : Array Bool) (a : Act) (w : World),
      (∀ j oj, ops[j]? = some oj → j ≠ i → listed.getD j true = false → (∀ e ∈ oj.after, Region.binds .any e = true → e.on ≠ i) → oi.apart ops oj = true) →
      i ∈ Region.ready .any ops listed → YR P ops C oi v a → C w →
      wpB P ops Q C fuel (listed.setIfInBounds i true) (a.put oi.dst v) w → wpB P ops Q C (fuel + 1) listed a w := by
  intro fuel
  induction fuel with
  | zero =>
    intro listed a w _ hr hy hS H w' B
    refine ⟨fun h => (by rw [h] at hr; cases hr), fun j hj => ?_⟩
    by_cases hji : j = i
    · subst hji; exact hy.wpOp hi (hC _ _ hS B) (fun w2 B2 => ⟨hC _ _ (hC _ _ hS B) B2, wpB_bl H (B.trans B2)⟩)
    · have := ready_mono hj hji
      rw [(H w' B).1] at this
      cases this
  | succ fuel ih =>
    intro listed a w hfree hr hy hS H w' B
    refine ⟨fun h => (by rw [h] at hr; cases hr), fun j hj => ?_⟩
    by_cases hji : j = i
    · subst hji; exact hy.wpOp hi (hC _ _ hS B) (fun w2 B2 => ⟨hC _ _ (hC _ _ hS B) B2, wpB_bl H (B.trans B2)⟩)
    · have h1 := (H w' B).2 j (ready_mono hj hji)
      obtain ⟨hjun, oj, hoj, hall⟩ := mem_ready.1 hj
      have hnot : ∀ e ∈ oj.after, Region.binds .any e = true → e.on ≠ i := fun e he hb heq => by
        have h1 := hall e he hb
        have h0 := (mem_ready.1 hr).1
        rw [heq] at h1
        rcases Nat.lt_or_ge i listed.size with h' | h'
        · simp [h'] at h0 h1; rw [h0] at h1; cases h1
        · simp [Array.getElem?_eq_none h'] at h1
      have h2 := wpOp_putR hoj (hfree j oj hoj hji hjun hnot) (fun cs b => hsel i oi cs b hi) (fun cs b => hsel j oj cs b hoj) hQ hy h1
      have hfree' : ∀ k ok, ops[k]? = some ok → k ≠ i → (listed.setIfInBounds j true).getD k true = false →
          (∀ e ∈ ok.after, Region.binds .any e = true → e.on ≠ i) → oi.apart ops ok = true := fun k ok hk hki hun hno => by
        refine hfree k ok hk hki ?_ hno
        by_cases hjk : j = k
        · subst hjk; exact hjun
        · rw [getD_set_ne true hjk] at hun; exact hun
      refine wpOp_mono (fun a' w' h3 => ⟨h3.2.1, ih (listed.setIfInBounds j true) a' w' hfree' (ready_mono hr (Ne.symm hji)) h3.1 h3.2.1 ?_⟩) h2
      rw [Array.setIfInBounds_comm _ _ hji]
      exact h3.2.2
end
def Hb (P : Program) (R : Qp) (ds : List Deferred) (n : Nat) (ops : Array Oper) (C : World → Prop) (listed : Array Bool) (l : Env) (k : List KI) (fuel : Nat) (w : World) : Prop :=
  ∀ a, En ds n l a → wpB P ops (kont P R k) C fuel listed a w
def hRb (P : Program) (R : Qp) (ops : Array Oper) (C : World → Prop) (listed : Array Bool) (k : List KI) (fuel : Nat) (w : World) : Qp := fun e a' w' =>
  match e with
  | .normal => w' = w → wpB P ops (kont P R k) C fuel listed a' w
  | _ => True
def hEb (P : Program) (R : Qp) (ops : Array Oper) (C : World → Prop) (listed : Array Bool) (k : List KI) (fuel : Nat) : Qp := fun e a' w' =>
  match e with
  | .normal => C w' ∧ wpB P ops (kont P R k) C fuel listed a' w'
  | e => kont P R k e a' w'
section
variable {P : Program} {R : Qp} {ds : List Deferred} {n : Nat} {l : Env} {k : List KI} {w w0 : World} {C : World → Prop} {ops : Array Oper} {listed : Array Bool} {fuel : Nat} {N0 : List Nat} {L : List Own}
theorem Run.heldB {id : Nat} {Lq : List Own} (hm : P.follows .mixedOrders = true) (S : St N0 w0 L w) (ks : List Bool) (hq : pickB L ks = Lq) {m : Nat} {ls : Array Bool} (hs : ops.size = m) (hl : Array.replicate m false = ls)
    (h : ∀ w', Bl w w' → St N0 w0 L w' → St N0 w0 Lq w' → Hb P R ds n ops (fun w => St N0 w0 Lq w) ls l k m w') : Run P R ds n l (.region id ops true) k w := by
  subst hs; subst hl
  exact fun a ha => wp_region_any hm (wpB_any _ _ _ _ (h _ ((St.refl [] w).drew _).bl (S.drew _) ((S.drew _).pick ks hq) a ha))
theorem Hb.take {i : Nat} {o : Oper} {ls : Array Bool} (hC : C w) (hCB : ∀ w w', C w → Bl w w' → C w') (hp : Pp R) (hi : ops[i]? = some o) (hs : Region.noSelect ops = true) (hf : Region.free .any ops listed i = true) (hr : (Region.ready .any ops listed).contains i = true) (hv : valB o.op = true) (hl : listed.setIfInBounds i true = ls)
    (h : Qo P (hRb P R ops C ls k fuel w) ds n ops C l [o] []) : Hb P R ds n ops C listed l k (fuel + 1) w := by
  subst hl
  intro a ha
  have q := h a ha
  simp only [wpQuiet] at q
  cases hw : Region.wanted o (yielded ops a.tmps) with
  | true =>
    rw [hw] at q
    simp only [if_true] at q
    obtain ⟨v, h1, h2⟩ := q
    have q2 := h2 w hC
    refine wpB_first (v := v) hi (Region.noSelect_spec hs) (fun c a w hh => (hp.kont k) c a _ _ w hh) hCB fuel listed a w (Region.free_spec hi hf) (by simpa using hr) (Or.inl ⟨hw, fun w1 hC1 => ?_⟩) hC (q2 rfl)
    have h3 := h1 w1 hC1
    unfold Oper.quietAt at h3
    unfold RunsTo
    cases hx : (execOp a.eval o).run P w1 with
    | ok nx w' =>
      obtain ⟨u, rfl⟩ := val_op hv hx
      rw [hx] at h3
      simp only [Oper.quietUpon] at h3
      exact ⟨h3.2, by rw [h3.1]; exact Bl.refl _⟩
    | halt x w' => rw [hx] at h3; exact h3.elim
  | false =>
    rw [hw] at q
    simp only [Bool.false_eq_true, if_false] at q
    exact wpB_first (v := undef) hi (Region.noSelect_spec hs) (fun c a w hh => (hp.kont k) c a _ _ w hh) hCB fuel listed a w (Region.free_spec hi hf) (by simpa using hr) (Or.inr ⟨hw, rfl⟩) hC (q w hC rfl)
theorem Hb.back {l' : Env} (h : Hb P R ds n ops C listed l' k fuel w) : Qo P (hRb P R ops C listed k fuel w) ds n ops C l' [] [] :=
  fun a ha w' hw e => h a ha
/-- a call that only reads -/
theorem Hb.call {i d : Nat} {G : Gs} {ls : Array Bool} {f : FuncId} {xs : List Operand} {vs : List Value} {at_ : Array TypeId} {v : Value} {ty : TypeId} {ps : String} {af : Array Edge} {gu : Option (Nat × Bool)} (hC : C w) (hCB : ∀ w w', C w → Bl w w' → C w') (hp : Pp R)
    (hi : ops[i]? = some { dst := some d, op := .call { callee := .value (.func f), args := xs.toArray, argTypes := at_ }, type := ty, pos := ps, after := af, guard := gu })
    (hs : Region.noSelect ops = true) (hf : Region.free .any ops listed i = true) (hr : (Region.ready .any ops listed).contains i = true) (hl : listed.setIfInBounds i true = ls)
    (hG : gd ops l gu = some G) (hx : Evs l G xs vs) (hk : Callable P f) (hn : Nat.blt d n = true) (hc : allT G → ∀ w, C w → CallsD P f vs.toArray w v)
    (h : Hb P R ds n ops C ls ((d, G, v) :: l) k fuel w) : Hb P R ds n ops C listed l k (fuel + 1) w := by
  subst hl
  intro a ha
  have hn' : d < n := by simpa [Nat.blt_eq] using hn
  cases hw : Region.wanted { dst := some d, op := .call { callee := .value (.func f), args := xs.toArray, argTypes := at_ }, type := ty, pos := ps, after := af, guard := gu } (yielded ops a.tmps) with
  | true =>
    have hw' := hw
    rw [gd_wanted ha hG] at hw'
    have hT := (allB_iff G).1 hw'
    refine wpB_first (v := v) hi (Region.noSelect_spec hs) (fun c a w hh => (hp.kont k) c a _ _ w hh) hCB fuel listed a w (Region.free_spec hi hf) (by simpa using hr) (Or.inl ⟨hw, fun w1 hC1 => ?_⟩) hC (h _ (ha.put_true hn' hT v))
    have hr := call_run (P := P) (w := w1) (d := d) (ty := ty) (ps := ps) (af := af) (gu := gu) (at_ := at_) hk (Evs.eval ha hT hx)
    unfold RunsTo
    rw [hr]
    exact ⟨rfl, hc hT w1 hC1⟩
  | false =>
    have hw' := hw
    rw [gd_wanted ha hG] at hw'
    have hT : ¬ allT G := fun hT => by rw [(allB_iff G).2 hT] at hw'; cases hw'
    exact wpB_first (v := undef) hi (Region.noSelect_spec hs) (fun c a w hh => (hp.kont k) c a _ _ w hh) hCB fuel listed a w (Region.free_spec hi hf) (by simpa using hr) (Or.inr ⟨hw, rfl⟩) hC (h _ (ha.put_false hn' hT v))
theorem Hb.on {l' : Env} (hC : C w) (h : Hb P R ds n ops C listed l' k fuel w) : Ro P (hEb P R ops C listed k fuel) ds n ops l' [] [] w :=
  fun a ha => ⟨hC, h a ha⟩
theorem Hb.done (hr : Region.ready .any ops listed = []) (h : ∀ w', Bl w w' → Nrm P R ds n l k w') : Hb P R ds n ops C listed l k fuel w := by
  intro a ha
  cases fuel with
  | zero => exact fun w' B => ⟨hr, h w' B a ha⟩
  | succ m => exact fun w' B => ⟨fun _ => h w' B a ha, by rw [hr]; simp⟩
theorem wp_hEb {o : Oper} {a : Act} {K : Act → World → Prop} (h : o.wp P a w K (hEb P R ops C listed k fuel)) : o.wp P a w K (kont P R k) := by
  unfold Oper.wp at *
  generalize (execOp a.eval o).run P w = r at *
  cases r with
  | ok n w' =>
    cases n <;> simp only [Oper.upon] at h ⊢ <;> try exact h
  | halt x w' => cases x <;> simp only [Oper.upon] at h ⊢ <;> exact h
theorem Hb.eff {i : Nat} {o : Oper} {ls : Array Bool} (hi : ops[i]? = some o) (hl : listed.setIfInBounds i true = ls) (h : Ro P (hEb P R ops C ls k fuel) ds n ops l [o] [] w) :
    ∀ a, En ds n l a → wpOp P ops (kont P R k) i (fun a' w' => C w' ∧ wpB P ops (kont P R k) C fuel (listed.setIfInBounds i true) a' w') a w := by
  subst hl
  intro a ha
  have q := h a ha
  unfold wpOp
  simp only [hi]
  simp only [wpList] at q
  split
  · rename_i hw
    rw [if_pos hw] at q
    rcases q with q | q
    · exact Or.inl (wp_hEb q)
    · exact Or.inr ⟨q.1, q.2⟩
  · rename_i hw
    rw [if_neg hw] at q
    exact q
theorem Hb.one {i : Nat} {o : Oper} {ls : Array Bool} (hr : Region.ready .any ops listed = [i]) (hi : ops[i]? = some o) (hl : listed.setIfInBounds i true = ls) (h : ∀ w', Bl w w' → Ro P (hEb P R ops C ls k fuel) ds n ops l [o] [] w') :
    Hb P R ds n ops C listed l k (fuel + 1) w :=
  fun a ha w' B => ⟨fun e => by rw [hr] at e; simp at e, fun j hj => by
    rw [hr, List.mem_singleton] at hj; rw [hj]; exact Hb.eff hi hl (h w' B) a ha⟩
theorem Hb.two {i i' : Nat} {o o' : Oper} {ls ls' : Array Bool} (hr : Region.ready .any ops listed = [i, i']) (hi : ops[i]? = some o) (hi' : ops[i']? = some o') (hl : listed.setIfInBounds i true = ls) (hl' : listed.setIfInBounds i' true = ls')
    (h : ∀ w', Bl w w' → Ro P (hEb P R ops C ls k fuel) ds n ops l [o] [] w') (h' : ∀ w', Bl w w' → Ro P (hEb P R ops C ls' k fuel) ds n ops l [o'] [] w') :
    Hb P R ds n ops C listed l k (fuel + 1) w :=
  fun a ha w' B => ⟨fun e => by rw [hr] at e; simp at e, fun j hj => by
    rw [hr] at hj
    simp only [List.mem_cons, List.not_mem_nil, or_false] at hj
    rcases hj with e | e
    · rw [e]; exact Hb.eff hi hl (h w' B) a ha
    · rw [e]; exact Hb.eff hi' hl' (h' w' B) a ha⟩
/-! ### calling a function that holds variables -/
theorem callC {f : FuncId} {xs : List Operand} {vs caps : List Value} {at_ : Array TypeId} {Rr : Value → World → Prop} {d : Nat} {ty : TypeId} {ps : String} {af : Array Edge} {c : Operand} {os : List Oper}
    (hf : ev l c = some ([], .func (.func f) #[] caps.toArray)) (hx : Evs l [] xs vs) (hk : Callable P f) (hn : Nat.blt d n = true) (hc : CallsV P f (vs ++ caps).toArray w Rr)
    (h : ∀ v w', Rr v w' → Ro P R ds n ops ((d, [], v) :: l) os k w') :
    Ro P R ds n ops l ({ dst := some d, op := .call { callee := .value c, args := xs.toArray, argTypes := at_ }, type := ty, pos := ps, after := af, guard := none } :: os) k w := by
  intro a ha
  have hn' : d < n := by simpa [Nat.blt_eq] using hn
  refine wpList_of (fun _ => ?_) (fun hw => by simp [Region.wanted] at hw)
  have hr : (execOp a.eval { dst := some d, op := .call { callee := .value c, args := xs.toArray, argTypes := at_ }, type := ty, pos := ps, after := af, guard := none }).run P w = .ok (.enter f (vs ++ caps).toArray) w := by
    obtain ⟨fn, h1, h2, h3⟩ := hk.ex
    have h4 : xs.toArray.map a.eval = vs.toArray := by rw [← Evs.eval ha (show allT [] from trivial) hx]; simp
    have h2' : ¬ fn.name = "runtime.NumGoroutine" := by simpa using h2
    have h3' : ¬ fn.body = none := by intro e; rw [e] at h3; cases h3
    simp only [execOp, resolve, ha.eval hf trivial, Deferred.ofValue]
    simp [invoke, callFunc, program, h1, h2', h3', bind, Sem.bind, pure, Sem.run, h4]
  simp only [Oper.wp, hr, Oper.upon]
  refine Calls.mono hc ?_
  intro e w' r
  cases e with
  | returned v => exact h v w' r _ (ha.put_nil hn' v)
  | panicked ch => exact r.elim
  | outgrown => exact r.elim
end
end Go.Proofs.YtkahmepenjhcpaaDoor.W
/- The base of this seat's proofs, fifteenth part: bytes of a constant string. No statement of the seat is proved here. -/
namespace Go.Proofs.YtkahmepenjhcpaaDoor.W
open Go
set_option linter.unusedVariables false
set_option linter.unusedSimpArgs false
section op
variable {P : Program} {R : Qp} {ds : List Deferred} {n : Nat} {l : Env} {k : List KI} {w w0 : World} {ops : Array Oper} {os : List Oper}
variable {d d1 : Nat} {ty ty1 : TypeId} {ps ps1 : String} {af af1 : Array Edge} {N0 : List Nat} {L : List Own}
/-- given elements in a new row, the world told -/
theorem bslX {T E : TypeId} {sz by_ len : Nat} {zc c : List Value} {parts : List (Nat × Operand)} {qs : List (Nat × List Value)} (hE : ElT P T E sz by_ zc)
    (hp : Pts l [] (fun i => some (i * sz, sz)) parts qs) (hlen : Nat.ble (len * sz) 16777216 = true)
    (hf : fillN (List.replicate len zc).flatten qs = some c) (hn : Nat.blt d n = true)
    (h : Ro P R ds n ops ((d, [], .slice (some ⟨w.heap.size, 0, none⟩) len len) :: l) os k (w.alloc (.cells c.toArray E))) :
    Ro P R ds n ops l ({ dst := some d, op := .buildSlice T len parts.toArray, type := ty, pos := ps, after := af, guard := none } :: os) k w := by
  have hlen' : len * sz ≤ 16777216 := Nat.le_of_ble_eq_true hlen
  have hzl : ((List.replicate len zc).flatten).length = len * sz := by simp [hE.l]
  have hz : (Array.range (len * sz)).map (fun i => zc.toArray[i % zc.length]!) = ((List.replicate len zc).flatten).toArray := by
    have := range_rep zc (by rw [hE.l]; exact hE.p) len
    rwa [hE.l] at this ⊢
  generalize (List.replicate len zc).flatten = zs at hf hzl hz
  obtain ⟨i, z, g1, g2, g3, g4, g5⟩ := hE.get
  refine opw rfl rfl hn ?_ h
  intro a ha
  have hfr := fill_run _ qs zs c (Pts.get ha (show allT [] from trivial) hp) hf
  have e : (parts.toArray.map fun x => (x.1, a.eval x.2)).toList = parts.map fun p => (p.1, a.eval p.2) := by simp
  have hzc : z.cells = zc.toArray := by rw [← g5]
  have hbig : ¬ (16777216 < len * sz) := by omega
  simp only [execOp, Instr.buildSlice, Sem.run_bind, run_underlying hE.u, Result.andThen_ok, sizeOf, typeInfo, run_program, g1, Sem.run_pure, g2]
  by_cases h0 : len * sz = 0
  · have hzs : zs = [] := List.eq_nil_of_length_eq_zero (by omega)
    subst hzs
    simp [h0, newRow, Array.range_zero'] at *
    rw [hfr]
    simp
  · simp only [hbig, h0, if_false, Sem.run_ite, zeroValue, typeInfo, Sem.run_bind, run_program, Result.andThen_ok, g1, g4, Sem.run_pure, hzc]
    have e2 : (Array.range (len * sz)).map (fun x => zc.toArray[x % zc.toArray.size]!) = zs.toArray := by rw [← hz]; simp
    simp only [gt_iff_lt, Nat.reducePow, hbig, if_false, Sem.run_pure, Result.andThen_ok, e2]
    rw [e, hfr]
    simp [newRow]
/-- the bytes of a constant string: a new, marked row -/
theorem bsk {T : TypeId} {zc : List Value} {len : Nat} {b : List Int} {parts : List (Nat × Operand)} {qs : List (Nat × List Value)} (hE : ElT P T 5 1 1 zc) (h8 : P.underlying 5 = some (.int .u8)) (hb : byt b)
    (hp : Pts l [] (fun i => some (i * 1, 1)) parts qs) (hlen : Nat.ble (len * 1) 16777216 = true)
    (hf : fillN (List.replicate len zc).flatten qs = some (b.map u8)) (hl : b.length = len) (hn1 : Nat.blt d1 n = true) (hn : Nat.blt d n = true) (h0 : len ≠ 0) (S : St N0 w0 L w)
    (h : ∀ u v w', St N0 w0 L w' → Bl w w' → (∀ N, (∀ i ∈ N, i < w.heap.size) → BS N w' v b) → Ro P R ds n ops ((d, [], v) :: (d1, [], u) :: l) os k w') :
    Ro P R ds n ops l ({ dst := some d1, op := .buildSlice T len parts.toArray, type := ty1, pos := ps1, after := af1, guard := none } ::
      { dst := some d, op := .convert T T (.tmp d1), type := ty, pos := ps, after := af, guard := none } :: os) k w := by
  refine bslX hE hp hlen hf hn1 ?_
  have hB : Bl w (w.alloc (.cells (b.map u8).toArray 5 ((b.map u8).toArray.size, (b.map u8).toArray.size + 1))) := bl_alloc w _
  refine opw (v := .slice (some ⟨w.heap.size, 0, none⟩) len len) rfl rfl hn ?_ (h (.slice (some ⟨w.heap.size, 0, none⟩) len len) (.slice (some ⟨w.heap.size, 0, none⟩) len len) _ (S.call hB) hB ?_)
  · intro a ha
    have he : a.eval (.tmp d1) = .slice (some ⟨w.heap.size, 0, none⟩) len len := ha.eval (x := .tmp d1) (g := []) (by simp [ev, lk]) trivial
    simp only [execOp, he]
    rw [Sem.run_bind, Lib.run_convert_bytes_const w T 5 _ len len hE.u h8]
    rfl
  · intro N hN
    refine ⟨hb, by simp [hl], some ⟨w.heap.size, 0, none⟩, len, by rw [hl], by omega, (fun e => nomatch e), ?_⟩
    intro i hi
    refine ⟨_, rfl, rfl, fun hh => by have := hN _ hh; simp at this, ?_⟩
    have : (w.alloc (.cells (b.map u8).toArray 5 ((b.map u8).toArray.size, (b.map u8).toArray.size + 1))).heap[w.heap.size]? = some (.cells (b.map u8).toArray 5 ((b.map u8).toArray.size, (b.map u8).toArray.size + 1)) := by
      show (w.heap.push _)[w.heap.size]? = _
      simp
    simp only [Nat.zero_add]
    unfold World.cell?
    simp only [this]
    simp only [List.getElem?_toArray]
    rw [List.getElem?_eq_getElem hi]
    rfl
end op
end Go.Proofs.YtkahmepenjhcpaaDoor.W
/- The base of this seat's proofs, sixteenth part: a guard that is known. No statement of the seat is proved here. -/
namespace Go.Proofs.YtkahmepenjhcpaaDoor.W
open Go
set_option linter.unusedVariables false
/-- an operation whose guard is met goes as if it had none -/
theorem Ro.gtrue {P : Program} {R : Qp} {ds : List Deferred} {n : Nat} {l : Env} {k : List KI} {w : World} {ops : Array Oper} {os : List Oper} {dst : Option Tmp} {op : Op} {ty : TypeId} {ps : String} {af : Array Edge} {gu : Option (Nat × Bool)} {G : Gs}
    (hG : gd ops l gu = some G) (hT : allT G) (h : Ro P R ds n ops l ({ dst := dst, op := op, type := ty, pos := ps, after := af, guard := none } :: os) k w) :
    Ro P R ds n ops l ({ dst := dst, op := op, type := ty, pos := ps, after := af, guard := gu } :: os) k w := by
  intro a ha
  have q := h a ha
  have hw : Region.wanted { dst := dst, op := op, type := ty, pos := ps, after := af, guard := gu } (yielded ops a.tmps) = true := by
    rw [gd_wanted ha (o := { dst := dst, op := op, type := ty, pos := ps, after := af, guard := gu }) hG]; exact (allB_iff G).2 hT
  simp only [wpList] at q ⊢
  rw [if_pos hw]
  rw [if_pos (by rfl)] at q
  exact q
/-- what was asked for under a guard that is met stands as if there were none -/
theorem Ro.strip {P : Program} {R : Qp} {ds : List Deferred} {n : Nat} {l : Env} {k : List KI} {w : World} {ops : Array Oper} {os : List Oper} {d : Nat} {G : Gs} {v : Value}
    (hT : allT G) (h : Ro P R ds n ops ((d, [], v) :: l) os k w) : Ro P R ds n ops ((d, G, v) :: l) os k w := by
  intro a ha
  refine h a ⟨ha.defers, ha.size, ?_⟩
  intro t g u ht
  simp only [lk] at ht
  cases hb : Nat.beq d t with
  | true =>
    rw [hb] at ht
    simp only [cond_true, Option.some.injEq, Prod.mk.injEq] at ht
    obtain ⟨rfl, rfl⟩ := ht
    have := ha.at_ t G v (by simp [lk, hb])
    rw [this, gval_true hT, gval_nil]
  | false =>
    rw [hb] at ht
    exact ha.at_ t g u (by simp only [lk, hb]; exact ht)
end Go.Proofs.YtkahmepenjhcpaaDoor.W
/- The base: rows of one's own that are only read from here on; cuts; options cut. No statement of the seat is proved here. -/
namespace Go.Proofs.YtkahmepenjhcpaaDoor.W
open Go
set_option linter.unusedVariables false
set_option linter.unusedSimpArgs false
def delN {α : Type} : List α → Nat → Option (List α)
  | [], _ => none
  | _ :: r, 0 => some r
  | x :: r, i + 1 => match delN r i with
    | some r' => some (x :: r')
    | none => none
theorem delN_spec {α : Type} : ∀ (l : List α) (i : Nat) (l' : List α) (o : α), delN l i = some l' → getN l i = some o → ∃ A B, l = A ++ o :: B ∧ l' = A ++ B
  | [], i, l', o, h, _ => by simp [delN] at h
  | x :: r, 0, l', o, h, h2 => by
    simp only [delN, getN, Option.some.injEq] at h h2
    subst h; subst h2
    exact ⟨[], r, rfl, rfl⟩
  | x :: r, i + 1, l', o, h, h2 => by
    simp only [delN, getN] at h h2
    cases hd : delN r i with
    | none => rw [hd] at h; cases h
    | some r' =>
      rw [hd] at h
      simp only [Option.some.injEq] at h
      obtain ⟨A, B, h3, h4⟩ := delN_spec r i r' o hd h2
      subst h
      exact ⟨x :: A, B, by rw [h3]; rfl, by rw [h4]; rfl⟩
section
variable {N0 N1 N : List Nat} {w0 w w' : World} {L L' : List Own} {o : Own} {i j : Nat}
theorem St.layI {v : Value} {T : TypeId} {sz n : Nat} {xs : List Value} (S : St N0 w0 L w) (hk : getN L i = some (.row v T sz n xs)) (hd : delN L i = some L') : Sl (idsL L') w sz v n xs ∧ St N0 w0 L' w := by
  obtain ⟨A, B, rfl, rfl⟩ := delN_spec _ _ _ _ hd hk
  exact ⟨S.lay, S.drop⟩
theorem St.layBI {v : Value} {l : List Int} (S : St N0 w0 L w) (hk : getN L i = some (oB v l)) (hd : delN L i = some L') (hb : byt l) : BS (idsL L') w v l ∧ St N0 w0 L' w :=
  let ⟨a, b⟩ := S.layI hk hd; ⟨⟨hb, a⟩, b⟩
theorem St.layOI {v : Value} {os : List Opt} {ds : List Value} (S : St N0 w0 L w) (hk : getN L i = some (oO v os ds)) (hd : delN L i = some L') (hb : OSs N0 w0 ds os) : OS (idsL L') w v os ∧ St N0 w0 L' w :=
  let ⟨a, b⟩ := S.layI hk hd; ⟨⟨ds, a, (BSs.st b hb)⟩, b⟩
theorem OSs.st {vs : List Value} {os : List Opt} (h : OSs N0 w0 vs os) (S : St N0 w0 L w) : OSs (idsL L) w vs os := BSs.st S h
/-- bytes of one's own, the first n of them -/
theorem BS.cut0 {v : Value} {bs : List Int} {n mx : Nat} (h : BS N w v bs) (hn : n ≤ bs.length ∧ n ≤ mx ∧ mx ≤ capV v) : BS N w (W.cut v 0 n mx) (bs.take n) := by
  have := h.cut (lo := 0) (hi := n) (mx := mx) ⟨Nat.zero_le _, hn.1, hn.2.1, hn.2.2⟩
  rwa [List.drop_zero, Nat.sub_zero] at this
theorem BS.cutOne {N : List Nat} {w : World} {v : Value} {bs : List Int} (h : BS N w v bs) {lo hi mx : Nat} : (W.cut v lo hi mx).oneCell' = true := by
  obtain ⟨_, _, A, cap, rfl, _⟩ := h; rfl
theorem own_slice {v : Value} {l : List Int} (h : (oB v l).holds w) : (v = .slice none 0 0 ∧ l = []) ∨ ∃ b cap, v = .slice (some ⟨b, 0, none⟩) l.length cap ∧ l.length ≤ cap := by
  obtain ⟨h0, h⟩ := h
  rcases h with ⟨rfl, h⟩ | ⟨b, cap, c, rfl, _, hh, hn, _⟩
  · left
    exact ⟨rfl, List.eq_nil_of_length_eq_zero h⟩
  · exact .inr ⟨b, cap, rfl, hn⟩
theorem eP_cut0 {v : Value} {l : List Int} {n mx : Nat} (h : (oB v l).holds w) (hl : l ≠ []) : eP (cut v 0 n mx) = eP v := by
  rcases own_slice h with ⟨_, h2⟩ | ⟨b, cap, rfl, _⟩
  · exact absurd h2 hl
  · funext j
    simp only [cut]
    split <;> simp [eP, add_new]
theorem own_cap {v : Value} {l : List Int} (h : (oB v l).holds w) : l.length ≤ capV v := by
  rcases own_slice h with ⟨rfl, rfl⟩ | ⟨b, cap, rfl, h2⟩
  · simp
  · exact h2
end
theorem BSs.take {N : List Nat} {w : World} : ∀ {vs : List Value} {ls : List (List Int)} (n : Nat), BSs N w vs ls → BSs N w (vs.take n) (ls.take n)
  | [], [], n, h => by simp [BSs]
  | [], _ :: _, _, h => h.elim
  | _ :: _, [], _, h => h.elim
  | _ :: _, _ :: _, 0, h => by simp [BSs]
  | _ :: _, _ :: _, n + 1, h => by simp only [List.take_succ_cons]; exact ⟨h.1, BSs.take n h.2⟩
theorem optC_take : ∀ {os : List Opt} {ds : List Value} (n : Nat), ds.length = os.length → (optC os ds).take (n * 2) = optC (os.take n) (ds.take n)
  | [], [], n, _ => by simp [optC]
  | [], _ :: _, _, h => by simp at h
  | _ :: _, [], _, h => by simp at h
  | o :: os, d :: ds, 0, h => by simp [optC]
  | o :: os, d :: ds, n + 1, h => by
    have e : (n + 1) * 2 = n * 2 + 1 + 1 := by omega
    simp only [optC, e, List.take_succ_cons]
    rw [optC_take n (by simpa using h)]
theorem OS.take {N : List Nat} {w : World} {v' : Value} {os : List Opt} {ds : List Value} {n : Nat} (hB : OSs N w ds os) (hl : ds.length = os.length) (hn : n ≤ os.length) (h : Sl N w 2 v' (n - 0) (((optC os ds).drop (0 * 2)).take ((n - 0) * 2))) : OS N w v' (os.take n) := by
  refine ⟨ds.take n, ?_, ?_⟩
  · rw [Nat.sub_zero, Nat.zero_mul, List.drop_zero, optC_take n hl] at h
    rw [List.length_take, Nat.min_eq_left hn]
    exact h
  · unfold OSs
    rw [List.map_take]
    exact BSs.take n hB
theorem drop_cons' {b : List Int} {i : Nat} (h : i < b.length) : b.drop i = b.getD i 0 :: b.drop (i + 1) := by
  rw [List.drop_eq_getElem_cons h, List.getD_eq_getElem?_getD, List.getElem?_eq_getElem h]; rfl
abbrev marks : List Int := [91, 92, 93]
theorem kept_iff (a b : List Int) : ((((decide ((a.length : Int) = (b.length : Int) + 3) && decide ((a.drop 0).take (b.length - 0) = b)) && decide (a.getD b.length 0 = 91)) && decide (a.getD (b.length + 1) 0 = 92)) && decide (a.getD (b.length + 2) 0 = 93)) = decide (a = b ++ marks) := by
  by_cases h : a = b ++ marks
  · subst h
    simp [List.getD_eq_getElem?_getD]
  · rw [decide_eq_false h]
    cases hc : ((((decide ((a.length : Int) = (b.length : Int) + 3) && decide ((a.drop 0).take (b.length - 0) = b)) && decide (a.getD b.length 0 = 91)) && decide (a.getD (b.length + 1) 0 = 92)) && decide (a.getD (b.length + 2) 0 = 93)) with
    | false => rfl
    | true =>
      simp only [Bool.and_eq_true, decide_eq_true_eq, List.drop_zero, Nat.sub_zero] at hc
      obtain ⟨⟨⟨⟨h1, h2⟩, h3⟩, h4⟩, h5⟩ := hc
      have hd : a.drop b.length = marks := by
        rw [drop_cons' (by omega), drop_cons' (by omega), drop_cons' (by omega), h3, h4, h5, List.drop_eq_nil_of_le (by omega)]
      exact absurd (by rw [← List.take_append_drop b.length a, h2, hd]) h
theorem marks_byt : byt marks := by intro x hx; revert x; decide +kernel
theorem take_marks' (b : List Int) : (b ++ marks).take b.length = b := by simp
/-! ### facts of new memory, kept through a walk -/
section
variable {N0 N R : List Nat} {w0 w : World} {L : List Own} {n : Nat}
theorem mid_drop' {A B R : List Nat} : ∀ i ∈ A ++ R, i ∈ A ++ (B ++ R) := by
  intro i hi
  rcases List.mem_append.1 hi with h | h
  · exact List.mem_append_left _ h
  · exact List.mem_append_right _ (List.mem_append_right _ h)
theorem fin_sub (hN : ∀ i ∈ N, i < n) : ∀ i ∈ N, i ∈ idsL L ++ List.range n := fun i hi => List.mem_append_right _ (List.mem_range.2 (hN i hi))
theorem BS.reF {v : Value} {l : List Int} (h : BS (N0 ++ R) w0 v l) (S : St N0 w0 L w) : BS (idsL L ++ R) w v l := (h.stN (fun _ h => List.mem_append_left _ h) S).weak mid_drop'
theorem BSs.reF {vs : List Value} {ls : List (List Int)} (h : BSs (N0 ++ R) w0 vs ls) (S : St N0 w0 L w) : BSs (idsL L ++ R) w vs ls := BSs.weak mid_drop' (BSs.stN (fun _ h => List.mem_append_left _ h) S h)
theorem OSs.reF {vs : List Value} {os : List Opt} (h : OSs (N0 ++ R) w0 vs os) (S : St N0 w0 L w) : OSs (idsL L ++ R) w vs os := BSs.reF h S
theorem OS.reF {v : Value} {os : List Opt} (h : OS (N0 ++ R) w0 v os) (S : St N0 w0 L w) : OS (idsL L ++ R) w v os :=
  let ⟨vs, h1, h2⟩ := h; ⟨vs, (h1.stN (fun _ h => List.mem_append_left _ h) S).weak mid_drop', BSs.reF h2 S⟩
theorem SS.reF {v : Value} {ls : List (List Int)} (h : SS (N0 ++ R) w0 v ls) (S : St N0 w0 L w) : SS (idsL L ++ R) w v ls :=
  let ⟨vs, h1, h2⟩ := h; ⟨vs, (h1.stN (fun _ h => List.mem_append_left _ h) S).weak mid_drop', BSs.reF h2 S⟩
theorem BS.fin {v : Value} {l : List Int} (h : BS (N0 ++ List.range n) w0 v l) (S : St N0 w0 L w) (hN : ∀ i ∈ N, i < n) : BS N w v l := (h.reF S).weak (fin_sub hN)
theorem OSs.fin {vs : List Value} {os : List Opt} (h : OSs (N0 ++ List.range n) w0 vs os) (S : St N0 w0 L w) (hN : ∀ i ∈ N, i < n) : OSs N w vs os := BSs.weak (fin_sub hN) (h.reF S)
theorem OS.fin {v : Value} {os : List Opt} (h : OS (N0 ++ List.range n) w0 v os) (S : St N0 w0 L w) (hN : ∀ i ∈ N, i < n) : OS N w v os := (h.reF S).weak (fin_sub hN)
theorem SS.fin {v : Value} {ls : List (List Int)} (h : SS (N0 ++ List.range n) w0 v ls) (S : St N0 w0 L w) (hN : ∀ i ∈ N, i < n) : SS N w v ls := (h.reF S).weak (fin_sub hN)
theorem St.ltR (S : St [] w0 L w) : ∀ i ∈ idsL L ++ List.range w0.heap.size, i < w.heap.size := below_app S (fun i hi => List.mem_range.1 hi)
end
end Go.Proofs.YtkahmepenjhcpaaDoor.W
/- Contracts: small functions of the statements and of the reference. No statement of the seat is proved here. -/
namespace Go.Proofs.YtkahmepenjhcpaaDoor.W
open Go
set_option linter.unusedSimpArgs false
set_option linter.unusedVariables false
/-- what the reference has read: new memory -/
def FH (w w' : World) (o d : Value) (h : Ip4) : Prop := Bl w w' ∧ ∀ N, (∀ i ∈ N, i < w.heap.size) → OS N w' o h.opts ∧ BS N w' d h.data
set_option maxHeartbeats 1000000 in
theorem c111 (v : Value) (b : List Int) (i : Nat) (w : World) (hb : BS [] w v b) (hi : i + 1 < b.length) (hl : b.length ≤ 1099511627776) :
  CallsD Tryd.prog 111 #[v, .int .i64 i] w (.int .i64 (256 * b.getD i 0 + b.getD (i + 1) 0)) := by
 refine enter Tryd.func111 rfl Tryd.ntmps111 (l := [(0, [], _), (1, [], _)]) rfl rfl ?_
 have S := St.refl [] w
 refine Run.seq ?_
 refine Run.region ?_
 refine asg1 rfl rfl ?_
 refine Ro.nil ?_
 refine Nrm.code ?_
 refine Run.seq ?_
 refine Run.draw (by kernel_rfl) (by kernel_rfl) S ?_
 refine qmv rfl rfl rfl rfl ?_
 refine qmv rfl rfl rfl rfl ?_
 refine qixa rfl rfl hb.2 e26 rfl rfl rfl rfl (fun _ => by first | omega | (simp only [List.length_cons, List.length_nil]; omega)) ?_
 refine qldB rfl hb (fun _ S => S) T5 rfl rfl rfl (fun _ => by omega) ?_
 intro q8 hq8 hbq8
 try simp only [Int.toNat_natCast, Nat.mul_one, Int.reduceToNat] at hq8
 refine qcvi rfl rfl rfl rfl Tryd.underlying5 Tryd.underlying3 (fun _ => w64 (by omega)) ?_
 refine qmul rfl rfl rfl rfl rfl rfl (fun _ => w64 (by omega)) ?_
 refine qmv rfl rfl rfl rfl ?_
 refine qmv rfl rfl rfl rfl ?_
 refine qadd rfl rfl rfl rfl rfl rfl (fun _ => w64 (by omega)) ?_
 refine qixa rfl rfl hb.2 e26 rfl rfl rfl rfl (fun _ => by first | omega | (simp only [List.length_cons, List.length_nil]; omega)) ?_
 refine qldB rfl hb (fun _ S => S) T5 rfl rfl rfl (fun _ => by omega) ?_
 intro q15 hq15 hbq15
 try simp only [Int.toNat_natCast, Nat.mul_one, Int.reduceToNat] at hq15
 refine qcvi rfl rfl rfl rfl Tryd.underlying5 Tryd.underlying3 (fun _ => w64 (by omega)) ?_
 refine qadd rfl rfl rfl rfl rfl rfl (fun _ => w64 (by omega)) ?_
 refine qasg rfl rfl rfl rfl ?_
 refine Qo.nil (fun w1 S => ?_)
 refine Nrm.code ?_
 refine Run.ret ?_
 refine Rt.one rfl rfl ?_
 have e1 : q8 = b.getD i 0 := hq8
 have e2 : q15 = b.getD (i + 1) 0 := hq15
 exact ⟨by rw [e1, e2], S.bl⟩
set_option maxHeartbeats 1000000 in
theorem c145 (v : Value) (a : List Int) (w : World) (ha : BS [] w v a) (hl : a.length ≤ 1099511627776) :
  CallsV Tryd.prog 145 #[v] w (fun r w' => FB w w' r (a ++ marks)) := by
 refine enter Tryd.func145 rfl Tryd.ntmps145 (l := [(0, [], _)]) rfl rfl ?_
 have S := St.refl [] w
 refine Run.seq ?_
 refine Run.region ?_
 refine asg1 rfl rfl ?_
 refine Ro.nil ?_
 refine Nrm.code ?_
 refine Run.seq ?_
 refine Run.region ?_
 refine mv1 rfl rfl ?_
 refine call (vs := [_]) ⟨⟨_, _, rfl, rfl⟩, trivial⟩ k39 rfl (c39 _ _ _ (ha.now S) (by omega)) ?_
 rintro u5 w1 hF
 have S := S.fb hF
 refine asg1 rfl rfl ?_
 refine Ro.nil ?_
 refine Nrm.code ?_
 refine Run.seq ?_
 refine Run.region ?_
 refine mv1 rfl rfl ?_
 refine apBF (b := [_, _, _]) rfl e26 (qs := [(_, _), (_, _), (_, _)]) ⟨⟨_, _, _, rfl, rfl, rfl, rfl, by first | (simp [Value.cells]; done) | simp [Value.cells, encIP]⟩, ⟨_, _, _, rfl, rfl, rfl, rfl, by first | (simp [Value.cells]; done) | simp [Value.cells, encIP]⟩, ⟨_, _, _, rfl, rfl, rfl, rfl, by first | (simp [Value.cells]; done) | simp [Value.cells, encIP]⟩, trivial⟩ (by decide) rfl rfl S (i := 0) rfl rfl rfl (fun t e => by cases e; rfl) (fun _ => rfl) (by first | omega | (simp only [List.length_nil, List.length_append, List.length_cons]; omega)) ?_
 intro u_ v8 w2 S B_
 refine asg1 rfl rfl ?_
 refine Ro.nil ?_
 refine Nrm.code ?_
 refine Run.ret ?_
 refine Rt.one rfl rfl ?_
 exact S.toFB (i := 0) rfl
set_option maxHeartbeats 1000000 in
theorem c66 (v : Value) (a : List Int) (w : World) (ha : BS [] w v a) (hl : a.length ≤ 1099511627776) :
  CallsV Tryd.prog 66 #[v] w (fun r w' => FB w w' r (a ++ marks)) := by
 refine enter Tryd.func66 rfl Tryd.ntmps66 (l := [(0, [], _)]) rfl rfl ?_
 have S := St.refl [] w
 refine Run.seq ?_
 refine Run.region ?_
 refine asg1 rfl rfl ?_
 refine Ro.nil ?_
 refine Nrm.code ?_
 refine Run.seq ?_
 refine Run.region ?_
 refine mv1 rfl rfl ?_
 refine call (vs := [_]) ⟨⟨_, _, rfl, rfl⟩, trivial⟩ k39 rfl (c39 _ _ _ (ha.now S) (by omega)) ?_
 rintro u5 w1 hF
 have S := S.fb hF
 refine asg1 rfl rfl ?_
 refine Ro.nil ?_
 refine Nrm.code ?_
 refine Run.seq ?_
 refine Run.region ?_
 refine mv1 rfl rfl ?_
 refine apBF (b := [_, _, _]) rfl e26 (qs := [(_, _), (_, _), (_, _)]) ⟨⟨_, _, _, rfl, rfl, rfl, rfl, by first | (simp [Value.cells]; done) | simp [Value.cells, encIP]⟩, ⟨_, _, _, rfl, rfl, rfl, rfl, by first | (simp [Value.cells]; done) | simp [Value.cells, encIP]⟩, ⟨_, _, _, rfl, rfl, rfl, rfl, by first | (simp [Value.cells]; done) | simp [Value.cells, encIP]⟩, trivial⟩ (by decide) rfl rfl S (i := 0) rfl rfl rfl (fun t e => by cases e; rfl) (fun _ => rfl) (by first | omega | (simp only [List.length_nil, List.length_append, List.length_cons]; omega)) ?_
 intro u_ v8 w2 S B_
 refine asg1 rfl rfl ?_
 refine Ro.nil ?_
 refine Nrm.code ?_
 refine Run.ret ?_
 refine Rt.one rfl rfl ?_
 exact S.toFB (i := 0) rfl
set_option maxHeartbeats 1000000 in
theorem c148 (v u : Value) (a b : List Int) (w : World) (ha : BS [] w v a) (hb : BS [] w u b) (hl : b.length ≤ 1099511627776) :
  CallsD Tryd.prog 148 #[v, u] w (.bool (decide (a = b ++ marks))) := by
 refine enter Tryd.func148 rfl Tryd.ntmps148 (l := [(0, [], _), (1, [], _)]) rfl rfl ?_
 have S := St.refl [] w
 refine Run.seq ?_
 refine Run.region ?_
 refine asg1 rfl rfl ?_
 refine Ro.nil ?_
 refine Nrm.code ?_
 refine Run.seq ?_
 refine Run.region ?_
 refine mv1 rfl rfl ?_
 refine lenS rfl hb.2 Tryd.underlying26 rfl rfl rfl ?_
 refine asg1 rfl rfl ?_
 refine Ro.nil ?_
 refine Nrm.code ?_
 refine Run.seq ?_
 refine Run.region ?_
 refine mv1 rfl rfl ?_
 refine lenS rfl ha.2 Tryd.underlying26 rfl rfl rfl ?_
 refine mv1 rfl rfl ?_
 refine add1 rfl rfl rfl (w64 (by omega)) ?_
 refine eql1 rfl rfl rfl ?_
 refine mv1 rfl rfl ?_
 refine mv rfl rfl rfl rfl ?_
 refine mv rfl rfl rfl rfl ?_
 refine slC (lo := 0) (hi := b.length) (mx := capV v) rfl ha e26 rfl rfl rfl (i1 := none) (i2 := some (b.length)) (i3 := none) trivial ⟨_, _, _, rfl, rfl⟩ trivial rfl rfl rfl (fun h => by first | rfl | cases h) (fun hG => by (try simp [allT] at hG); have hcap := ha.cap; omega) ?_
 refine mv rfl rfl rfl rfl ?_
 refine calg (vs := [_, _]) rfl ⟨⟨_, _, rfl, rfl⟩, ⟨_, _, rfl, rfl⟩, trivial⟩ k37 rfl (fun hG => by have hG5 : (a.length : Int) = b.length + 3 := (by (simp [allT] at hG; omega)); exact c37 _ _ _ _ _ ((ha.cut (by have := ha.cap; omega)).now S) (hb.now S)) ?_
 intro w1 B_; have S := S.call B_
 refine pkA rfl rfl rfl rfl rfl rfl ?_
 refine mv1 rfl rfl ?_
 refine mv rfl rfl rfl rfl ?_
 refine mv rfl rfl rfl rfl ?_
 refine ixa rfl rfl ha.2 e26 rfl rfl rfl rfl (fun hG => by (try simp [allT] at hG); omega) ?_
 refine ldB rfl ha S T5 rfl rfl rfl (fun hG => by first | exact by omega | (simp [allT] at hG; exact by omega)) ?_
 intro q24 hq24 hbq24
 try simp only [Int.toNat_natCast, Nat.mul_one, Int.reduceToNat] at hq24
 refine eql rfl rfl rfl rfl rfl rfl ?_
 refine pkA rfl rfl rfl rfl rfl rfl ?_
 refine mv1 rfl rfl ?_
 refine mv rfl rfl rfl rfl ?_
 refine mv rfl rfl rfl rfl ?_
 refine add rfl rfl rfl rfl rfl rfl (fun hG => by first | exact w64 (by omega) | (simp [allT] at hG; exact w64 (by omega))) ?_
 refine ixa rfl rfl ha.2 e26 rfl rfl rfl rfl (fun hG => by (try simp [allT] at hG); omega) ?_
 refine ldB rfl ha S T5 rfl rfl rfl (fun hG => by first | exact by omega | (simp [allT] at hG; exact by omega)) ?_
 intro q32 hq32 hbq32
 try simp only [Int.toNat_natCast, Nat.mul_one, Int.reduceToNat] at hq32
 refine eql rfl rfl rfl rfl rfl rfl ?_
 refine pkA rfl rfl rfl rfl rfl rfl ?_
 refine mv1 rfl rfl ?_
 refine mv rfl rfl rfl rfl ?_
 refine mv rfl rfl rfl rfl ?_
 refine add rfl rfl rfl rfl rfl rfl (fun hG => by first | exact w64 (by omega) | (simp [allT] at hG; exact w64 (by omega))) ?_
 refine ixa rfl rfl ha.2 e26 rfl rfl rfl rfl (fun hG => by (try simp [allT] at hG); omega) ?_
 refine ldB rfl ha S T5 rfl rfl rfl (fun hG => by first | exact by omega | (simp [allT] at hG; exact by omega)) ?_
 intro q40 hq40 hbq40
 try simp only [Int.toNat_natCast, Nat.mul_one, Int.reduceToNat] at hq40
 refine eql rfl rfl rfl rfl rfl rfl ?_
 refine pkA rfl rfl rfl rfl rfl rfl ?_
 refine asg1 rfl rfl ?_
 refine Ro.nil ?_
 refine Nrm.code ?_
 refine Run.ret ?_
 refine Rt.one rfl rfl ?_
 have e1 : q24 = a.getD b.length 0 := hq24
 have e2 : q32 = a.getD (b.length + 1) 0 := hq32
 have e3 : q40 = a.getD (b.length + 2) 0 := hq40
 rw [e1, e2, e3]
 exact ⟨by rw [kept_iff], S.bl⟩
set_option maxHeartbeats 1000000 in
theorem c68 (v u : Value) (a b : List Int) (w : World) (ha : BS [] w v a) (hb : BS [] w u b) (hl : b.length ≤ 1099511627776) :
  CallsD Tryd.prog 68 #[v, u] w (.bool (decide (a = b ++ marks))) := by
 refine enter Tryd.func68 rfl Tryd.ntmps68 (l := [(0, [], _), (1, [], _)]) rfl rfl ?_
 have S := St.refl [] w
 refine Run.seq ?_
 refine Run.region ?_
 refine asg1 rfl rfl ?_
 refine Ro.nil ?_
 refine Nrm.code ?_
 refine Run.seq ?_
 refine Run.region ?_
 refine mv1 rfl rfl ?_
 refine lenS rfl hb.2 Tryd.underlying26 rfl rfl rfl ?_
 refine asg1 rfl rfl ?_
 refine Ro.nil ?_
 refine Nrm.code ?_
 refine Run.seq ?_
 refine Run.region ?_
 refine mv1 rfl rfl ?_
 refine lenS rfl ha.2 Tryd.underlying26 rfl rfl rfl ?_
 refine mv1 rfl rfl ?_
 refine add1 rfl rfl rfl (w64 (by omega)) ?_
 refine eql1 rfl rfl rfl ?_
 refine mv1 rfl rfl ?_
 refine mv rfl rfl rfl rfl ?_
 refine mv rfl rfl rfl rfl ?_
 refine slC (lo := 0) (hi := b.length) (mx := capV v) rfl ha e26 rfl rfl rfl (i1 := none) (i2 := some (b.length)) (i3 := none) trivial ⟨_, _, _, rfl, rfl⟩ trivial rfl rfl rfl (fun h => by first | rfl | cases h) (fun hG => by (try simp [allT] at hG); have hcap := ha.cap; omega) ?_
 refine mv rfl rfl rfl rfl ?_
 refine calg (vs := [_, _]) rfl ⟨⟨_, _, rfl, rfl⟩, ⟨_, _, rfl, rfl⟩, trivial⟩ k37 rfl (fun hG => by have hG5 : (a.length : Int) = b.length + 3 := (by (simp [allT] at hG; omega)); exact c37 _ _ _ _ _ ((ha.cut (by have := ha.cap; omega)).now S) (hb.now S)) ?_
 intro w1 B_; have S := S.call B_
 refine pkA rfl rfl rfl rfl rfl rfl ?_
 refine mv1 rfl rfl ?_
 refine mv rfl rfl rfl rfl ?_
 refine mv rfl rfl rfl rfl ?_
 refine ixa rfl rfl ha.2 e26 rfl rfl rfl rfl (fun hG => by (try simp [allT] at hG); omega) ?_
 refine ldB rfl ha S T5 rfl rfl rfl (fun hG => by first | exact by omega | (simp [allT] at hG; exact by omega)) ?_
 intro q24 hq24 hbq24
 try simp only [Int.toNat_natCast, Nat.mul_one, Int.reduceToNat] at hq24
 refine eql rfl rfl rfl rfl rfl rfl ?_
 refine pkA rfl rfl rfl rfl rfl rfl ?_
 refine mv1 rfl rfl ?_
 refine mv rfl rfl rfl rfl ?_
 refine mv rfl rfl rfl rfl ?_
 refine add rfl rfl rfl rfl rfl rfl (fun hG => by first | exact w64 (by omega) | (simp [allT] at hG; exact w64 (by omega))) ?_
 refine ixa rfl rfl ha.2 e26 rfl rfl rfl rfl (fun hG => by (try simp [allT] at hG); omega) ?_
 refine ldB rfl ha S T5 rfl rfl rfl (fun hG => by first | exact by omega | (simp [allT] at hG; exact by omega)) ?_
 intro q32 hq32 hbq32
 try simp only [Int.toNat_natCast, Nat.mul_one, Int.reduceToNat] at hq32
 refine eql rfl rfl rfl rfl rfl rfl ?_
 refine pkA rfl rfl rfl rfl rfl rfl ?_
 refine mv1 rfl rfl ?_
 refine mv rfl rfl rfl rfl ?_
 refine mv rfl rfl rfl rfl ?_
 refine add rfl rfl rfl rfl rfl rfl (fun hG => by first | exact w64 (by omega) | (simp [allT] at hG; exact w64 (by omega))) ?_
 refine ixa rfl rfl ha.2 e26 rfl rfl rfl rfl (fun hG => by (try simp [allT] at hG); omega) ?_
 refine ldB rfl ha S T5 rfl rfl rfl (fun hG => by first | exact by omega | (simp [allT] at hG; exact by omega)) ?_
 intro q40 hq40 hbq40
 try simp only [Int.toNat_natCast, Nat.mul_one, Int.reduceToNat] at hq40
 refine eql rfl rfl rfl rfl rfl rfl ?_
 refine pkA rfl rfl rfl rfl rfl rfl ?_
 refine asg1 rfl rfl ?_
 refine Ro.nil ?_
 refine Nrm.code ?_
 refine Run.ret ?_
 refine Rt.one rfl rfl ?_
 have e1 : q24 = a.getD b.length 0 := hq24
 have e2 : q32 = a.getD (b.length + 1) 0 := hq32
 have e3 : q40 = a.getD (b.length + 2) 0 := hq40
 rw [e1, e2, e3]
 exact ⟨by rw [kept_iff], S.bl⟩
set_option maxHeartbeats 1000000 in
theorem c151 (v : Value) (b : List Int) (n : Int) (w : World) (hv : (oB v b).holds w) (hn : 0 ≤ n ∧ n < 65536) (hl : b.length ≤ 1099511627776) :
  CallsV Tryd.prog 151 #[v, .int .i64 n] w (fun r w' => Tn w w' (oB v b) (oB r (b ++ [n / 256, n % 256]))) := by
 refine enter Tryd.func151 rfl Tryd.ntmps151 (l := [(0, [], _), (1, [], _)]) rfl rfl ?_
 have S := St.own0 hv
 refine Run.seq ?_
 refine Run.region ?_
 refine asg1 rfl rfl ?_
 refine Ro.nil ?_
 refine Nrm.code ?_
 refine Run.seq ?_
 refine Run.region ?_
 refine mv1 rfl rfl ?_
 refine mv1 rfl rfl ?_
 refine quo1 rfl rfl rfl (by decide) (q64 (by omega)) ?_
 refine cvi1 rfl rfl Tryd.underlying3 Tryd.underlying5 (w8of rfl (by omega)) ?_
 refine mv1 rfl rfl ?_
 refine rem1 rfl rfl rfl (by decide) (r64 (by omega)) ?_
 refine cvi1 rfl rfl Tryd.underlying3 Tryd.underlying5 (w8of rfl (by omega)) ?_
 refine apBF (b := [_, _]) rfl e26 (qs := [(_, _), (_, _)]) ⟨⟨_, _, _, rfl, rfl, rfl, rfl, by first | (simp [Value.cells]; done) | simp [Value.cells, encIP]⟩, ⟨_, _, _, rfl, rfl, rfl, rfl, by first | (simp [Value.cells]; done) | simp [Value.cells, encIP]⟩, trivial⟩ (by decide) rfl rfl S (i := 0) rfl rfl rfl (fun t e => by cases e; rfl) (fun _ => rfl) (by first | omega | (simp only [List.length_nil, List.length_append, List.length_cons]; omega)) ?_
 intro u_ v13 w1 S B_
 refine asg1 rfl rfl ?_
 refine Ro.nil ?_
 refine Nrm.code ?_
 refine Run.ret ?_
 refine Rt.one rfl rfl ?_
 exact S.toTn (i := 0) rfl
end Go.Proofs.YtkahmepenjhcpaaDoor.W
/- Contracts: the pseudo-header, of both. No statement of the seat is proved here. -/
namespace Go.Proofs.YtkahmepenjhcpaaDoor.W
open Go
set_option linter.unusedSimpArgs false
set_option linter.unusedVariables false
def six6 (x : IP) : List Int := [x.a 0, x.a 1, x.a 2, x.a 3, x.a 4, x.a 5, x.a 6, x.a 7, x.a 8, x.a 9, x.a 10, x.a 11, x.a 12, x.a 13, x.a 14, x.a 15]
def famB (s d : IP) : Bool := decide (verI s = 0) || decide (verI d ≠ verI s)
def pseE (s d : IP) (p n : Int) : Int := if famB s d = true then 20 else if (((decide (p < 0) || decide (255 < p)) || decide (n < 0)) || decide (65535 < n)) = true then 1 else 0
def pseB (s d : IP) (p n : Int) : List Int := if verI s = 4 then four4 s ++ four4 d ++ [0, p, n / 256, n % 256] else six6 s ++ six6 d ++ [0, 0, n / 256, n % 256, 0, 0, 0, p]
def pseL (s d : IP) (p n : Int) : List Int := if pseE s d p n = 0 then pseB s d p n else []
theorem six6_byt {x : IP} (h : x.ok) : byt (six6 x) := by
  intro b hb
  simp only [six6, List.mem_cons, List.not_mem_nil, or_false] at hb
  rcases hb with rfl | rfl | rfl | rfl | rfl | rfl | rfl | rfl | rfl | rfl | rfl | rfl | rfl | rfl | rfl | rfl <;> exact h.1 _ (by omega)
theorem pse_ok {s d : IP} {p n : Int} (h : pseE s d p n = 0) : famB s d = false ∧ 0 ≤ p ∧ p ≤ 255 ∧ 0 ≤ n ∧ n ≤ 65535 := by
  unfold pseE at h
  by_cases h1 : famB s d = true
  · rw [if_pos h1] at h; omega
  rw [if_neg h1] at h
  by_cases h2 : (((decide (p < 0) || decide (255 < p)) || decide (n < 0)) || decide (65535 < n)) = true
  · rw [if_pos h2] at h; omega
  simp only [Bool.or_eq_true, decide_eq_true_eq, not_or] at h2
  exact ⟨by simpa using h1, by omega, by omega, by omega, by omega⟩
theorem pseL_byt {s d : IP} (hs : s.ok) (hd : d.ok) (p n : Int) : byt (pseL s d p n) := by
  unfold pseL
  split
  · rename_i h
    obtain ⟨_, h1, h2, h3, h4⟩ := pse_ok h
    unfold pseB
    split
    · exact byt_app (byt_app (four4_byt hs) (four4_byt hd)) (by intro x hx; simp only [List.mem_cons, List.not_mem_nil, or_false] at hx; rcases hx with rfl | rfl | rfl | rfl <;> omega)
    · exact byt_app (byt_app (six6_byt hs) (six6_byt hd)) (by intro x hx; simp only [List.mem_cons, List.not_mem_nil, or_false] at hx; rcases hx with rfl | rfl | rfl | rfl | rfl | rfl | rfl | rfl <;> omega)
  · exact byt_nil
theorem pseL_len (s d : IP) (p n : Int) : (pseL s d p n).length ≤ 40 ∧ (pseL s d p n).length % 2 = 0 := by
  unfold pseL pseB
  (repeat' split) <;> simp [four4, six6]
theorem six_take (x : IP) : ∀ i, i < 16 → (six6 x).take i ++ [x.a i] = (six6 x).take (i + 1)
  | 0, _ => rfl | 1, _ => rfl | 2, _ => rfl | 3, _ => rfl | 4, _ => rfl | 5, _ => rfl | 6, _ => rfl | 7, _ => rfl
  | 8, _ => rfl | 9, _ => rfl | 10, _ => rfl | 11, _ => rfl | 12, _ => rfl | 13, _ => rfl | 14, _ => rfl | 15, _ => rfl
  | n + 16, h => by omega
set_option maxHeartbeats 1000000 in
theorem c58 (s d : IP) (p n : Int) (w : World) (hs : s.ok) (hd : d.ok) (hn : inI n) :
  CallsV Tryd.prog 58 #[.agg (encIP s).toArray, .agg (encIP d).toArray, .int .i64 p, .int .i64 n] w (fun r w' => ∃ u, r = .tuple #[u, .int .i64 (pseE s d p n)] ∧ FB w w' u (pseL s d p n)) := by
 refine enter Tryd.func58 rfl Tryd.ntmps58 (l := [(0, [], _), (1, [], _), (2, [], _), (3, [], _)]) rfl rfl ?_
 have S := St.refl [] w
 refine Run.seq ?_
 refine Run.region ?_
 refine boxA rfl S rfl ?_
 intro b4 w1 hb4 S B_
 refine boxA rfl S rfl ?_
 intro b5 w2 hb5 S B_
 refine asg1 rfl rfl ?_
 refine asg1 rfl rfl ?_
 refine Ro.nil ?_
 refine Nrm.code ?_
 refine Run.seq ?_
 refine Run.region ?_
 refine ldW rfl T24 S (i := 1) rfl rfl rfl rfl rfl ?_
 refine calg (vs := [_]) rfl ⟨⟨_, _, rfl, rfl⟩, trivial⟩ k125 rfl (fun hG => c125 _ _) ?_
 intro w3 B_; have S := S.call B_
 refine asg1 rfl rfl ?_
 refine Ro.nil ?_
 refine Nrm.code ?_
 refine Run.seq ?_
 refine Run.block ?_
 refine Run.seq ?_
 refine Run.region ?_
 refine mv1 rfl rfl ?_
 refine eql1 rfl rfl rfl ?_
 refine mv1 rfl rfl ?_
 refine ldW rfl T24 S (i := 0) rfl rfl rfl rfl rfl ?_
 refine calg (vs := [_]) rfl ⟨⟨_, _, rfl, rfl⟩, trivial⟩ k125 rfl (fun hG => c125 _ _) ?_
 intro w4 B_; have S := S.call B_
 refine mv rfl rfl rfl rfl ?_
 refine neq rfl rfl rfl rfl rfl rfl ?_
 refine pkO rfl rfl rfl rfl rfl rfl ?_
 refine asg1 rfl rfl ?_
 refine Ro.nil ?_
 refine Nrm.code ?_
 refine Run.cond rfl (fun hc2 => ?_) (fun hc2 => ?_)
 ·
  refine Run.seq ?_
  refine Run.region ?_
  refine asg1 rfl rfl ?_
  refine asg1 rfl rfl ?_
  refine Ro.nil ?_
  refine Nrm.code ?_
  refine Run.ret ?_
  refine Rt.two rfl rfl rfl ?_
  have he : pseE s d p n = 20 := by unfold pseE; rw [if_pos (show famB s d = true from hc2)]
  exact ⟨.slice none 0 0, by rw [he], by rw [show pseL s d p n = [] from by unfold pseL; rw [if_neg (by omega)]]; exact (S.nilB).toFB (i := 0) rfl⟩
 ·
  refine Run.seq ?_
  refine Run.region ?_
  refine mv1 rfl rfl ?_
  refine lss1 rfl rfl rfl ?_
  refine mv1 rfl rfl ?_
  refine mv rfl rfl rfl rfl ?_
  refine gtr rfl rfl rfl rfl rfl rfl ?_
  refine pkO rfl rfl rfl rfl rfl rfl ?_
  refine mv1 rfl rfl ?_
  refine mv rfl rfl rfl rfl ?_
  refine lss rfl rfl rfl rfl rfl rfl ?_
  refine pkO rfl rfl rfl rfl rfl rfl ?_
  refine mv1 rfl rfl ?_
  refine mv rfl rfl rfl rfl ?_
  refine gtr rfl rfl rfl rfl rfl rfl ?_
  refine pkO rfl rfl rfl rfl rfl rfl ?_
  refine asg1 rfl rfl ?_
  refine Ro.nil ?_
  refine Nrm.code ?_
  refine Run.cond rfl (fun hc4 => ?_) (fun hc4 => ?_)
  ·
   refine Run.seq ?_
   refine Run.region ?_
   refine asg1 rfl rfl ?_
   refine asg1 rfl rfl ?_
   refine Ro.nil ?_
   refine Nrm.code ?_
   refine Run.ret ?_
   refine Rt.two rfl rfl rfl ?_
   have he : pseE s d p n = 1 := by unfold pseE; rw [if_neg (by rw [show famB s d = false from hc2]; simp), if_pos hc4]
   exact ⟨.slice none 0 0, by rw [he], by rw [show pseL s d p n = [] from by unfold pseL; rw [if_neg (by omega)]]; exact (S.nilB).toFB (i := 0) rfl⟩
  ·
   refine Run.skip ?_
   refine Nrm.blk ?_
   refine Nrm.code ?_
   refine Run.seq ?_
   have he : pseE s d p n = 0 := by unfold pseE; rw [if_neg (by rw [show famB s d = false from hc2]; simp), if_neg (by rw [hc4]; simp)]
   have hpo := pse_ok he
   refine Run.region ?_
   refine asg1 rfl rfl ?_
   have S := S.nilB
   refine Ro.nil ?_
   refine Nrm.code ?_
   refine Run.seq ?_
   refine Run.seq ?_
   refine Run.region ?_
   refine mv1 rfl rfl ?_
   refine eql1 rfl rfl rfl ?_
   refine Ro.nil ?_
   refine Nrm.code ?_
   refine Run.cond rfl (fun hc7 => ?_) (fun hc7 => ?_)
   ·
    try simp only [Bool.or_eq_true, Bool.and_eq_true, Bool.or_eq_false_iff, Bool.and_eq_false_iff, decide_eq_true_eq, decide_eq_false_iff_not, Bool.not_eq_true', Bool.not_eq_false', Bool.not_eq_true, Bool.not_eq_false] at hc7
    refine Run.seq ?_
    refine Run.region ?_
    refine mv1 rfl rfl ?_
    refine fld (o' := 1) rfl fo24_1 rfl rfl rfl rfl ?_
    refine slAT rfl Tryd.underlying22 T5 rfl rfl rfl (i2 := some 4) ⟨_, _, _, rfl, rfl⟩ rfl (by decide) (by decide) ?_
    refine apB rfl rfl e26 ⟨four4_byt hs, S.varSl (i := 2) (m := 4) (sz := 1) rfl rfl rfl (by decide)⟩ S (i := 0) rfl rfl (fun _ => rfl) (by simp [four4]) ?_
    intro u8 w5 S B_
    refine asg1 rfl rfl ?_
    refine Ro.nil ?_
    refine Nrm.code ?_
    refine Run.seq ?_
    refine Run.region ?_
    refine mv1 rfl rfl ?_
    refine fld (o' := 1) rfl fo24_1 rfl rfl rfl rfl ?_
    refine slAT rfl Tryd.underlying22 T5 rfl rfl rfl (i2 := some 4) ⟨_, _, _, rfl, rfl⟩ rfl (by decide) (by decide) ?_
    refine apB rfl rfl e26 ⟨four4_byt hd, S.varSl (i := 1) (m := 4) (sz := 1) rfl rfl rfl (by decide)⟩ S (i := 0) rfl rfl (fun _ => rfl) (by simp [four4]) ?_
    intro u9 w6 S B_
    refine asg1 rfl rfl ?_
    refine Ro.nil ?_
    refine Nrm.code ?_
    refine Run.seq ?_
    refine Run.region ?_
    refine mv1 rfl rfl ?_
    refine mv1 rfl rfl ?_
    refine cvi1 rfl rfl Tryd.underlying3 Tryd.underlying5 (w8of rfl (by omega)) ?_
    refine mv1 rfl rfl ?_
    refine shr rfl rfl rfl rfl rfl rfl (fun _ => by decide) (fun _ => sh8 _) ?_
    refine cvi1 rfl rfl Tryd.underlying3 Tryd.underlying5 (w8of rfl (by omega)) ?_
    refine mv1 rfl rfl ?_
    refine cvi1 rfl rfl Tryd.underlying3 Tryd.underlying5 (w8m _) ?_
    refine apBF (b := [_, _, _, _]) rfl e26 (qs := [(_, _), (_, _), (_, _), (_, _)]) ⟨⟨_, _, _, rfl, rfl, rfl, rfl, by first | (simp [Value.cells]; done) | simp [Value.cells, encIP]⟩, ⟨_, _, _, rfl, rfl, rfl, rfl, by first | (simp [Value.cells]; done) | simp [Value.cells, encIP]⟩, ⟨_, _, _, rfl, rfl, rfl, rfl, by first | (simp [Value.cells]; done) | simp [Value.cells, encIP]⟩, ⟨_, _, _, rfl, rfl, rfl, rfl, by first | (simp [Value.cells]; done) | simp [Value.cells, encIP]⟩, trivial⟩ (by decide) rfl rfl S (i := 0) rfl rfl rfl (fun t e => by cases e; rfl) (fun _ => rfl) (by simp [four4]) ?_
    intro u_ uz w7 S B_
    refine asg1 rfl rfl ?_
    refine asg1 rfl rfl ?_
    refine Ro.nil ?_
    refine Nrm.code ?_
    refine Run.ret ?_
    refine Rt.two rfl rfl rfl ?_
    exact ⟨_, by rw [he], by rw [show pseL s d p n = pseB s d p n from by unfold pseL; rw [if_pos he], pseB, if_pos hc7]; simpa [four4, six6] using S.toFB (i := 0) rfl⟩
   ·
    try simp only [Bool.or_eq_true, Bool.and_eq_true, Bool.or_eq_false_iff, Bool.and_eq_false_iff, decide_eq_true_eq, decide_eq_false_iff_not, Bool.not_eq_true', Bool.not_eq_false', Bool.not_eq_true, Bool.not_eq_false] at hc7
    refine Run.skip ?_
    refine Nrm.code ?_
    refine Run.seq ?_
    refine Run.region ?_
    refine mv1 rfl rfl ?_
    refine fld (o' := 1) rfl fo24_1 rfl rfl rfl rfl ?_
    refine slAT rfl Tryd.underlying22 T5 rfl rfl rfl (i2 := none) trivial rfl (by decide) (by decide) ?_
    refine apB rfl rfl e26 ⟨six6_byt hs, S.varSl (i := 2) (m := 16) (sz := 1) rfl rfl rfl (by decide)⟩ S (i := 0) rfl rfl (fun _ => rfl) (by simp [six6]) ?_
    intro u11 w5 S B_
    refine asg1 rfl rfl ?_
    refine Ro.nil ?_
    refine Nrm.code ?_
    refine Run.seq ?_
    refine Run.region ?_
    refine mv1 rfl rfl ?_
    refine fld (o' := 1) rfl fo24_1 rfl rfl rfl rfl ?_
    refine slAT rfl Tryd.underlying22 T5 rfl rfl rfl (i2 := none) trivial rfl (by decide) (by decide) ?_
    refine apB rfl rfl e26 ⟨six6_byt hd, S.varSl (i := 1) (m := 16) (sz := 1) rfl rfl rfl (by decide)⟩ S (i := 0) rfl rfl (fun _ => rfl) (by simp [six6]) ?_
    intro u12 w6 S B_
    refine asg1 rfl rfl ?_
    refine Ro.nil ?_
    refine Nrm.code ?_
    refine Run.seq ?_
    refine Run.region ?_
    refine mv1 rfl rfl ?_
    refine mv1 rfl rfl ?_
    refine shr rfl rfl rfl rfl rfl rfl (fun _ => by decide) (fun _ => sh8 _) ?_
    refine cvi1 rfl rfl Tryd.underlying3 Tryd.underlying5 (w8of rfl (by omega)) ?_
    refine mv1 rfl rfl ?_
    refine cvi1 rfl rfl Tryd.underlying3 Tryd.underlying5 (w8m _) ?_
    refine mv1 rfl rfl ?_
    refine cvi1 rfl rfl Tryd.underlying3 Tryd.underlying5 (w8of rfl (by omega)) ?_
    refine apBF (b := [_, _, _, _, _, _, _, _]) rfl e26 (qs := [(_, _), (_, _), (_, _), (_, _), (_, _), (_, _), (_, _), (_, _)]) ⟨⟨_, _, _, rfl, rfl, rfl, rfl, by first | (simp [Value.cells]; done) | simp [Value.cells, encIP]⟩, ⟨_, _, _, rfl, rfl, rfl, rfl, by first | (simp [Value.cells]; done) | simp [Value.cells, encIP]⟩, ⟨_, _, _, rfl, rfl, rfl, rfl, by first | (simp [Value.cells]; done) | simp [Value.cells, encIP]⟩, ⟨_, _, _, rfl, rfl, rfl, rfl, by first | (simp [Value.cells]; done) | simp [Value.cells, encIP]⟩, ⟨_, _, _, rfl, rfl, rfl, rfl, by first | (simp [Value.cells]; done) | simp [Value.cells, encIP]⟩, ⟨_, _, _, rfl, rfl, rfl, rfl, by first | (simp [Value.cells]; done) | simp [Value.cells, encIP]⟩, ⟨_, _, _, rfl, rfl, rfl, rfl, by first | (simp [Value.cells]; done) | simp [Value.cells, encIP]⟩, ⟨_, _, _, rfl, rfl, rfl, rfl, by first | (simp [Value.cells]; done) | simp [Value.cells, encIP]⟩, trivial⟩ (by decide) rfl rfl S (i := 0) rfl rfl rfl (fun t e => by cases e; rfl) (fun _ => rfl) (by simp [six6]) ?_
    intro u_ uz w7 S B_
    refine asg1 rfl rfl ?_
    refine asg1 rfl rfl ?_
    refine Ro.nil ?_
    refine Nrm.code ?_
    refine Run.ret ?_
    refine Rt.two rfl rfl rfl ?_
    exact ⟨_, by rw [he], by rw [show pseL s d p n = pseB s d p n from by unfold pseL; rw [if_pos he], pseB, if_neg hc7]; simpa [four4, six6] using S.toFB (i := 0) rfl⟩
set_option maxHeartbeats 1000000 in
theorem c154 (s d : IP) (p n : Int) (w : World) (hs : s.ok) (hd : d.ok) (hn : inI n) :
  CallsV Tryd.prog 154 #[.agg (encIP s).toArray, .agg (encIP d).toArray, .int .i64 p, .int .i64 n] w (fun r w' => ∃ u, r = .tuple #[u, .int .i64 (pseE s d p n)] ∧ FB w w' u (pseL s d p n)) := by
 refine enter Tryd.func154 rfl Tryd.ntmps154 (l := [(0, [], _), (1, [], _), (2, [], _), (3, [], _)]) rfl rfl ?_
 have S := St.refl [] w
 refine Run.seq ?_
 refine Run.region ?_
 refine boxA rfl S rfl ?_
 intro b4 w1 hb4 S B_
 refine boxA rfl S rfl ?_
 intro b5 w2 hb5 S B_
 refine asg1 rfl rfl ?_
 refine asg1 rfl rfl ?_
 refine Ro.nil ?_
 refine Nrm.code ?_
 refine Run.seq ?_
 refine Run.region ?_
 refine ldW rfl T24 S (i := 1) rfl rfl rfl rfl rfl ?_
 refine calg (vs := [_]) rfl ⟨⟨_, _, rfl, rfl⟩, trivial⟩ k158 rfl (fun hG => c158 _ _) ?_
 intro w3 B_; have S := S.call B_
 refine asg1 rfl rfl ?_
 refine Ro.nil ?_
 refine Nrm.code ?_
 refine Run.seq ?_
 refine Run.seq ?_
 refine Run.region ?_
 refine mv1 rfl rfl ?_
 refine eql1 rfl rfl rfl ?_
 refine mv1 rfl rfl ?_
 refine ldW rfl T24 S (i := 0) rfl rfl rfl rfl rfl ?_
 refine calg (vs := [_]) rfl ⟨⟨_, _, rfl, rfl⟩, trivial⟩ k158 rfl (fun hG => c158 _ _) ?_
 intro w4 B_; have S := S.call B_
 refine mv rfl rfl rfl rfl ?_
 refine neq rfl rfl rfl rfl rfl rfl ?_
 refine pkO rfl rfl rfl rfl rfl rfl ?_
 refine Ro.nil ?_
 refine Nrm.code ?_
 refine Run.cond rfl (fun hc2 => ?_) (fun hc2 => ?_)
 ·
  refine Run.seq ?_
  refine Run.region ?_
  refine asg1 rfl rfl ?_
  refine asg1 rfl rfl ?_
  refine Ro.nil ?_
  refine Nrm.code ?_
  refine Run.ret ?_
  refine Rt.two rfl rfl rfl ?_
  have he : pseE s d p n = 20 := by unfold pseE; rw [if_pos (show famB s d = true from hc2)]
  exact ⟨.slice none 0 0, by rw [he], by rw [show pseL s d p n = [] from by unfold pseL; rw [if_neg (by omega)]]; exact (S.nilB).toFB (i := 0) rfl⟩
 ·
  refine Run.skip ?_
  refine Nrm.code ?_
  refine Run.seq ?_
  refine Run.seq ?_
  refine Run.region ?_
  refine mv1 rfl rfl ?_
  refine lss1 rfl rfl rfl ?_
  refine mv1 rfl rfl ?_
  refine mv rfl rfl rfl rfl ?_
  refine gtr rfl rfl rfl rfl rfl rfl ?_
  refine pkO rfl rfl rfl rfl rfl rfl ?_
  refine mv1 rfl rfl ?_
  refine mv rfl rfl rfl rfl ?_
  refine lss rfl rfl rfl rfl rfl rfl ?_
  refine pkO rfl rfl rfl rfl rfl rfl ?_
  refine mv1 rfl rfl ?_
  refine mv rfl rfl rfl rfl ?_
  refine gtr rfl rfl rfl rfl rfl rfl ?_
  refine pkO rfl rfl rfl rfl rfl rfl ?_
  refine Ro.nil ?_
  refine Nrm.code ?_
  refine Run.cond rfl (fun hc4 => ?_) (fun hc4 => ?_)
  ·
   refine Run.seq ?_
   refine Run.region ?_
   refine asg1 rfl rfl ?_
   refine asg1 rfl rfl ?_
   refine Ro.nil ?_
   refine Nrm.code ?_
   refine Run.ret ?_
   refine Rt.two rfl rfl rfl ?_
   have he : pseE s d p n = 1 := by unfold pseE; rw [if_neg (by rw [show famB s d = false from hc2]; simp), if_pos hc4]
   exact ⟨.slice none 0 0, by rw [he], by rw [show pseL s d p n = [] from by unfold pseL; rw [if_neg (by omega)]]; exact (S.nilB).toFB (i := 0) rfl⟩
  ·
   refine Run.skip ?_
   refine Nrm.code ?_
   refine Run.seq ?_
   have he : pseE s d p n = 0 := by unfold pseE; rw [if_neg (by rw [show famB s d = false from hc2]; simp), if_neg (by rw [hc4]; simp)]
   have hpo := pse_ok he
   refine Run.region ?_
   refine asg1 rfl rfl ?_
   have S := S.nilB
   refine Ro.nil ?_
   refine Nrm.code ?_
   refine Run.seq ?_
   refine Run.seq ?_
   refine Run.region ?_
   refine mv1 rfl rfl ?_
   refine eql1 rfl rfl rfl ?_
   refine Ro.nil ?_
   refine Nrm.code ?_
   refine Run.cond rfl (fun hc7 => ?_) (fun hc7 => ?_)
   ·
    try simp only [Bool.or_eq_true, Bool.and_eq_true, Bool.or_eq_false_iff, Bool.and_eq_false_iff, decide_eq_true_eq, decide_eq_false_iff_not, Bool.not_eq_true', Bool.not_eq_false', Bool.not_eq_true, Bool.not_eq_false] at hc7
    refine Run.seq ?_
    refine Run.region ?_
    refine mv1 rfl rfl ?_
    refine fld (o' := 1) rfl fo24_1 rfl rfl rfl rfl ?_
    refine ixP (o' := 1) rfl rfl Tryd.underlying22 T5 rfl rfl rfl rfl (fun _ => by decide) rfl ?_
    refine ld1 rfl T5 S (i := 2) rfl rfl rfl rfl rfl ?_
    refine fld (o' := 1) rfl fo24_1 rfl rfl rfl rfl ?_
    refine ixP (o' := 2) rfl rfl Tryd.underlying22 T5 rfl rfl rfl rfl (fun _ => by decide) rfl ?_
    refine ld1 rfl T5 S (i := 2) rfl rfl rfl rfl rfl ?_
    refine fld (o' := 1) rfl fo24_1 rfl rfl rfl rfl ?_
    refine ixP (o' := 3) rfl rfl Tryd.underlying22 T5 rfl rfl rfl rfl (fun _ => by decide) rfl ?_
    refine ld1 rfl T5 S (i := 2) rfl rfl rfl rfl rfl ?_
    refine fld (o' := 1) rfl fo24_1 rfl rfl rfl rfl ?_
    refine ixP (o' := 4) rfl rfl Tryd.underlying22 T5 rfl rfl rfl rfl (fun _ => by decide) rfl ?_
    refine ld1 rfl T5 S (i := 2) rfl rfl rfl rfl rfl ?_
    refine fld (o' := 1) rfl fo24_1 rfl rfl rfl rfl ?_
    refine ixP (o' := 1) rfl rfl Tryd.underlying22 T5 rfl rfl rfl rfl (fun _ => by decide) rfl ?_
    refine ld1 rfl T5 S (i := 1) rfl rfl rfl rfl rfl ?_
    refine fld (o' := 1) rfl fo24_1 rfl rfl rfl rfl ?_
    refine ixP (o' := 2) rfl rfl Tryd.underlying22 T5 rfl rfl rfl rfl (fun _ => by decide) rfl ?_
    refine ld1 rfl T5 S (i := 1) rfl rfl rfl rfl rfl ?_
    refine fld (o' := 1) rfl fo24_1 rfl rfl rfl rfl ?_
    refine ixP (o' := 3) rfl rfl Tryd.underlying22 T5 rfl rfl rfl rfl (fun _ => by decide) rfl ?_
    refine ld1 rfl T5 S (i := 1) rfl rfl rfl rfl rfl ?_
    refine fld (o' := 1) rfl fo24_1 rfl rfl rfl rfl ?_
    refine ixP (o' := 4) rfl rfl Tryd.underlying22 T5 rfl rfl rfl rfl (fun _ => by decide) rfl ?_
    refine ld1 rfl T5 S (i := 1) rfl rfl rfl rfl rfl ?_
    refine apBF (b := [_, _, _, _, _, _, _, _]) rfl e26 (qs := [(_, _), (_, _), (_, _), (_, _), (_, _), (_, _), (_, _), (_, _)]) ⟨⟨_, _, _, rfl, rfl, rfl, rfl, by first | (simp [Value.cells]; done) | simp [Value.cells, encIP]⟩, ⟨_, _, _, rfl, rfl, rfl, rfl, by first | (simp [Value.cells]; done) | simp [Value.cells, encIP]⟩, ⟨_, _, _, rfl, rfl, rfl, rfl, by first | (simp [Value.cells]; done) | simp [Value.cells, encIP]⟩, ⟨_, _, _, rfl, rfl, rfl, rfl, by first | (simp [Value.cells]; done) | simp [Value.cells, encIP]⟩, ⟨_, _, _, rfl, rfl, rfl, rfl, by first | (simp [Value.cells]; done) | simp [Value.cells, encIP]⟩, ⟨_, _, _, rfl, rfl, rfl, rfl, by first | (simp [Value.cells]; done) | simp [Value.cells, encIP]⟩, ⟨_, _, _, rfl, rfl, rfl, rfl, by first | (simp [Value.cells]; done) | simp [Value.cells, encIP]⟩, ⟨_, _, _, rfl, rfl, rfl, rfl, by first | (simp [Value.cells]; done) | simp [Value.cells, encIP]⟩, trivial⟩ (by decide) rfl rfl S (i := 0) rfl rfl rfl (fun t e => by cases e; rfl) (fun _ => rfl) (by first | omega | (simp only [List.length_nil, List.length_append, List.length_cons]; omega)) ?_
    intro u_ u8 w5 S B_
    refine asg1 rfl rfl ?_
    refine Ro.nil ?_
    refine Nrm.code ?_
    refine Run.seq ?_
    refine Run.region ?_
    refine mv1 rfl rfl ?_
    refine mv1 rfl rfl ?_
    refine cvi1 rfl rfl Tryd.underlying3 Tryd.underlying5 (w8of rfl (by omega)) ?_
    refine mv1 rfl rfl ?_
    refine quo1 rfl rfl rfl (by decide) (q64 (by omega)) ?_
    refine cvi1 rfl rfl Tryd.underlying3 Tryd.underlying5 (w8of rfl (by omega)) ?_
    refine mv1 rfl rfl ?_
    refine rem1 rfl rfl rfl (by decide) (r64 (by omega)) ?_
    refine cvi1 rfl rfl Tryd.underlying3 Tryd.underlying5 (w8of rfl (by omega)) ?_
    refine apBF (b := [_, _, _, _]) rfl e26 (qs := [(_, _), (_, _), (_, _), (_, _)]) ⟨⟨_, _, _, rfl, rfl, rfl, rfl, by first | (simp [Value.cells]; done) | simp [Value.cells, encIP]⟩, ⟨_, _, _, rfl, rfl, rfl, rfl, by first | (simp [Value.cells]; done) | simp [Value.cells, encIP]⟩, ⟨_, _, _, rfl, rfl, rfl, rfl, by first | (simp [Value.cells]; done) | simp [Value.cells, encIP]⟩, ⟨_, _, _, rfl, rfl, rfl, rfl, by first | (simp [Value.cells]; done) | simp [Value.cells, encIP]⟩, trivial⟩ (by decide) rfl rfl S (i := 0) rfl rfl rfl (fun t e => by cases e; rfl) (fun _ => rfl) (by simp [four4]) ?_
    intro u_ uz w6 S B_
    refine asg1 rfl rfl ?_
    refine asg1 rfl rfl ?_
    refine Ro.nil ?_
    refine Nrm.code ?_
    refine Run.ret ?_
    refine Rt.two rfl rfl rfl ?_
    exact ⟨_, by rw [he], by rw [show pseL s d p n = pseB s d p n from by unfold pseL; rw [if_pos he], pseB, if_pos hc7]; simpa [four4, six6] using S.toFB (i := 0) rfl⟩
   ·
    try simp only [Bool.or_eq_true, Bool.and_eq_true, Bool.or_eq_false_iff, Bool.and_eq_false_iff, decide_eq_true_eq, decide_eq_false_iff_not, Bool.not_eq_true', Bool.not_eq_false', Bool.not_eq_true, Bool.not_eq_false] at hc7
    refine Run.skip ?_
    refine Nrm.code ?_
    refine Run.seq ?_
    refine Run.seq ?_
    refine Run.region ?_
    refine asg1 rfl rfl ?_
    refine Ro.nil ?_
    refine Nrm.code ?_
    refine Run.block ?_
    refine Run.loop2 (fun (i : Nat) (u : Value) w_ => i ≤ 16 ∧ St [] w [oB u ((six6 s).take i), .var b5 24 (encIP d), .var b4 24 (encIP s)] w_) (fun (i : Nat) (u : Value) => [(2, [], .int .i64 p), (3, [], .int .i64 n), (4, [], .pointer (some ⟨b4, 0, none⟩)), (5, [], .pointer (some ⟨b5, 0, none⟩)), (11, [], u), (12, [], .int .i64 i)]) (fun (i : Nat) (u : Value) => 16 - i) (0) (_) ⟨Nat.zero_le _, by simpa using S⟩ ⟨rfl, rfl, rfl, rfl, rfl, rfl, trivial⟩ ?_
    rintro i u w5 ⟨hi, S⟩
    refine Run.seq ?_
    refine Run.seq ?_
    refine Run.region ?_
    refine mv1 rfl rfl ?_
    refine lss1 rfl rfl rfl ?_
    refine Ro.nil ?_
    refine Nrm.code ?_
    refine Run.cond rfl (fun hc11 => ?_) (fun hc11 => ?_)
    ·
     try simp only [Bool.or_eq_true, Bool.and_eq_true, Bool.or_eq_false_iff, Bool.and_eq_false_iff, decide_eq_true_eq, decide_eq_false_iff_not, Bool.not_eq_true', Bool.not_eq_false', Bool.not_eq_true, Bool.not_eq_false] at hc11
     refine Run.skip ?_
     refine Nrm.code ?_
     refine Run.seq ?_
     refine Run.block ?_
     refine Run.region ?_
     refine mv1 rfl rfl ?_
     refine mv1 rfl rfl ?_
     refine fld (o' := 1) rfl fo24_1 rfl rfl rfl rfl ?_
     refine ixP rfl rfl Tryd.underlying22 T5 rfl rfl rfl rfl (fun _ => by omega) rfl ?_
     refine ld1 rfl T5 S (i := 2) rfl (v := u8 (s.a i)) (by rw [show 1 + (i : Int).toNat * 1 = 1 + i from by omega]; exact encIP_get s i (by omega)) rfl rfl rfl ?_
     refine apBF (b := [_]) rfl e26 (qs := [(_, _)]) ⟨⟨_, _, _, rfl, rfl, rfl, rfl, by first | (simp [Value.cells]; done) | simp [Value.cells, encIP]⟩, trivial⟩ (by decide) rfl rfl S (i := 0) rfl rfl rfl (fun t e => by cases e; rfl) (fun _ => rfl) (by simp [six6]; omega) ?_
     intro u_ v88 w6 S B_
     refine asg1 rfl rfl ?_
     refine Ro.nil ?_
     refine Nrm.blk ?_
     refine Nrm.code ?_
     refine Run.region ?_
     refine mv1 rfl rfl ?_
     refine add1 rfl rfl rfl (w64 (by omega)) ?_
     refine asg1 rfl rfl ?_
     refine Ro.nil ?_
     refine Nrm.loop2 (i + 1) (_) ⟨by omega, by have S2 := S; rw [six_take s i (by omega)] at S2; exact S2⟩ (by omega) ⟨rfl, rfl, rfl, rfl, rfl, rfl, trivial⟩
    ·
     try simp only [Bool.or_eq_true, Bool.and_eq_true, Bool.or_eq_false_iff, Bool.and_eq_false_iff, decide_eq_true_eq, decide_eq_false_iff_not, Bool.not_eq_true', Bool.not_eq_false', Bool.not_eq_true, Bool.not_eq_false] at hc11
     refine Run.exit ?_
     refine Lv.code ?_
     refine Lv.back ?_
     refine Lv.hit ?_
     refine Nrm.code ?_
     refine Run.seq ?_
     refine Run.seq ?_
     refine Run.region ?_
     refine asg1 rfl rfl ?_
     refine Ro.nil ?_
     refine Nrm.code ?_
     refine Run.block ?_
     have hi16 : i = 16 := by omega
     subst hi16
     rw [show (six6 s).take 16 = six6 s from rfl] at S
     refine Run.loop2 (fun (i : Nat) (u : Value) w_ => i ≤ 16 ∧ St [] w [oB u (six6 s ++ (six6 d).take i), .var b5 24 (encIP d), .var b4 24 (encIP s)] w_) (fun (i : Nat) (u : Value) => [(2, [], .int .i64 p), (3, [], .int .i64 n), (4, [], .pointer (some ⟨b4, 0, none⟩)), (5, [], .pointer (some ⟨b5, 0, none⟩)), (11, [], u), (13, [], .int .i64 i)]) (fun (i : Nat) (u : Value) => 16 - i) (0) (_) ⟨Nat.zero_le _, by simpa using S⟩ ⟨rfl, rfl, rfl, rfl, rfl, rfl, trivial⟩ ?_
     rintro i u w6 ⟨hi, S⟩
     refine Run.seq ?_
     refine Run.seq ?_
     refine Run.region ?_
     refine mv1 rfl rfl ?_
     refine lss1 rfl rfl rfl ?_
     refine Ro.nil ?_
     refine Nrm.code ?_
     refine Run.cond rfl (fun hc15 => ?_) (fun hc15 => ?_)
     ·
      try simp only [Bool.or_eq_true, Bool.and_eq_true, Bool.or_eq_false_iff, Bool.and_eq_false_iff, decide_eq_true_eq, decide_eq_false_iff_not, Bool.not_eq_true', Bool.not_eq_false', Bool.not_eq_true, Bool.not_eq_false] at hc15
      refine Run.skip ?_
      refine Nrm.code ?_
      refine Run.seq ?_
      refine Run.block ?_
      refine Run.region ?_
      refine mv1 rfl rfl ?_
      refine mv1 rfl rfl ?_
      refine fld (o' := 1) rfl fo24_1 rfl rfl rfl rfl ?_
      refine ixP rfl rfl Tryd.underlying22 T5 rfl rfl rfl rfl (fun _ => by omega) rfl ?_
      refine ld1 rfl T5 S (i := 1) rfl (v := u8 (d.a i)) (by rw [show 1 + (i : Int).toNat * 1 = 1 + i from by omega]; exact encIP_get d i (by omega)) rfl rfl rfl ?_
      refine apBF (b := [_]) rfl e26 (qs := [(_, _)]) ⟨⟨_, _, _, rfl, rfl, rfl, rfl, by first | (simp [Value.cells]; done) | simp [Value.cells, encIP]⟩, trivial⟩ (by decide) rfl rfl S (i := 0) rfl rfl rfl (fun t e => by cases e; rfl) (fun _ => rfl) (by simp [six6]; omega) ?_
      intro u_ v99 w7 S B_
      refine asg1 rfl rfl ?_
      refine Ro.nil ?_
      refine Nrm.blk ?_
      refine Nrm.code ?_
      refine Run.region ?_
      refine mv1 rfl rfl ?_
      refine add1 rfl rfl rfl (w64 (by omega)) ?_
      refine asg1 rfl rfl ?_
      refine Ro.nil ?_
      refine Nrm.loop2 (i + 1) (_) ⟨by omega, by have S2 := S; rw [List.append_assoc, six_take d i (by omega)] at S2; exact S2⟩ (by omega) ⟨rfl, rfl, rfl, rfl, rfl, rfl, trivial⟩
     ·
      try simp only [Bool.or_eq_true, Bool.and_eq_true, Bool.or_eq_false_iff, Bool.and_eq_false_iff, decide_eq_true_eq, decide_eq_false_iff_not, Bool.not_eq_true', Bool.not_eq_false', Bool.not_eq_true, Bool.not_eq_false] at hc15
      refine Run.exit ?_
      refine Lv.code ?_
      refine Lv.back ?_
      refine Lv.hit ?_
      refine Nrm.code ?_
      refine Run.seq ?_
      refine Run.region ?_
      have hi16b : i = 16 := by omega
      subst hi16b
      rw [show (six6 d).take 16 = six6 d from rfl] at S
      refine mv1 rfl rfl ?_
      refine mv1 rfl rfl ?_
      refine quo1 rfl rfl rfl (by decide) (q64 (by omega)) ?_
      refine cvi1 rfl rfl Tryd.underlying3 Tryd.underlying5 (w8of rfl (by omega)) ?_
      refine mv1 rfl rfl ?_
      refine rem1 rfl rfl rfl (by decide) (r64 (by omega)) ?_
      refine cvi1 rfl rfl Tryd.underlying3 Tryd.underlying5 (w8of rfl (by omega)) ?_
      refine mv1 rfl rfl ?_
      refine cvi1 rfl rfl Tryd.underlying3 Tryd.underlying5 (w8of rfl (by omega)) ?_
      refine apBF (b := [_, _, _, _, _, _, _, _]) rfl e26 (qs := [(_, _), (_, _), (_, _), (_, _), (_, _), (_, _), (_, _), (_, _)]) ⟨⟨_, _, _, rfl, rfl, rfl, rfl, by first | (simp [Value.cells]; done) | simp [Value.cells, encIP]⟩, ⟨_, _, _, rfl, rfl, rfl, rfl, by first | (simp [Value.cells]; done) | simp [Value.cells, encIP]⟩, ⟨_, _, _, rfl, rfl, rfl, rfl, by first | (simp [Value.cells]; done) | simp [Value.cells, encIP]⟩, ⟨_, _, _, rfl, rfl, rfl, rfl, by first | (simp [Value.cells]; done) | simp [Value.cells, encIP]⟩, ⟨_, _, _, rfl, rfl, rfl, rfl, by first | (simp [Value.cells]; done) | simp [Value.cells, encIP]⟩, ⟨_, _, _, rfl, rfl, rfl, rfl, by first | (simp [Value.cells]; done) | simp [Value.cells, encIP]⟩, ⟨_, _, _, rfl, rfl, rfl, rfl, by first | (simp [Value.cells]; done) | simp [Value.cells, encIP]⟩, ⟨_, _, _, rfl, rfl, rfl, rfl, by first | (simp [Value.cells]; done) | simp [Value.cells, encIP]⟩, trivial⟩ (by decide) rfl rfl S (i := 0) rfl rfl rfl (fun t e => by cases e; rfl) (fun _ => rfl) (by simp [six6]) ?_
      intro u_ uz w7 S B_
      refine asg1 rfl rfl ?_
      refine asg1 rfl rfl ?_
      refine Ro.nil ?_
      refine Nrm.code ?_
      refine Run.ret ?_
      refine Rt.two rfl rfl rfl ?_
      exact ⟨_, by rw [he], by rw [show pseL s d p n = pseB s d p n from by unfold pseL; rw [if_pos he], pseB, if_neg hc7]; simpa [four4, six6] using S.toFB (i := 0) rfl⟩
end Go.Proofs.YtkahmepenjhcpaaDoor.W
/- Contracts: small functions of layer 9. No statement of the seat is proved here. -/
namespace Go.Proofs.YtkahmepenjhcpaaDoor.W
open Go
set_option linter.unusedSimpArgs false
set_option linter.unusedVariables false
def fitE (s d : IP) : Int := if famB s d = true then 20 else 0
theorem pse_fit (s d : IP) : pseE s d 0 0 = fitE s d := by
  unfold pseE fitE
  split
  · rfl
  · rfl
theorem fit_pse {s d : IP} {p n : Int} (h : fitE s d = 0) (h1 : 0 ≤ p ∧ p ≤ 255) (h2 : 0 ≤ n ∧ n ≤ 65535) : pseE s d p n = 0 := by
  unfold fitE at h
  unfold pseE
  by_cases hf : famB s d = true
  · rw [if_pos hf] at h; omega
  · rw [if_neg hf, if_neg]
    simp only [Bool.or_eq_true, decide_eq_true_eq]
    omega
theorem fitE_or (s d : IP) : fitE s d = 0 ∨ fitE s d = 20 := by unfold fitE; split <;> simp
def psum (s d : IP) (p : Int) (b : List Int) : Int := sumS (pseL s d p b.length ++ b)
theorem psum_bd {s d : IP} {p : Int} {b : List Int} (hs : s.ok) (hd : d.ok) (hb : byt b) : 0 ≤ psum s d p b ∧ psum s d p b ≤ 65535 := by
  have hw := wsum_bd (pseL s d p b.length ++ b) true (byt_app (pseL_byt hs hd _ _) hb)
  have hf := foldS_bd hw.1
  exact hf
def wd2 (b : List Int) (i : Nat) : Int := b.getD i 0 * 256 + b.getD (i + 1) 0
def numN (b : List Int) (at_ : Nat) : Nat → Int
  | 0 => 0
  | n + 1 => 256 * numN b at_ n + b.getD (at_ + n) 0
theorem numN_bd {b : List Int} (h : byt b) (a : Nat) : 0 ≤ numN b a 0 ∧ numN b a 0 < 1 ∧ 0 ≤ numN b a 1 ∧ numN b a 1 < 256 ∧ 0 ≤ numN b a 2 ∧ numN b a 2 < 65536 ∧ 0 ≤ numN b a 3 ∧ numN b a 3 < 16777216 ∧ 0 ≤ numN b a 4 ∧ numN b a 4 < 4294967296 := by
  have h0 := byt_getD h (a + 0)
  have h1 := byt_getD h (a + 1)
  have h2 := byt_getD h (a + 2)
  have h3 := byt_getD h (a + 3)
  simp only [numN]
  omega
theorem numN_lt {b : List Int} (h : byt b) (a i : Nat) (hi : i ≤ 4) : 0 ≤ numN b a i ∧ numN b a i < 4294967296 := by
  have := numN_bd h a
  have h5 : i = 0 ∨ i = 1 ∨ i = 2 ∨ i = 3 ∨ i = 4 := by omega
  rcases h5 with rfl | rfl | rfl | rfl | rfl <;> omega
theorem numN_2 (b : List Int) (a : Nat) : numN b a 2 = wd2 b a := by
  simp only [numN, wd2, Nat.add_zero]; omega
def refLen (k n : Int) : Bool := if k = 2 then decide (n = 4) else if k = 3 then decide (n = 3) else if k = 4 then decide (n = 2) else if k = 5 then (((decide (n = 10) || decide (n = 18)) || decide (n = 26)) || decide (n = 34)) else if k = 8 then decide (n = 10) else decide (2 ≤ n)
def lenT : List Int := [0, 0, 16, 8, 4, 17247241216, 0, 0, 1024]
abbrev u64 (x : Int) : Value := .int .u64 x
def tstB (t n : Int) : Bool := decide (IntKind.u64.wrap (((t.fdiv (2 ^ (min n.toNat IntKind.u64.bits)) % 2 ^ IntKind.u64.bits).toNat &&& ((1 : Int) % 2 ^ IntKind.u64.bits).toNat : Nat) : Int) = 1)
def rightB (k n : Int) : Bool := (decide (9 ≤ k) || decide (lenT.getD k.toNat 0 = 0)) || tstB (lenT.getD k.toNat 0) n
theorem tst_16 : ∀ n : Fin 65, tstB 16 n.val = decide ((n.val : Int) = 4) := by decide +kernel
theorem tst_8 : ∀ n : Fin 65, tstB 8 n.val = decide ((n.val : Int) = 3) := by decide +kernel
theorem tst_4 : ∀ n : Fin 65, tstB 4 n.val = decide ((n.val : Int) = 2) := by decide +kernel
theorem tst_1024 : ∀ n : Fin 65, tstB 1024 n.val = decide ((n.val : Int) = 10) := by decide +kernel
theorem tst_5 : ∀ n : Fin 65, tstB 17247241216 n.val = (((decide ((n.val : Int) = 10) || decide ((n.val : Int) = 18)) || decide ((n.val : Int) = 26)) || decide ((n.val : Int) = 34)) := by decide +kernel
theorem tst_big {t : Int} {n : Nat} (h : 64 ≤ n) : tstB t n = tstB t 64 := by
  unfold tstB
  have e : min ((n : Nat) : Int).toNat IntKind.u64.bits = min ((64 : Nat) : Int).toNat IntKind.u64.bits := by
    show min n 64 = min 64 64
    omega
  rw [e]; rfl
theorem right_len {k n : Int} (hk : 0 ≤ k) (hn : 2 ≤ n) : rightB k n = refLen k n := by
  obtain ⟨m, rfl⟩ := Int.eq_ofNat_of_zero_le (show 0 ≤ n by omega)
  have key : ∀ (t : Int) (f : Int → Bool), (∀ j : Fin 65, tstB t j.val = f j.val) → (∀ j : Nat, 64 ≤ j → f j = f 64) → tstB t (m : Int) = f m := by
    intro t f h1 h2
    rcases Nat.lt_or_ge m 65 with h | h
    · exact h1 ⟨m, h⟩
    · rw [tst_big (by omega), h2 m (by omega)]; exact h1 ⟨64, by decide⟩
  unfold rightB refLen
  rcases Int.lt_or_le k 9 with h9 | h9
  · obtain ⟨j, rfl⟩ := Int.eq_ofNat_of_zero_le hk
    have hj : j < 9 := by omega
    have e9 : decide ((9 : Int) ≤ (j : Int)) = false := decide_eq_false (by omega)
    rw [e9, Int.toNat_natCast, Bool.false_or]
    rcases j with _ | _ | _ | _ | _ | _ | _ | _ | _ | j
    · simp [lenT]; omega
    · simp [lenT]; omega
    · simpa [lenT] using key 16 (fun n => decide (n = 4)) tst_16 (fun j hj => by simp only [decide_eq_decide]; omega)
    · simpa [lenT] using key 8 (fun n => decide (n = 3)) tst_8 (fun j hj => by simp only [decide_eq_decide]; omega)
    · simpa [lenT] using key 4 (fun n => decide (n = 2)) tst_4 (fun j hj => by simp only [decide_eq_decide]; omega)
    · have := key 17247241216 (fun n => (((decide (n = 10) || decide (n = 18)) || decide (n = 26)) || decide (n = 34))) tst_5 (fun j hj => by
        have a1 : decide ((j : Int) = 10) = false := decide_eq_false (by omega)
        have a2 : decide ((j : Int) = 18) = false := decide_eq_false (by omega)
        have a3 : decide ((j : Int) = 26) = false := decide_eq_false (by omega)
        have a4 : decide ((j : Int) = 34) = false := decide_eq_false (by omega)
        simp only [a1, a2, a3, a4]; decide)
      simpa [lenT] using this
    · simp [lenT]; omega
    · simp [lenT]; omega
    · simpa [lenT] using key 1024 (fun n => decide (n = 10)) tst_1024 (fun j hj => by simp only [decide_eq_decide]; omega)
    · omega
  · rw [decide_eq_true h9, if_neg (by omega), if_neg (by omega), if_neg (by omega), if_neg (by omega), if_neg (by omega), Bool.true_or, Bool.true_or, decide_eq_true hn]
def beN (v : Int) (n : Nat) : List Int := (List.range n).map fun i => v / 256 ^ (n - 1 - i) % 256
def toldB (o : Opt) : Bool := decide (o.kind = 2) && decide (o.data.length = 2)
def toldN (o : Opt) : Int := if toldB o = true then wd2 o.data 0 else 0
theorem lenT_at {j : Nat} (h : j < 9) : (lenT.map u64)[j]? = some (u64 (lenT.getD j 0)) := by
  have h2 : j < lenT.length := h
  rw [List.getElem?_map, List.getElem?_eq_getElem h2, List.getD_eq_getElem?_getD, List.getElem?_eq_getElem h2]; rfl
theorem gvS {N : List Nat} {w : World} {g : Nat} {T : TypeId} {c : List Value} (h : GV N w g T c) : Sl N w 1 (.slice (some ⟨g, 0, none⟩) c.length c.length) c.length c := ⟨by simp, _, _, rfl, Nat.le_refl _, fun e => (nomatch e), h⟩
set_option maxHeartbeats 1000000 in
theorem c123 (s d : IP) (w : World) (hs : s.ok) (ht : d.ok) :
  CallsD Tryd.prog 123 #[.agg (encIP s).toArray, .agg (encIP d).toArray] w (.int .i64 (fitE s d)) := by
 refine enter Tryd.func123 rfl Tryd.ntmps123 (l := [(0, [], _), (1, [], _)]) rfl rfl ?_
 have S := St.refl [] w
 refine Run.seq ?_
 refine Run.region ?_
 refine boxA rfl S rfl ?_
 intro b2 w1 hb2 S B_
 refine boxA rfl S rfl ?_
 intro b3 w2 hb3 S B_
 refine asg1 rfl rfl ?_
 refine Ro.nil ?_
 refine Nrm.code ?_
 refine Run.seq ?_
 refine Run.region ?_
 refine ldW rfl T24 S (i := 1) rfl rfl rfl rfl rfl ?_
 refine ldW rfl T24 S (i := 0) rfl rfl rfl rfl rfl ?_
 refine call (vs := [_, _, _, _]) ⟨⟨_, _, rfl, rfl⟩, ⟨_, _, rfl, rfl⟩, ⟨_, _, rfl, rfl⟩, ⟨_, _, rfl, rfl⟩, trivial⟩ k58 rfl (c58 _ _ _ _ _ hs ht (by unfold inI; omega)) ?_
 rintro _ w3 ⟨u5, rfl, hF⟩
 have S := S.fb hF
 refine mv1 rfl rfl ?_
 refine extr1 rfl rfl rfl ?_
 refine extr1 rfl rfl rfl ?_
 refine asg1 rfl rfl ?_
 refine asg1 rfl rfl ?_
 refine Ro.nil ?_
 refine Nrm.code ?_
 refine Run.seq ?_
 refine Run.region ?_
 refine mv1 rfl rfl ?_
 refine asg1 rfl rfl ?_
 refine Ro.nil ?_
 refine Nrm.code ?_
 refine Run.ret ?_
 refine Rt.one rfl rfl ?_
 exact ⟨by first | (rw [← pse_fit]; done) | (rw [← pse_fit]; rfl), S.bl⟩
set_option maxHeartbeats 1000000 in
theorem c130 (s d : IP) (w : World) (hs : s.ok) (ht : d.ok) :
  CallsD Tryd.prog 130 #[.agg (encIP s).toArray, .agg (encIP d).toArray] w (.bool (decide (fitE s d = 0))) := by
 refine enter Tryd.func130 rfl Tryd.ntmps130 (l := [(0, [], _), (1, [], _)]) rfl rfl ?_
 have S := St.refl [] w
 refine Run.seq ?_
 refine Run.region ?_
 refine boxA rfl S rfl ?_
 intro b2 w1 hb2 S B_
 refine boxA rfl S rfl ?_
 intro b3 w2 hb3 S B_
 refine asg1 rfl rfl ?_
 refine Ro.nil ?_
 refine Nrm.code ?_
 refine Run.seq ?_
 refine Run.region ?_
 refine ldW rfl T24 S (i := 1) rfl rfl rfl rfl rfl ?_
 refine ldW rfl T24 S (i := 0) rfl rfl rfl rfl rfl ?_
 refine call (vs := [_, _, _, _]) ⟨⟨_, _, rfl, rfl⟩, ⟨_, _, rfl, rfl⟩, ⟨_, _, rfl, rfl⟩, ⟨_, _, rfl, rfl⟩, trivial⟩ k154 rfl (c154 _ _ _ _ _ hs ht (by unfold inI; omega)) ?_
 rintro _ w3 ⟨u5, rfl, hF⟩
 have S := S.fb hF
 refine mv1 rfl rfl ?_
 refine extr1 rfl rfl rfl ?_
 refine extr1 rfl rfl rfl ?_
 refine asg1 rfl rfl ?_
 refine asg1 rfl rfl ?_
 refine Ro.nil ?_
 refine Nrm.code ?_
 refine Run.seq ?_
 refine Run.region ?_
 refine mv1 rfl rfl ?_
 refine eql1 rfl rfl rfl ?_
 refine asg1 rfl rfl ?_
 refine Ro.nil ?_
 refine Nrm.code ?_
 refine Run.ret ?_
 refine Rt.one rfl rfl ?_
 exact ⟨by first | (rw [← pse_fit]; done) | (rw [← pse_fit]; rfl), S.bl⟩
set_option maxHeartbeats 1000000 in
theorem c124 (s d : IP) (p : Int) (v : Value) (b : List Int) (w : World) (hs : s.ok) (ht : d.ok) (hb : BS [] w v b) (hl : b.length ≤ 65535) (he : pseE s d p b.length = 0) :
  CallsD Tryd.prog 124 #[.agg (encIP s).toArray, .agg (encIP d).toArray, .int .i64 p, v] w (.bool (decide (psum s d p b = 65535))) := by
 refine enter Tryd.func124 rfl Tryd.ntmps124 (l := [(0, [], _), (1, [], _), (2, [], _), (3, [], _)]) rfl rfl ?_
 have S := St.refl [] w
 refine Run.seq ?_
 refine Run.region ?_
 refine boxA rfl S rfl ?_
 intro b4 w1 hb4 S B_
 refine boxA rfl S rfl ?_
 intro b5 w2 hb5 S B_
 refine asg1 rfl rfl ?_
 refine Ro.nil ?_
 refine Nrm.code ?_
 refine Run.seq ?_
 refine Run.region ?_
 refine ldW rfl T24 S (i := 1) rfl rfl rfl rfl rfl ?_
 refine ldW rfl T24 S (i := 0) rfl rfl rfl rfl rfl ?_
 refine mv1 rfl rfl ?_
 refine mv1 rfl rfl ?_
 refine lenS rfl hb.2 Tryd.underlying26 rfl rfl rfl ?_
 refine call (vs := [_, _, _, _]) ⟨⟨_, _, rfl, rfl⟩, ⟨_, _, rfl, rfl⟩, ⟨_, _, rfl, rfl⟩, ⟨_, _, rfl, rfl⟩, trivial⟩ k58 rfl (c58 _ _ _ _ _ hs ht (by unfold inI; omega)) ?_
 rintro _ w3 ⟨up, rfl, hF⟩
 have S := S.fb hF
 refine mv1 rfl rfl ?_
 refine extr1 rfl rfl rfl ?_
 refine extr1 rfl rfl rfl ?_
 refine asg1 rfl rfl ?_
 refine asg1 rfl rfl ?_
 refine Ro.nil ?_
 refine Nrm.code ?_
 refine Run.seq ?_
 refine Run.region ?_
 refine mv1 rfl rfl ?_
 refine eql1 rfl rfl rfl ?_
 refine mv1 rfl rfl ?_
 refine mv rfl rfl rfl rfl ?_
 refine Ro.strip (by simp [allT, he]) ?_
 refine mv rfl rfl rfl rfl ?_
 refine Ro.strip (by simp [allT, he]) ?_
 refine Ro.gtrue rfl (by simp [allT, he]) ?_
 refine bsl e102 (qs := [(_, _), (_, _)]) ⟨⟨_, _, _, rfl, rfl, cells1 (S.slI (i := 0) rfl).one, rfl, List.cons_ne_nil _ _⟩, ⟨_, _, _, rfl, rfl, cells1 hb.one, rfl, List.cons_ne_nil _ _⟩, trivial⟩ rfl rfl rfl rfl S ?_
 intro u25 w4 S B_
 refine Ro.gtrue rfl (by simp [allT, he]) ?_
 have hck : CallsD Tryd.prog 36 #[u25] w4 (.bool (decide (psum s d p b = 65535))) := by
  have := c36 u25 [pseL s d p b.length, b] w4 ⟨[_, _], S.slI (i := 0) rfl, S.bsI (i := 1) rfl (pseL_byt hs ht _ _), hb.now S, trivial⟩ (by have := (pseL_len s d p b.length).1; simp; omega) (by simp)
  rw [show [pseL s d p b.length, b].flatten = pseL s d p b.length ++ b from by simp] at this
  exact this
 refine calg (vs := [_]) rfl ⟨⟨_, _, rfl, rfl⟩, trivial⟩ k36 rfl (fun hG => hck) ?_
 intro w5 B_; have S := S.call B_
 refine pkA rfl rfl rfl rfl rfl rfl ?_
 refine asg1 rfl rfl ?_
 refine Ro.nil ?_
 refine Nrm.code ?_
 refine Run.ret ?_
 refine Rt.one rfl rfl ?_
 exact ⟨by rw [he]; simp, S.bl⟩
set_option maxHeartbeats 1000000 in
theorem c132 (s d : IP) (p : Int) (v : Value) (b : List Int) (w : World) (hs : s.ok) (ht : d.ok) (hb : BS [] w v b) (hl : b.length ≤ 65535) (he : pseE s d p b.length = 0) :
  CallsD Tryd.prog 132 #[.agg (encIP s).toArray, .agg (encIP d).toArray, .int .i64 p, v] w (.bool (decide (psum s d p b = 65535))) := by
 refine enter Tryd.func132 rfl Tryd.ntmps132 (l := [(0, [], _), (1, [], _), (2, [], _), (3, [], _)]) rfl rfl ?_
 have S := St.refl [] w
 refine Run.seq ?_
 refine Run.region ?_
 refine boxA rfl S rfl ?_
 intro b4 w1 hb4 S B_
 refine boxA rfl S rfl ?_
 intro b5 w2 hb5 S B_
 refine asg1 rfl rfl ?_
 refine Ro.nil ?_
 refine Nrm.code ?_
 refine Run.seq ?_
 refine Run.region ?_
 refine ldW rfl T24 S (i := 1) rfl rfl rfl rfl rfl ?_
 refine ldW rfl T24 S (i := 0) rfl rfl rfl rfl rfl ?_
 refine mv1 rfl rfl ?_
 refine mv1 rfl rfl ?_
 refine lenS rfl hb.2 Tryd.underlying26 rfl rfl rfl ?_
 refine call (vs := [_, _, _, _]) ⟨⟨_, _, rfl, rfl⟩, ⟨_, _, rfl, rfl⟩, ⟨_, _, rfl, rfl⟩, ⟨_, _, rfl, rfl⟩, trivial⟩ k154 rfl (c154 _ _ _ _ _ hs ht (by unfold inI; omega)) ?_
 rintro _ w3 ⟨up, rfl, hF⟩
 have S := S.fb hF
 refine mv1 rfl rfl ?_
 refine extr1 rfl rfl rfl ?_
 refine extr1 rfl rfl rfl ?_
 refine asg1 rfl rfl ?_
 refine asg1 rfl rfl ?_
 refine Ro.nil ?_
 refine Nrm.code ?_
 refine Run.seq ?_
 refine Run.region ?_
 refine mv1 rfl rfl ?_
 refine mv1 rfl rfl ?_
 refine bsl e102 (qs := [(_, _), (_, _)]) ⟨⟨_, _, _, rfl, rfl, cells1 (S.slI (i := 0) rfl).one, rfl, List.cons_ne_nil _ _⟩, ⟨_, _, _, rfl, rfl, cells1 hb.one, rfl, List.cons_ne_nil _ _⟩, trivial⟩ rfl rfl rfl rfl S ?_
 intro u22 w4 S B_
 have hck : CallsD Tryd.prog 112 #[u22] w4 (.bool (decide (psum s d p b = 65535))) := by
  have := c112 u22 [pseL s d p b.length, b] w4 ⟨[_, _], S.slI (i := 0) rfl, S.bsI (i := 1) rfl (pseL_byt hs ht _ _), hb.now S, trivial⟩ (by have := (pseL_len s d p b.length).1; simp; omega) (by simp)
  rw [show [pseL s d p b.length, b].flatten = pseL s d p b.length ++ b from by simp] at this
  exact this
 refine calg (vs := [_]) rfl ⟨⟨_, _, rfl, rfl⟩, trivial⟩ k112 rfl (fun hG => hck) ?_
 intro w5 B_; have S := S.call B_
 refine asg1 rfl rfl ?_
 refine Ro.nil ?_
 refine Nrm.code ?_
 refine Run.ret ?_
 refine Rt.one rfl rfl ?_
 exact ⟨rfl, S.bl⟩
set_option maxHeartbeats 1000000 in
theorem c135 (s d : IP) (p : Int) (v : Value) (b : List Int) (w : World) (hs : s.ok) (ht : d.ok) (hb : BS [] w v b) (hl : b.length ≤ 65535) (he : pseE s d p b.length = 0) :
  CallsD Tryd.prog 135 #[.agg (encIP s).toArray, .agg (encIP d).toArray, .int .i64 p, v] w (.int .i64 (65535 - psum s d p b)) := by
 refine enter Tryd.func135 rfl Tryd.ntmps135 (l := [(0, [], _), (1, [], _), (2, [], _), (3, [], _)]) rfl rfl ?_
 have S := St.refl [] w
 refine Run.seq ?_
 refine Run.region ?_
 refine boxA rfl S rfl ?_
 intro b4 w1 hb4 S B_
 refine boxA rfl S rfl ?_
 intro b5 w2 hb5 S B_
 refine asg1 rfl rfl ?_
 refine Ro.nil ?_
 refine Nrm.code ?_
 refine Run.seq ?_
 refine Run.region ?_
 refine ldW rfl T24 S (i := 1) rfl rfl rfl rfl rfl ?_
 refine ldW rfl T24 S (i := 0) rfl rfl rfl rfl rfl ?_
 refine mv1 rfl rfl ?_
 refine mv1 rfl rfl ?_
 refine lenS rfl hb.2 Tryd.underlying26 rfl rfl rfl ?_
 refine call (vs := [_, _, _, _]) ⟨⟨_, _, rfl, rfl⟩, ⟨_, _, rfl, rfl⟩, ⟨_, _, rfl, rfl⟩, ⟨_, _, rfl, rfl⟩, trivial⟩ k154 rfl (c154 _ _ _ _ _ hs ht (by unfold inI; omega)) ?_
 rintro _ w3 ⟨up, rfl, hF⟩
 have S := S.fb hF
 refine mv1 rfl rfl ?_
 refine extr1 rfl rfl rfl ?_
 refine extr1 rfl rfl rfl ?_
 refine asg1 rfl rfl ?_
 refine asg1 rfl rfl ?_
 refine Ro.nil ?_
 refine Nrm.code ?_
 refine Run.seq ?_
 refine Run.region ?_
 refine mv1 rfl rfl ?_
 refine mv1 rfl rfl ?_
 refine bsl e102 (qs := [(_, _), (_, _)]) ⟨⟨_, _, _, rfl, rfl, cells1 (S.slI (i := 0) rfl).one, rfl, List.cons_ne_nil _ _⟩, ⟨_, _, _, rfl, rfl, cells1 hb.one, rfl, List.cons_ne_nil _ _⟩, trivial⟩ rfl rfl rfl rfl S ?_
 intro u22 w4 S B_
 have hck : CallsD Tryd.prog 117 #[u22] w4 (.int .i64 (65535 - psum s d p b)) := by
  have := c117 u22 [pseL s d p b.length, b] w4 ⟨[_, _], S.slI (i := 0) rfl, S.bsI (i := 1) rfl (pseL_byt hs ht _ _), hb.now S, trivial⟩ (by have := (pseL_len s d p b.length).1; simp; omega) (by simp)
  rw [show [pseL s d p b.length, b].flatten = pseL s d p b.length ++ b from by simp] at this
  exact this
 refine calg (vs := [_]) rfl ⟨⟨_, _, rfl, rfl⟩, trivial⟩ k117 rfl (fun hG => hck) ?_
 intro w5 B_; have S := S.call B_
 refine asg1 rfl rfl ?_
 refine Ro.nil ?_
 refine Nrm.code ?_
 refine Run.ret ?_
 refine Rt.one rfl rfl ?_
 exact ⟨rfl, S.bl⟩
set_option maxHeartbeats 1000000 in
theorem c131 (v : Value) (b : List Int) (a n : Nat) (w : World) (hb : BS [] w v b) (ha : a + n ≤ b.length) (hn : n ≤ 4) (hl : b.length ≤ 1099511627776) :
  CallsD Tryd.prog 131 #[v, .int .i64 a, .int .i64 n] w (.int .i64 (numN b a n)) := by
 refine enter Tryd.func131 rfl Tryd.ntmps131 (l := [(0, [], _), (1, [], _), (2, [], _)]) rfl rfl ?_
 have S := St.refl [] w
 refine Run.seq ?_
 refine Run.region ?_
 refine asg1 rfl rfl ?_
 refine Ro.nil ?_
 refine Nrm.code ?_
 refine Run.seq ?_
 refine Run.region ?_
 refine asg1 rfl rfl ?_
 refine Ro.nil ?_
 refine Nrm.code ?_
 refine Run.seq ?_
 refine Run.seq ?_
 refine Run.region ?_
 refine asg1 rfl rfl ?_
 refine Ro.nil ?_
 refine Nrm.code ?_
 refine Run.block ?_
 refine Run.loop1 (fun (i : Nat) w_ => i ≤ n ∧ St [] w [] w_) (fun (i : Nat) => [(0, [], v), (1, [], .int .i64 a), (2, [], .int .i64 n), (7, [], .int .i64 (numN b a i)), (8, [], .int .i64 i)]) (fun (i : Nat) => n - i) (0) ⟨Nat.zero_le _, S⟩ ⟨rfl, rfl, rfl, rfl, rfl, trivial⟩ ?_
 rintro i w1 ⟨hi, S⟩
 have hnb := numN_lt hb.1 a i (by omega)
 refine Run.seq ?_
 refine Run.seq ?_
 refine Run.region ?_
 refine mv1 rfl rfl ?_
 refine mv1 rfl rfl ?_
 refine lss1 rfl rfl rfl ?_
 refine Ro.nil ?_
 refine Nrm.code ?_
 refine Run.cond rfl (fun hc3 => ?_) (fun hc3 => ?_)
 ·
  try simp only [Bool.or_eq_true, Bool.and_eq_true, Bool.or_eq_false_iff, Bool.and_eq_false_iff, decide_eq_true_eq, decide_eq_false_iff_not, Bool.not_eq_true', Bool.not_eq_false', Bool.not_eq_true, Bool.not_eq_false] at hc3
  refine Run.skip ?_
  refine Nrm.code ?_
  refine Run.seq ?_
  refine Run.block ?_
  refine Run.region ?_
  refine mv1 rfl rfl ?_
  refine mul1 rfl rfl rfl (w64 (by omega)) ?_
  refine mv1 rfl rfl ?_
  refine mv1 rfl rfl ?_
  refine mv1 rfl rfl ?_
  refine add1 rfl rfl rfl (w64 (by omega)) ?_
  refine ixa rfl rfl hb.2 e26 rfl rfl rfl rfl (fun _ => by first | omega | (simp only [List.length_cons, List.length_nil]; omega)) ?_
  refine ldB rfl hb S T5 rfl rfl rfl (fun _ => by omega) ?_
  intro q21 hq21 hbq21
  try simp only [Int.toNat_natCast, Nat.mul_one, Int.reduceToNat] at hq21
  have e21 : q21 = b.getD (a + i) 0 := by rw [hq21]; congr 1
  refine cvi1 rfl rfl Tryd.underlying5 Tryd.underlying3 (w64 (by omega)) ?_
  refine add1 rfl rfl rfl (w64 (by omega)) ?_
  refine asg1 rfl rfl ?_
  refine Ro.nil ?_
  refine Nrm.blk ?_
  refine Nrm.code ?_
  refine Run.region ?_
  refine mv1 rfl rfl ?_
  refine add1 rfl rfl rfl (w64 (by omega)) ?_
  refine asg1 rfl rfl ?_
  refine Ro.nil ?_
  refine Nrm.loop1 (i + 1) ⟨by omega, S⟩ (by omega) ⟨rfl, rfl, rfl, by rw [show numN b a (i + 1) = 256 * numN b a i + q21 from by rw [e21]; rfl]; rfl, rfl, trivial⟩
 ·
  try simp only [Bool.or_eq_true, Bool.and_eq_true, Bool.or_eq_false_iff, Bool.and_eq_false_iff, decide_eq_true_eq, decide_eq_false_iff_not, Bool.not_eq_true', Bool.not_eq_false', Bool.not_eq_true, Bool.not_eq_false] at hc3
  refine Run.exit ?_
  refine Lv.code ?_
  refine Lv.back ?_
  refine Lv.hit ?_
  refine Nrm.code ?_
  refine Run.seq ?_
  refine Run.region ?_
  refine mv1 rfl rfl ?_
  refine asg1 rfl rfl ?_
  refine Ro.nil ?_
  refine Nrm.code ?_
  refine Run.ret ?_
  refine Rt.one rfl rfl ?_
  have e : i = n := by omega
  exact ⟨by rw [e], S.bl⟩
set_option maxHeartbeats 1000000 in
theorem c133 (k n : Int) (w : World) :
  CallsD Tryd.prog 133 #[.int .i64 k, .int .i64 n] w (.bool (refLen k n)) := by
 refine enter Tryd.func133 rfl Tryd.ntmps133 (l := [(0, [], _), (1, [], _)]) rfl rfl ?_
 have S := St.refl [] w
 refine Run.seq ?_
 refine Run.region ?_
 refine asg1 rfl rfl ?_
 refine Ro.nil ?_
 refine Nrm.code ?_
 refine Run.seq ?_
 refine Run.seq ?_
 refine Run.region ?_
 refine mv1 rfl rfl ?_
 refine Ro.nil ?_
 refine Nrm.code ?_
 refine Run.block ?_
 refine Run.seq ?_
 refine Run.region ?_
 refine eql1 rfl rfl rfl ?_
 refine asg1 rfl rfl ?_
 refine Ro.nil ?_
 refine Nrm.code ?_
 refine Run.cond rfl (fun hc2 => ?_) (fun hc2 => ?_)
 ·
  try simp only [Bool.or_eq_true, Bool.and_eq_true, Bool.or_eq_false_iff, Bool.and_eq_false_iff, decide_eq_true_eq, decide_eq_false_iff_not, Bool.not_eq_true', Bool.not_eq_false', Bool.not_eq_true, Bool.not_eq_false] at hc2
  refine Run.seq ?_
  refine Run.region ?_
  refine mv1 rfl rfl ?_
  refine eql1 rfl rfl rfl ?_
  refine asg1 rfl rfl ?_
  refine Ro.nil ?_
  refine Nrm.code ?_
  refine Run.ret ?_
  refine Rt.one rfl rfl ?_
  exact ⟨by unfold refLen; rw [if_pos hc2], S.bl⟩
 ·
  try simp only [Bool.or_eq_true, Bool.and_eq_true, Bool.or_eq_false_iff, Bool.and_eq_false_iff, decide_eq_true_eq, decide_eq_false_iff_not, Bool.not_eq_true', Bool.not_eq_false', Bool.not_eq_true, Bool.not_eq_false] at hc2
  refine Run.seq ?_
  refine Run.region ?_
  refine eql1 rfl rfl rfl ?_
  refine asg1 rfl rfl ?_
  refine Ro.nil ?_
  refine Nrm.code ?_
  refine Run.cond rfl (fun hc4 => ?_) (fun hc4 => ?_)
  ·
   try simp only [Bool.or_eq_true, Bool.and_eq_true, Bool.or_eq_false_iff, Bool.and_eq_false_iff, decide_eq_true_eq, decide_eq_false_iff_not, Bool.not_eq_true', Bool.not_eq_false', Bool.not_eq_true, Bool.not_eq_false] at hc4
   refine Run.seq ?_
   refine Run.region ?_
   refine mv1 rfl rfl ?_
   refine eql1 rfl rfl rfl ?_
   refine asg1 rfl rfl ?_
   refine Ro.nil ?_
   refine Nrm.code ?_
   refine Run.ret ?_
   refine Rt.one rfl rfl ?_
   exact ⟨by unfold refLen; rw [if_neg hc2, if_pos hc4], S.bl⟩
  ·
   try simp only [Bool.or_eq_true, Bool.and_eq_true, Bool.or_eq_false_iff, Bool.and_eq_false_iff, decide_eq_true_eq, decide_eq_false_iff_not, Bool.not_eq_true', Bool.not_eq_false', Bool.not_eq_true, Bool.not_eq_false] at hc4
   refine Run.seq ?_
   refine Run.region ?_
   refine eql1 rfl rfl rfl ?_
   refine asg1 rfl rfl ?_
   refine Ro.nil ?_
   refine Nrm.code ?_
   refine Run.cond rfl (fun hc6 => ?_) (fun hc6 => ?_)
   ·
    try simp only [Bool.or_eq_true, Bool.and_eq_true, Bool.or_eq_false_iff, Bool.and_eq_false_iff, decide_eq_true_eq, decide_eq_false_iff_not, Bool.not_eq_true', Bool.not_eq_false', Bool.not_eq_true, Bool.not_eq_false] at hc6
    refine Run.seq ?_
    refine Run.region ?_
    refine mv1 rfl rfl ?_
    refine eql1 rfl rfl rfl ?_
    refine asg1 rfl rfl ?_
    refine Ro.nil ?_
    refine Nrm.code ?_
    refine Run.ret ?_
    refine Rt.one rfl rfl ?_
    exact ⟨by unfold refLen; rw [if_neg hc2, if_neg hc4, if_pos hc6], S.bl⟩
   ·
    try simp only [Bool.or_eq_true, Bool.and_eq_true, Bool.or_eq_false_iff, Bool.and_eq_false_iff, decide_eq_true_eq, decide_eq_false_iff_not, Bool.not_eq_true', Bool.not_eq_false', Bool.not_eq_true, Bool.not_eq_false] at hc6
    refine Run.seq ?_
    refine Run.region ?_
    refine eql1 rfl rfl rfl ?_
    refine asg1 rfl rfl ?_
    refine Ro.nil ?_
    refine Nrm.code ?_
    refine Run.cond rfl (fun hc8 => ?_) (fun hc8 => ?_)
    ·
     try simp only [Bool.or_eq_true, Bool.and_eq_true, Bool.or_eq_false_iff, Bool.and_eq_false_iff, decide_eq_true_eq, decide_eq_false_iff_not, Bool.not_eq_true', Bool.not_eq_false', Bool.not_eq_true, Bool.not_eq_false] at hc8
     refine Run.seq ?_
     refine Run.region ?_
     refine mv1 rfl rfl ?_
     refine eql1 rfl rfl rfl ?_
     refine mv1 rfl rfl ?_
     refine mv rfl rfl rfl rfl ?_
     refine eql rfl rfl rfl rfl rfl rfl ?_
     refine pkO rfl rfl rfl rfl rfl rfl ?_
     refine mv1 rfl rfl ?_
     refine mv rfl rfl rfl rfl ?_
     refine eql rfl rfl rfl rfl rfl rfl ?_
     refine pkO rfl rfl rfl rfl rfl rfl ?_
     refine mv1 rfl rfl ?_
     refine mv rfl rfl rfl rfl ?_
     refine eql rfl rfl rfl rfl rfl rfl ?_
     refine pkO rfl rfl rfl rfl rfl rfl ?_
     refine asg1 rfl rfl ?_
     refine Ro.nil ?_
     refine Nrm.code ?_
     refine Run.ret ?_
     refine Rt.one rfl rfl ?_
     exact ⟨by unfold refLen; rw [if_neg hc2, if_neg hc4, if_neg hc6, if_pos hc8], S.bl⟩
    ·
     try simp only [Bool.or_eq_true, Bool.and_eq_true, Bool.or_eq_false_iff, Bool.and_eq_false_iff, decide_eq_true_eq, decide_eq_false_iff_not, Bool.not_eq_true', Bool.not_eq_false', Bool.not_eq_true, Bool.not_eq_false] at hc8
     refine Run.seq ?_
     refine Run.region ?_
     refine eql1 rfl rfl rfl ?_
     refine asg1 rfl rfl ?_
     refine Ro.nil ?_
     refine Nrm.code ?_
     refine Run.cond rfl (fun hc10 => ?_) (fun hc10 => ?_)
     ·
      try simp only [Bool.or_eq_true, Bool.and_eq_true, Bool.or_eq_false_iff, Bool.and_eq_false_iff, decide_eq_true_eq, decide_eq_false_iff_not, Bool.not_eq_true', Bool.not_eq_false', Bool.not_eq_true, Bool.not_eq_false] at hc10
      refine Run.seq ?_
      refine Run.region ?_
      refine mv1 rfl rfl ?_
      refine eql1 rfl rfl rfl ?_
      refine asg1 rfl rfl ?_
      refine Ro.nil ?_
      refine Nrm.code ?_
      refine Run.ret ?_
      refine Rt.one rfl rfl ?_
      exact ⟨by unfold refLen; rw [if_neg hc2, if_neg hc4, if_neg hc6, if_neg hc8, if_pos hc10], S.bl⟩
     ·
      try simp only [Bool.or_eq_true, Bool.and_eq_true, Bool.or_eq_false_iff, Bool.and_eq_false_iff, decide_eq_true_eq, decide_eq_false_iff_not, Bool.not_eq_true', Bool.not_eq_false', Bool.not_eq_true, Bool.not_eq_false] at hc10
      refine Run.skip ?_
      refine Nrm.blk ?_
      refine Nrm.code ?_
      refine Run.seq ?_
      refine Run.region ?_
      refine mv1 rfl rfl ?_
      refine geq1 rfl rfl rfl ?_
      refine asg1 rfl rfl ?_
      refine Ro.nil ?_
      refine Nrm.code ?_
      refine Run.ret ?_
      refine Rt.one rfl rfl ?_
      exact ⟨by unfold refLen; rw [if_neg hc2, if_neg hc4, if_neg hc6, if_neg hc8, if_neg hc10], S.bl⟩
set_option maxHeartbeats 1000000 in
theorem c127 (k n : Int) (w : World) (hk : 0 ≤ k) (hn : 0 ≤ n ∧ n ≤ 1099511627776) (hg : GV [] w 3 183 (lenT.map u64)) :
  CallsD Tryd.prog 127 #[.int .i64 k, .int .i64 n] w (.bool (rightB k n)) := by
 refine enter Tryd.func127 rfl Tryd.ntmps127 (l := [(0, [], _), (1, [], _)]) rfl rfl ?_
 have S := St.refl [] w
 refine Run.seq ?_
 refine Run.region ?_
 refine asg1 rfl rfl ?_
 refine Ro.nil ?_
 refine Nrm.code ?_
 refine Run.seq ?_
 refine Run.region ?_
 refine mv1 rfl rfl ?_
 refine geq1 rfl rfl rfl ?_
 refine mv1 rfl rfl ?_
 refine mv rfl rfl rfl rfl ?_
 refine ixP rfl rfl Tryd.underlying183 T182 rfl rfl rfl rfl (fun hG => by (simp [allT] at hG); omega) rfl ?_
 refine ldE (v := .slice (some ⟨3, 0, none⟩) 9 9) (u := u64 (lenT.getD k.toNat 0)) rfl (gvS hg) S T182 rfl rfl rfl (fun hG => by have hk9 : k.toNat < 9 := (by (simp [allT] at hG); omega); have h9 := lenT_at hk9; rw [Nat.mul_one]; exact h9) ?_
 refine eql rfl rfl rfl rfl rfl rfl ?_
 refine pkO rfl rfl rfl rfl rfl rfl ?_
 refine mv1 rfl rfl ?_
 refine mv rfl rfl rfl rfl ?_
 refine ixP rfl rfl Tryd.underlying183 T182 rfl rfl rfl rfl (fun hG => by (simp [allT] at hG); omega) rfl ?_
 refine ldE (v := .slice (some ⟨3, 0, none⟩) 9 9) (u := u64 (lenT.getD k.toNat 0)) rfl (gvS hg) S T182 rfl rfl rfl (fun hG => by have hk9 : k.toNat < 9 := (by (simp [allT] at hG); omega); have h9 := lenT_at hk9; rw [Nat.mul_one]; exact h9) ?_
 refine mv rfl rfl rfl rfl ?_
 refine cvi rfl rfl rfl rfl Tryd.underlying3 Tryd.underlying135 (fun hG => by first | exact wu64 (by omega) | (simp [allT] at hG; exact wu64 (by omega))) ?_
 refine shr rfl rfl rfl rfl rfl rfl (fun hG => by first | exact by omega | (simp [allT] at hG; exact by omega)) (fun hG => by first | exact rfl | (simp [allT] at hG; exact rfl)) ?_
 refine band rfl rfl rfl rfl rfl rfl (fun hG => by first | exact rfl | (simp [allT] at hG; exact rfl)) ?_
 refine eql rfl rfl rfl rfl rfl rfl ?_
 refine pkO rfl rfl rfl rfl rfl rfl ?_
 refine asg1 rfl rfl ?_
 refine Ro.nil ?_
 refine Nrm.code ?_
 refine Run.ret ?_
 refine Rt.one rfl rfl ?_
 exact ⟨rfl, S.bl⟩
end Go.Proofs.YtkahmepenjhcpaaDoor.W
/- Contracts: numbers written, what an option tells. No statement of the seat is proved here. -/
namespace Go.Proofs.YtkahmepenjhcpaaDoor.W
open Go
set_option linter.unusedSimpArgs false
set_option linter.unusedVariables false
theorem qv64 {a b : Int} (h : 0 ≤ a ∧ a ≤ 4611686018427387904) (hb : 0 < b) : IntKind.i64.wrap (a.tdiv b) = a / b := by
  rw [Int.tdiv_eq_ediv_of_nonneg h.1]
  have h1 : 0 ≤ a / b := Int.ediv_nonneg h.1 (by omega)
  have h2 : a / b ≤ a := Int.ediv_le_self b h.1
  exact w64 (by omega)
theorem div_bd {a b : Int} (h : 0 ≤ a) (hb : 0 < b) : 0 ≤ a / b ∧ a / b ≤ a := ⟨Int.ediv_nonneg h (by omega), Int.ediv_le_self b h⟩
theorem beN_len (v : Int) (n : Nat) : (beN v n).length = n := by simp [beN]
theorem beN_take {v : Int} {n j : Nat} (h : j < n) : (beN v n).take j ++ [v / 256 ^ (n - 1 - j) % 256] = (beN v n).take (j + 1) := by
  have h2 : j < (beN v n).length := by rw [beN_len]; exact h
  rw [List.take_succ_eq_append_getElem h2]
  simp [beN]
def jp (n j : Nat) (p : Int) : Prop := (n = j ∧ p = 0) ∨ (n = j + 1 ∧ p = 1) ∨ (n = j + 2 ∧ p = 256) ∨ (n = j + 3 ∧ p = 65536) ∨ (n = j + 4 ∧ p = 16777216)
theorem jp_pow {n j : Nat} {p : Int} (h : jp n j p) (hj : j < n) : p = 256 ^ (n - 1 - j) := by
  rcases h with ⟨h1, h2⟩ | ⟨h1, h2⟩ | ⟨h1, h2⟩ | ⟨h1, h2⟩ | ⟨h1, h2⟩
  · omega
  · rw [h2, show n - 1 - j = 0 from by omega]; rfl
  · rw [h2, show n - 1 - j = 1 from by omega]; rfl
  · rw [h2, show n - 1 - j = 2 from by omega]; rfl
  · rw [h2, show n - 1 - j = 3 from by omega]; rfl
theorem beN_1 (v : Int) : beN v 1 = [v % 256] := by simp [beN, List.range_succ]
theorem beN_2 (v : Int) : beN v 2 = [v / 256 % 256, v % 256] := by simp [beN, List.range_succ]
theorem beN_4 (v : Int) : beN v 4 = [v / 16777216 % 256, v / 65536 % 256, v / 256 % 256, v % 256] := by simp [beN, List.range_succ]
set_option maxHeartbeats 1000000 in
theorem c134 (vb : Value) (b : List Int) (v : Int) (n : Nat) (w : World) (hv : (oB vb b).holds w) (hn : 1 ≤ n ∧ n ≤ 4) (hx : 0 ≤ v ∧ v ≤ 1099511627776) (hl : b.length ≤ 1099511627776) :
  CallsV Tryd.prog 134 #[vb, .int .i64 v, .int .i64 n] w (fun r w' => Tn w w' (oB vb b) (oB r (b ++ beN v n))) := by
 refine enter Tryd.func134 rfl Tryd.ntmps134 (l := [(0, [], _), (1, [], _), (2, [], _)]) rfl rfl ?_
 have S := St.own0 hv
 refine Run.seq ?_
 refine Run.region ?_
 refine asg1 rfl rfl ?_
 refine Ro.nil ?_
 refine Nrm.code ?_
 refine Run.seq ?_
 refine Run.region ?_
 refine asg1 rfl rfl ?_
 refine Ro.nil ?_
 refine Nrm.code ?_
 refine Run.seq ?_
 refine Run.seq ?_
 refine Run.region ?_
 refine asg1 rfl rfl ?_
 refine Ro.nil ?_
 refine Nrm.code ?_
 refine Run.block ?_
 refine Run.loop2 (fun (i : Nat) (p : Int) w_ => ((i = 1 ∧ p = 1) ∨ (i = 2 ∧ p = 256) ∨ (i = 3 ∧ p = 65536) ∨ (i = 4 ∧ p = 16777216)) ∧ i ≤ n ∧ St ((oB vb b).ids) w [oB vb b] w_) (fun (i : Nat) (p : Int) => [(0, [], vb), (1, [], .int .i64 v), (2, [], .int .i64 n), (7, [], .int .i64 p), (8, [], .int .i64 i)]) (fun (i : Nat) (p : Int) => n - i) (1) (1) ⟨.inl ⟨rfl, rfl⟩, hn.1, S⟩ ⟨rfl, rfl, rfl, rfl, rfl, trivial⟩ ?_
 rintro i p w1 ⟨hip, hi, S⟩
 refine Run.seq ?_
 refine Run.seq ?_
 refine Run.region ?_
 refine mv1 rfl rfl ?_
 refine mv1 rfl rfl ?_
 refine lss1 rfl rfl rfl ?_
 refine Ro.nil ?_
 refine Nrm.code ?_
 refine Run.cond rfl (fun hc3 => ?_) (fun hc3 => ?_)
 ·
  try simp only [Bool.or_eq_true, Bool.and_eq_true, Bool.or_eq_false_iff, Bool.and_eq_false_iff, decide_eq_true_eq, decide_eq_false_iff_not, Bool.not_eq_true', Bool.not_eq_false', Bool.not_eq_true, Bool.not_eq_false] at hc3
  refine Run.skip ?_
  refine Nrm.code ?_
  refine Run.seq ?_
  refine Run.block ?_
  refine Run.region ?_
  refine mv1 rfl rfl ?_
  refine mul1 rfl rfl rfl (w64 (by omega)) ?_
  refine asg1 rfl rfl ?_
  refine Ro.nil ?_
  refine Nrm.blk ?_
  refine Nrm.code ?_
  refine Run.region ?_
  refine mv1 rfl rfl ?_
  refine add1 rfl rfl rfl (w64 (by omega)) ?_
  refine asg1 rfl rfl ?_
  refine Ro.nil ?_
  refine Nrm.loop2 (i + 1) (_) ⟨by omega, by omega, S⟩ (by omega) ⟨rfl, rfl, rfl, rfl, rfl, trivial⟩
 ·
  try simp only [Bool.or_eq_true, Bool.and_eq_true, Bool.or_eq_false_iff, Bool.and_eq_false_iff, decide_eq_true_eq, decide_eq_false_iff_not, Bool.not_eq_true', Bool.not_eq_false', Bool.not_eq_true, Bool.not_eq_false] at hc3
  refine Run.exit ?_
  refine Lv.code ?_
  refine Lv.back ?_
  refine Lv.hit ?_
  refine Nrm.code ?_
  refine Run.seq ?_
  refine Run.seq ?_
  refine Run.region ?_
  refine asg1 rfl rfl ?_
  refine Ro.nil ?_
  refine Nrm.code ?_
  refine Run.block ?_
  refine Run.loop3 (fun (j : Nat) (p : Int) (u : Value) w_ => jp n j p ∧ j ≤ n ∧ St ((oB vb b).ids) w [oB u (b ++ (beN v n).take j)] w_) (fun (j : Nat) (p : Int) (u : Value) => [(0, [], u), (1, [], .int .i64 v), (2, [], .int .i64 n), (7, [], .int .i64 p), (9, [], .int .i64 j)]) (fun (j : Nat) (p : Int) (u : Value) => n - j) (0) (_) (_) ⟨by unfold jp; omega, Nat.zero_le _, by simpa using S⟩ ⟨rfl, rfl, rfl, rfl, rfl, trivial⟩ ?_
  rintro j p u w2 ⟨hjp, hj, S⟩
  refine Run.seq ?_
  refine Run.seq ?_
  refine Run.region ?_
  refine mv1 rfl rfl ?_
  refine mv1 rfl rfl ?_
  refine lss1 rfl rfl rfl ?_
  refine Ro.nil ?_
  refine Nrm.code ?_
  refine Run.cond rfl (fun hc7 => ?_) (fun hc7 => ?_)
  ·
   try simp only [Bool.or_eq_true, Bool.and_eq_true, Bool.or_eq_false_iff, Bool.and_eq_false_iff, decide_eq_true_eq, decide_eq_false_iff_not, Bool.not_eq_true', Bool.not_eq_false', Bool.not_eq_true, Bool.not_eq_false] at hc7
   refine Run.skip ?_
   refine Nrm.code ?_
   refine Run.seq ?_
   refine Run.block ?_
   refine Run.seq ?_
   refine Run.region ?_
   have hjn : j < n := by omega
   have hpw := jp_pow hjp hjn
   have hp0 : 0 < p := by unfold jp at hjp; omega
   have hdb := div_bd hx.1 hp0
   refine mv1 rfl rfl ?_
   refine mv1 rfl rfl ?_
   refine mv1 rfl rfl ?_
   refine quo1 rfl rfl rfl (by omega) (qv64 (by omega) hp0) ?_
   refine rem1 rfl rfl rfl (by decide) (r64 (by omega)) ?_
   refine cvi1 rfl rfl Tryd.underlying3 Tryd.underlying5 (w8of rfl (by omega)) ?_
   refine apBF (b := [_]) rfl e26 (qs := [(_, _)]) ⟨⟨_, _, _, rfl, rfl, rfl, rfl, by first | (simp [Value.cells]; done) | simp [Value.cells, encIP]⟩, trivial⟩ (by decide) rfl rfl S (i := 0) rfl rfl rfl (fun t e => by cases e; rfl) (fun _ => rfl) (by rw [List.length_append, List.length_take, beN_len]; omega) ?_
   intro u_ v29 w3 S B_
   refine asg1 rfl rfl ?_
   refine Ro.nil ?_
   refine Nrm.code ?_
   refine Run.region ?_
   refine mv1 rfl rfl ?_
   refine quo1 rfl rfl rfl (by decide) (qv64 (by unfold jp at hjp; omega) (by decide)) ?_
   refine asg1 rfl rfl ?_
   refine Ro.nil ?_
   refine Nrm.blk ?_
   refine Nrm.code ?_
   refine Run.region ?_
   refine mv1 rfl rfl ?_
   refine add1 rfl rfl rfl (w64 (by omega)) ?_
   refine asg1 rfl rfl ?_
   refine Ro.nil ?_
   refine Nrm.loop3 (j + 1) (_) (_) ⟨by unfold jp at *; omega, by omega, by have S2 := S; rw [List.append_assoc, hpw, beN_take hjn] at S2; exact S2⟩ (by omega) ⟨rfl, rfl, rfl, rfl, rfl, trivial⟩
  ·
   try simp only [Bool.or_eq_true, Bool.and_eq_true, Bool.or_eq_false_iff, Bool.and_eq_false_iff, decide_eq_true_eq, decide_eq_false_iff_not, Bool.not_eq_true', Bool.not_eq_false', Bool.not_eq_true, Bool.not_eq_false] at hc7
   refine Run.exit ?_
   refine Lv.code ?_
   refine Lv.back ?_
   refine Lv.hit ?_
   refine Nrm.code ?_
   refine Run.seq ?_
   refine Run.region ?_
   refine mv1 rfl rfl ?_
   refine asg1 rfl rfl ?_
   refine Ro.nil ?_
   refine Nrm.code ?_
   refine Run.ret ?_
   refine Rt.one rfl rfl ?_
   have e : j = n := by omega
   rw [e, show (beN v n).take n = beN v n from List.take_of_length_le (by rw [beN_len]; exact Nat.le_refl _)] at S
   exact S.toTn (i := 0) rfl
set_option maxHeartbeats 1000000 in
theorem c128 (o : Opt) (v : Value) (w : World) (hb : BS [] w v o.data) :
    CallsD Tryd.prog 128 #[.agg #[i64 o.kind, v]] w (.tuple #[.int .i64 (toldN o), .bool (toldB o)]) := by
  refine enter Tryd.func128 rfl Tryd.ntmps128 (l := [(0, [], _)]) rfl rfl ?_
  have S := St.refl [] w
  refine Run.seq ?_
  refine Run.region ?_
  refine boxA rfl S rfl ?_
  intro b1 w1 hb1 S B_
  refine asg1 rfl rfl ?_
  refine asg1 rfl rfl ?_
  refine Ro.nil ?_
  refine Nrm.code ?_
  refine Run.seq ?_
  refine Run.seq ?_
  refine Run.region ?_
  refine fld (o' := 0) rfl fo93_0 rfl rfl rfl rfl ?_
  refine ld1 rfl T3 S (i := 0) rfl rfl rfl rfl rfl ?_
  refine neq1 rfl rfl rfl ?_
  refine mv1 rfl rfl ?_
  refine fld (o' := 1) rfl fo93_1 rfl rfl rfl rfl ?_
  refine ld1 rfl T26 S (i := 0) rfl rfl rfl rfl rfl ?_
  refine lenS rfl hb.2 Tryd.underlying26 rfl rfl rfl ?_
  refine neq rfl rfl rfl rfl rfl rfl ?_
  refine pkO rfl rfl rfl rfl rfl rfl ?_
  refine Ro.nil ?_
  refine Nrm.code ?_
  refine Run.cond rfl (fun hc1 => ?_) (fun hc1 => ?_)
  ·
    try simp only [Bool.or_eq_true, Bool.and_eq_true, Bool.or_eq_false_iff, Bool.and_eq_false_iff, decide_eq_true_eq, decide_eq_false_iff_not, Bool.not_eq_true', Bool.not_eq_false', Bool.not_eq_true, Bool.not_eq_false] at hc1
    refine Run.seq ?_
    refine Run.region ?_
    refine asg1 rfl rfl ?_
    refine asg1 rfl rfl ?_
    refine Ro.nil ?_
    refine Nrm.code ?_
    refine Run.ret ?_
    refine Rt.two rfl rfl rfl ?_
    have ht : toldB o = false := by
      unfold toldB
      rcases hc1 with h | h
      · simp [h]
      · have h2 : ¬ o.data.length = 2 := by omega
        simp [h2]
    exact ⟨by unfold toldN; rw [ht]; rfl, S.bl⟩
  ·
    try simp only [Bool.or_eq_true, Bool.and_eq_true, Bool.or_eq_false_iff, Bool.and_eq_false_iff, decide_eq_true_eq, decide_eq_false_iff_not, Bool.not_eq_true', Bool.not_eq_false', Bool.not_eq_true, Bool.not_eq_false] at hc1
    refine Run.skip ?_
    refine Nrm.code ?_
    refine Run.seq ?_
    refine Run.draw (by kernel_rfl) (by kernel_rfl) S ?_
    refine qfld (o' := 1) rfl fo93_1 rfl rfl rfl rfl ?_
    refine qld1 rfl T26 (fun _ S => S) (i := 0) rfl rfl rfl rfl rfl ?_
    refine qixa rfl rfl hb.2 e26 rfl rfl rfl rfl (fun _ => by first | omega | (simp only [List.length_cons, List.length_nil]; omega)) ?_
    refine qldB rfl hb (fun _ S => S) T5 rfl rfl rfl (fun _ => by omega) ?_
    intro q16 hq16 hbq16
    try simp only [Int.toNat_natCast, Nat.mul_one, Int.reduceToNat] at hq16
    refine qcvi rfl rfl rfl rfl Tryd.underlying5 Tryd.underlying3 (fun _ => w64 (by omega)) ?_
    refine qshl rfl rfl rfl rfl rfl rfl (fun _ => by decide) (fun _ => sl8 (by omega)) ?_
    refine qfld (o' := 1) rfl fo93_1 rfl rfl rfl rfl ?_
    refine qld1 rfl T26 (fun _ S => S) (i := 0) rfl rfl rfl rfl rfl ?_
    refine qixa rfl rfl hb.2 e26 rfl rfl rfl rfl (fun _ => by first | omega | (simp only [List.length_cons, List.length_nil]; omega)) ?_
    refine qldB rfl hb (fun _ S => S) T5 rfl rfl rfl (fun _ => by omega) ?_
    intro q22 hq22 hbq22
    try simp only [Int.toNat_natCast, Nat.mul_one, Int.reduceToNat] at hq22
    refine qcvi rfl rfl rfl rfl Tryd.underlying5 Tryd.underlying3 (fun _ => w64 (by omega)) ?_
    refine qbor rfl rfl rfl rfl rfl rfl (fun _ => or8 (by omega) (by omega)) ?_
    refine qasg rfl rfl rfl rfl ?_
    refine qasg rfl rfl rfl rfl ?_
    refine Qo.nil (fun w2 S => ?_)
    refine Nrm.code ?_
    refine Run.ret ?_
    refine Rt.two rfl rfl rfl ?_
    have ht : toldB o = true := by unfold toldB; simp; omega
    have e1 : q16 = o.data.getD 0 0 := hq16
    have e2 : q22 = o.data.getD 1 0 := hq22
    exact ⟨by unfold toldN; rw [ht, e1, e2]; rfl, S.bl⟩
set_option maxHeartbeats 1000000 in
theorem c137 (o : Opt) (v : Value) (w : World) (hb : BS [] w v o.data) :
  CallsD Tryd.prog 137 #[.agg #[i64 o.kind, v]] w (.bool (toldB o)) := by
 refine enter Tryd.func137 rfl Tryd.ntmps137 (l := [(0, [], _)]) rfl rfl ?_
 have S := St.refl [] w
 refine Run.seq ?_
 refine Run.region ?_
 refine boxA rfl S rfl ?_
 intro b1 w1 hb1 S B_
 refine asg1 rfl rfl ?_
 refine Ro.nil ?_
 refine Nrm.code ?_
 refine Run.seq ?_
 refine Run.region ?_
 refine fld (o' := 0) rfl fo93_0 rfl rfl rfl rfl ?_
 refine ld1 rfl T3 S (i := 0) rfl rfl rfl rfl rfl ?_
 refine eql1 rfl rfl rfl ?_
 refine mv1 rfl rfl ?_
 refine fld (o' := 1) rfl fo93_1 rfl rfl rfl rfl ?_
 refine ld1 rfl T26 S (i := 0) rfl rfl rfl rfl rfl ?_
 refine lenS rfl hb.2 Tryd.underlying26 rfl rfl rfl ?_
 refine eql rfl rfl rfl rfl rfl rfl ?_
 refine pkA rfl rfl rfl rfl rfl rfl ?_
 refine asg1 rfl rfl ?_
 refine Ro.nil ?_
 refine Nrm.code ?_
 refine Run.ret ?_
 refine Rt.one rfl rfl ?_
 exact ⟨by unfold toldB; simp only [Value.bool.injEq]; congr 1; simp only [decide_eq_decide]; omega, S.bl⟩
end Go.Proofs.YtkahmepenjhcpaaDoor.W
/- Plain facts on headers: what the fields of a datagram's first twelve bytes are. No program walked here; no statement of the seat is proved here. -/
namespace Go.Proofs.YtkahmepenjhcpaaDoor.W
set_option linter.unusedVariables false
set_option linter.unusedSimpArgs false
def totI (b : List Int) : Int := b.getD 2 0 * 256 + b.getD 3 0
def offW (b : List Int) : Int := b.getD 6 0 % 32 * 256 + b.getD 7 0
theorem fv16 {l : List Int} (j : Nat) (h : ∀ k, 0 ≤ l.getD k 0 ∧ l.getD k 0 < 256) : fv l (8 * j) 16 = l.getD j 0 * 256 + l.getD (j + 1) 0 := by
  have e := fv_add l (8 * j) 8 8
  rw [show (8 + 8 : Nat) = 16 from rfl, fv8 j (h j), show 8 * j + 8 = 8 * (j + 1) from by omega, fv8 (j + 1) (h (j + 1))] at e
  rw [e]; rfl
theorem fields_ip4 {b : List Int} (h : ∀ k, 0 ≤ b.getD k 0 ∧ b.getD k 0 < 256) : fieldsS b 0 [4, 4, 8, 16, 16, 1, 1, 1, 13, 8, 8, 16] =
    [b.getD 0 0 / 16, b.getD 0 0 % 16, b.getD 1 0, totI b, b.getD 4 0 * 256 + b.getD 5 0, b.getD 6 0 / 128, b.getD 6 0 / 64 % 2, b.getD 6 0 / 32 % 2, offW b, b.getD 8 0, b.getD 9 0, b.getD 10 0 * 256 + b.getD 11 0] := by
  have e0 := fvp (l := b) 0 0 4 (h 0) (by omega)
  have e1 := fvp (l := b) 0 4 4 (h 0) (by omega)
  have e2 := fv8 (l := b) 1 (h 1)
  have e3 := fv16 (l := b) 2 h
  have e4 := fv16 (l := b) 4 h
  have e5 := fvp (l := b) 6 0 1 (h 6) (by omega)
  have e6 := fvp (l := b) 6 1 1 (h 6) (by omega)
  have e7 := fvp (l := b) 6 2 1 (h 6) (by omega)
  have e8 := fv_add b 51 5 8
  have e8a := fvp (l := b) 6 3 5 (h 6) (by omega)
  have e8b := fv8 (l := b) 7 (h 7)
  have e9 := fv8 (l := b) 8 (h 8)
  have e10 := fv8 (l := b) 9 (h 9)
  have e11 := fv16 (l := b) 10 h
  have g0 := h 0
  have g6 := h 6
  simp only [Nat.mul_zero, Nat.add_zero, Nat.zero_add, Nat.reduceMul, Nat.reduceAdd, Nat.reduceSub, Int.reducePow] at e0 e1 e2 e3 e4 e5 e6 e7 e8 e8a e8b e9 e10 e11
  simp only [fieldsS, Int.reduceToNat, Int.toNat_one, Nat.zero_add, Nat.reduceAdd, e0, e1, e2, e3, e4, e5, e6, e7, e8, e8a, e8b, e9, e10, e11, Int.ediv_one, List.cons.injEq, and_true, totI, offW]
  refine ⟨?_, trivial, trivial, trivial, trivial, ?_⟩ <;> omega
end Go.Proofs.YtkahmepenjhcpaaDoor.W
/- Contracts: UDP read, checked, compared. No statement of the seat is proved here. -/
namespace Go.Proofs.YtkahmepenjhcpaaDoor.W
open Go
set_option linter.unusedSimpArgs false
set_option linter.unusedVariables false
abbrev W16 : List Int := [16, 16, 16, 16]
def lenU (b : List Int) : Nat := (wd2 b 4).toNat
theorem wd2_bd {b : List Int} (h : byt b) (i : Nat) : 0 ≤ wd2 b i ∧ wd2 b i < 65536 := by
  have h1 := byt_getD h i
  have h2 := byt_getD h (i + 1)
  unfold wd2; omega
theorem fields_udp {b : List Int} (h : byt b) : fieldsS b 0 W16 = [wd2 b 0, wd2 b 2, (lenU b : Int), wd2 b 6] := by
  have hB := byt_getD h
  have e4 : wd2 b 4 = (lenU b : Int) := by have := wd2_bd h 4; unfold lenU; omega
  rw [← e4]
  simp only [fieldsS]
  have f0 := fv16 0 hB
  have f2 := fv16 2 hB
  have f4 := fv16 4 hB
  have f6 := fv16 6 hB
  simp only [wd2]
  rw [show (0 : Nat) = 8 * 0 from rfl, show (16 : Int).toNat = 16 from rfl]
  simp only [Nat.mul_zero, Nat.zero_add, List.cons.injEq, and_true]
  exact ⟨f0, f2, f4, f6⟩
def udpE (s d : IP) (b : List Int) : Int :=
  if 65535 < b.length then 2 else if fitE s d ≠ 0 then fitE s d else if b.length < 8 then 91 else if lenU b < 8 ∨ b.length < lenU b then 92
  else if wd2 b 6 = 0 then (if s.v = 6 then 93 else 0) else if psum s d 17 (b.take (lenU b)) ≠ 65535 then 93 else 0
def udpG (b : List Int) : Udp := ⟨wd2 b 0, wd2 b 2, decide (wd2 b 6 = 0), (b.drop 8).take (lenU b - 8)⟩
def u00 : Udp := ⟨0, 0, false, []⟩
def udpU (s d : IP) (b : List Int) : Udp := if udpE s d b = 0 then udpG b else u00
theorem udp_err {s d : IP} {b : List Int} {e : Int} (he : udpE s d b = e) (h0 : e ≠ 0) : udpU s d b = u00 := by unfold udpU; rw [if_neg (by omega)]
theorem udpE_bd (s d : IP) (b : List Int) : 0 ≤ udpE s d b ∧ udpE s d b ≤ 93 := by
  have := fitE_or s d
  unfold udpE; (repeat' split) <;> omega
def sameU (a b : Udp) : Bool := ((decide (a.sport = b.sport) && decide (a.dport = b.dport)) && (a.nosum == b.nosum)) && decide (a.data = b.data)
theorem sameU_refl (a : Udp) : sameU a a = true := by simp [sameU]
def badU (v : Int) (u : Udp) : Bool := (outN u.sport 65535 || outN u.dport 65535) || (u.nosum && decide (v = 6))
def chkU (v : Int) (u : Udp) : Int := if v ≠ 4 ∧ v ≠ 6 then 20 else if badU v u = true then 98 else if 65527 < u.data.length then 2 else 0
theorem chkU_bd (v : Int) (u : Udp) : 0 ≤ chkU v u ∧ chkU v u ≤ 98 := by unfold chkU; (repeat' split) <;> omega
def putUE (s d : IP) (u : Udp) : Int := if fitE s d = 0 then chkU s.v u else fitE s d
theorem putUE_bd (s d : IP) (u : Udp) : 0 ≤ putUE s d u ∧ putUE s d u ≤ 98 := by
  have := fitE_or s d
  have := chkU_bd s.v u
  unfold putUE; split <;> omega
theorem chkU_zero {v : Int} {u : Udp} (h : chkU v u = 0) : (v = 4 ∨ v = 6) ∧ 0 ≤ u.sport ∧ u.sport ≤ 65535 ∧ 0 ≤ u.dport ∧ u.dport ≤ 65535 ∧ u.data.length ≤ 65527 ∧ (u.nosum = true → v = 4) := by
  unfold chkU at h
  by_cases h1 : v ≠ 4 ∧ v ≠ 6
  · rw [if_pos h1] at h; omega
  rw [if_neg h1] at h
  by_cases h2 : badU v u = true
  · rw [if_pos h2] at h; omega
  rw [if_neg h2] at h
  by_cases h3 : 65527 < u.data.length
  · rw [if_pos h3] at h; omega
  simp only [badU, outN, Bool.or_eq_true, Bool.and_eq_true, decide_eq_true_eq, not_or, not_and] at h2
  refine ⟨by omega, by omega, by omega, by omega, by omega, by omega, fun hn => ?_⟩
  have := h2.2 hn
  omega
theorem putUE_zero {s d : IP} {u : Udp} (h : putUE s d u = 0) : fitE s d = 0 ∧ chkU s.v u = 0 := by
  have := fitE_or s d
  unfold putUE at h
  by_cases h1 : fitE s d = 0
  · rw [if_pos h1] at h; exact ⟨h1, h⟩
  · rw [if_neg h1] at h; omega
def udp8 (u : Udp) : List Int := [u.sport / 256, u.sport % 256, u.dport / 256, u.dport % 256, (8 + (u.data.length : Int)) / 256, (8 + (u.data.length : Int)) % 256, 0, 0]
def udpB0 (u : Udp) : List Int := udp8 u ++ u.data
def udpC (s d : IP) (u : Udp) : Int := if 65535 - psum s d 17 (udpB0 u) = 0 then 65535 else 65535 - psum s d 17 (udpB0 u)
def putUB (s d : IP) (u : Udp) : List Int := if u.nosum = true then udpB0 u else ((udpB0 u).set 6 (udpC s d u / 256)).set 7 (udpC s d u % 256)
def putUL (s d : IP) (u : Udp) : List Int := if putUE s d u = 0 then putUB s d u else []
theorem udpB0_len (u : Udp) : (udpB0 u).length = 8 + u.data.length := by simp [udpB0, udp8]; omega
theorem udp8_byt {v : Int} {u : Udp} (h : chkU v u = 0) : byt (udp8 u) := by
  have := chkU_zero h
  intro x hx
  simp only [udp8, List.mem_cons, List.not_mem_nil, or_false] at hx
  rcases hx with rfl | rfl | rfl | rfl | rfl | rfl | rfl | rfl <;> omega
theorem udpB0_byt {v : Int} {u : Udp} (h : chkU v u = 0) (hd : byt u.data) : byt (udpB0 u) := byt_app (udp8_byt h) hd
theorem udpC_bd {s d : IP} {u : Udp} (hs : s.ok) (ht : d.ok) (hb : byt (udpB0 u)) : 0 ≤ udpC s d u ∧ udpC s d u ≤ 65535 := by
  have := psum_bd (p := 17) hs ht hb
  unfold udpC; split <;> omega
theorem putUL_byt {s d : IP} {u : Udp} (hs : s.ok) (ht : d.ok) (hd : byt u.data) : byt (putUL s d u) := by
  unfold putUL
  split
  · rename_i h
    have hb := udpB0_byt (putUE_zero h).2 hd
    have hc := udpC_bd hs ht hb
    unfold putUB
    split
    · exact hb
    · exact byt_set (byt_set hb _ (by omega)) _ (by omega)
  · exact byt_nil
theorem udp8_bits {v : Int} {u : Udp} (h : chkU v u = 0) : bitsB (udp8 u) = strm W16 [u.sport, u.dport, 8 + (u.data.length : Int), 0] := by
  have := chkU_zero h
  have e : udp8 u = [u.sport / 256, u.sport % 256] ++ [u.dport / 256, u.dport % 256] ++ [(8 + (u.data.length : Int)) / 256, (8 + (u.data.length : Int)) % 256] ++ [(0 : Int) / 256, (0 : Int) % 256] := rfl
  rw [e, bitsB_app, bitsB_app, bitsB_app, ← bitsOf_16 (by omega), ← bitsOf_16 (by omega), ← bitsOf_16 (by omega), ← bitsOf_16 (by omega)]
  simp only [strm, List.append_nil, List.append_assoc]
  rfl
theorem udp8_pack {v : Int} {u : Udp} (h : chkU v u = 0) : ∀ i, i < W16.length → 0 ≤ [u.sport, u.dport, 8 + (u.data.length : Int), 0].getD i 0 ∧ [u.sport, u.dport, 8 + (u.data.length : Int), 0].getD i 0 < 2 ^ (W16.getD i 0).toNat := by
  have := chkU_zero h
  intro i hi
  rcases i with _ | _ | _ | _ | i
  all_goals first
    | (simp only [W16, List.getD_cons_zero, List.getD_cons_succ, Int.reducePow, Int.reduceToNat]; omega)
    | (exfalso; simp at hi; omega)
theorem udp8_be {v : Int} {u : Udp} (h : chkU v u = 0) : (([] ++ beN u.sport 2 ++ beN u.dport 2 ++ beN (8 + (u.data.length : Int)) 2 ++ beN 0 2) ++ u.data) = udpB0 u := by
  have := chkU_zero h
  rw [beN_2, beN_2, beN_2, beN_2]
  simp only [udpB0, udp8, List.nil_append, List.cons_append]
  rw [show u.sport / 256 % 256 = u.sport / 256 from by omega, show u.dport / 256 % 256 = u.dport / 256 from by omega, show (8 + (u.data.length : Int)) / 256 % 256 = (8 + (u.data.length : Int)) / 256 from by omega]
  rfl
set_option maxHeartbeats 1000000 in
theorem c57 (s d : IP) (v : Value) (b : List Int) (w : World) (hs : s.ok) (ht : d.ok) (hb : BS [] w v b) (hg1 : GV [] w 1 163 (W16.map i64)) :
    CallsV Tryd.prog 57 #[.agg (encIP s).toArray, .agg (encIP d).toArray, v] w (fun r w' => ∃ dv, r = .tuple #[.agg (encUdp (udpU s d b) dv).toArray, .int .i64 (udpE s d b)] ∧ Bl w w' ∧ ∀ N w1, BS N w1 v b → BS N w1 dv (udpU s d b).data) := by
  refine enter Tryd.func57 rfl Tryd.ntmps57 (l := [(0, [], _), (1, [], _), (2, [], _)]) rfl rfl ?_
  have S := St.refl [] w
  have hB := byt_getD hb.1
  have hfl := fields_udp hb.1
  have hLU : wd2 b 4 = (lenU b : Int) := by have := wd2_bd hb.1 4; unfold lenU; omega
  have hLb := wd2_bd hb.1 4
  have hfo := fitE_or s d
  refine Run.seq ?_
  refine Run.region ?_
  refine boxA rfl S rfl ?_
  intro b3 w1 hb3 S B_
  refine boxA rfl S rfl ?_
  intro b4 w2 hb4 S B_
  refine alc T73 S rfl ?_
  intro b6 w3 hb6 S B_
  refine asg1 rfl rfl ?_
  refine Ro.nil ?_
  refine Nrm.code ?_
  refine Run.seq ?_
  refine Run.seq ?_
  refine Run.region ?_
  refine mv1 rfl rfl ?_
  refine lenS rfl hb.2 Tryd.underlying26 rfl rfl rfl ?_
  refine gtr1 rfl rfl rfl ?_
  refine Ro.nil ?_
  refine Nrm.code ?_
  refine Run.cond rfl (fun hc1 => ?_) (fun hc1 => ?_)
  ·
    try simp only [Bool.or_eq_true, Bool.and_eq_true, Bool.or_eq_false_iff, Bool.and_eq_false_iff, decide_eq_true_eq, decide_eq_false_iff_not, Bool.not_eq_true', Bool.not_eq_false', Bool.not_eq_true, Bool.not_eq_false] at hc1
    refine Run.seq ?_
    refine Run.region ?_
    refine bld B73 (qs := []) trivial rfl rfl rfl ?_
    refine stW rfl rfl T73 rfl rfl (by simp [Value.oneCell']) S (i := 0) rfl rfl ?_
    intro w4 S
    refine asg1 rfl rfl ?_
    refine Ro.nil ?_
    refine Nrm.code ?_
    refine Run.ret ?_
    refine Rt.cell2 rfl rfl rfl T73 S (i := 0) rfl rfl ?_
    have he : udpE s d b = 2 := by
      unfold udpE
      rw [if_pos (by omega)]
    exact ⟨.slice none 0 0, by rw [udp_err he (by omega), he]; rfl, S.bl, fun _ _ _ => by rw [udp_err he (by omega)]; exact BS.nil _ _⟩
  ·
    try simp only [Bool.or_eq_true, Bool.and_eq_true, Bool.or_eq_false_iff, Bool.and_eq_false_iff, decide_eq_true_eq, decide_eq_false_iff_not, Bool.not_eq_true', Bool.not_eq_false', Bool.not_eq_true, Bool.not_eq_false] at hc1
    refine Run.skip ?_
    refine Nrm.code ?_
    refine Run.seq ?_
    refine Run.seq ?_
    refine Run.region ?_
    refine ldW rfl T24 S (i := 2) rfl rfl rfl rfl rfl ?_
    refine ldW rfl T24 S (i := 1) rfl rfl rfl rfl rfl ?_
    refine calg (vs := [_, _]) rfl ⟨⟨_, _, rfl, rfl⟩, ⟨_, _, rfl, rfl⟩, trivial⟩ k123 rfl (fun hG => c123 s d _ hs ht) ?_
    intro w4 B_; have S := S.call B_
    refine asg1 rfl rfl ?_
    refine Ro.nil ?_
    refine Nrm.code ?_
    refine Run.seq ?_
    refine Run.region ?_
    refine mv1 rfl rfl ?_
    refine neq1 rfl rfl rfl ?_
    refine Ro.nil ?_
    refine Nrm.code ?_
    refine Run.cond rfl (fun hc4 => ?_) (fun hc4 => ?_)
    ·
      try simp only [Bool.or_eq_true, Bool.and_eq_true, Bool.or_eq_false_iff, Bool.and_eq_false_iff, decide_eq_true_eq, decide_eq_false_iff_not, Bool.not_eq_true', Bool.not_eq_false', Bool.not_eq_true, Bool.not_eq_false] at hc4
      refine Run.seq ?_
      refine Run.region ?_
      refine bld B73 (qs := []) trivial rfl rfl rfl ?_
      refine mv1 rfl rfl ?_
      refine stW rfl rfl T73 rfl rfl (by simp [Value.oneCell']) S (i := 0) rfl rfl ?_
      intro w5 S
      refine asg1 rfl rfl ?_
      refine Ro.nil ?_
      refine Nrm.code ?_
      refine Run.ret ?_
      refine Rt.cell2 rfl rfl rfl T73 S (i := 0) rfl rfl ?_
      have he : udpE s d b = fitE s d := by
        unfold udpE
        rw [if_neg (by omega), if_pos (by omega)]
      exact ⟨.slice none 0 0, by rw [udp_err he (by omega), he]; rfl, S.bl, fun _ _ _ => by rw [udp_err he (by omega)]; exact BS.nil _ _⟩
    ·
      try simp only [Bool.or_eq_true, Bool.and_eq_true, Bool.or_eq_false_iff, Bool.and_eq_false_iff, decide_eq_true_eq, decide_eq_false_iff_not, Bool.not_eq_true', Bool.not_eq_false', Bool.not_eq_true, Bool.not_eq_false] at hc4
      refine Run.skip ?_
      refine Nrm.code ?_
      refine Run.seq ?_
      refine Run.seq ?_
      refine Run.region ?_
      refine mv1 rfl rfl ?_
      refine lenS rfl hb.2 Tryd.underlying26 rfl rfl rfl ?_
      refine lss1 rfl rfl rfl ?_
      refine Ro.nil ?_
      refine Nrm.code ?_
      refine Run.cond rfl (fun hc6 => ?_) (fun hc6 => ?_)
      ·
        try simp only [Bool.or_eq_true, Bool.and_eq_true, Bool.or_eq_false_iff, Bool.and_eq_false_iff, decide_eq_true_eq, decide_eq_false_iff_not, Bool.not_eq_true', Bool.not_eq_false', Bool.not_eq_true, Bool.not_eq_false] at hc6
        refine Run.seq ?_
        refine Run.region ?_
        refine bld B73 (qs := []) trivial rfl rfl rfl ?_
        refine stW rfl rfl T73 rfl rfl (by simp [Value.oneCell']) S (i := 0) rfl rfl ?_
        intro w5 S
        refine asg1 rfl rfl ?_
        refine Ro.nil ?_
        refine Nrm.code ?_
        refine Run.ret ?_
        refine Rt.cell2 rfl rfl rfl T73 S (i := 0) rfl rfl ?_
        have he : udpE s d b = 91 := by
          unfold udpE
          rw [if_neg (by omega), if_neg (by omega), if_pos (by omega)]
        exact ⟨.slice none 0 0, by rw [udp_err he (by omega), he]; rfl, S.bl, fun _ _ _ => by rw [udp_err he (by omega)]; exact BS.nil _ _⟩
      ·
        try simp only [Bool.or_eq_true, Bool.and_eq_true, Bool.or_eq_false_iff, Bool.and_eq_false_iff, decide_eq_true_eq, decide_eq_false_iff_not, Bool.not_eq_true', Bool.not_eq_false', Bool.not_eq_true, Bool.not_eq_false] at hc6
        refine Run.skip ?_
        refine Nrm.code ?_
        refine Run.seq ?_
        refine Run.region ?_
        refine ldG hg1 S T163 rfl rfl ?_
        refine alc T163 S rfl ?_
        intro b9 w5 hb9 S B_
        refine stW rfl rfl T163 rfl rfl (by simp [Value.oneCell']) S (i := 0) rfl rfl ?_
        intro w6 S
        refine Ro.nil ?_
        refine Nrm.code ?_
        refine Run.seq ?_
        refine Run.region ?_
        refine mv1 rfl rfl ?_
        refine slAT rfl Tryd.underlying163 T3 rfl rfl rfl (i2 := none) trivial rfl (by decide) (by decide) ?_
        refine call (vs := [_, _, _]) ⟨⟨_, _, rfl, rfl⟩, ⟨_, _, rfl, rfl⟩, ⟨_, _, rfl, rfl⟩, trivial⟩ k101 rfl (c101 _ _ _ W16 _ (hb.now S) (S.varSl (i := 0) (m := 4) (sz := 1) rfl rfl rfl (by decide)) (by decide) (by decide) (by decide) (by rw [show W16.sum / 8 = 8 from by decide]; omega) (by omega)) ?_
        rintro _ w7 ⟨u10, rfl, hF⟩
        rw [hfl] at hF
        have S := S.fi hF
        refine mv1 rfl rfl ?_
        refine extr1 rfl rfl rfl ?_
        refine extr1 rfl rfl rfl ?_
        refine extr1 rfl rfl rfl ?_
        refine asg1 rfl rfl ?_
        refine asg1 rfl rfl ?_
        refine asg1 rfl rfl ?_
        refine Ro.nil ?_
        refine Nrm.code ?_
        refine Run.seq ?_
        refine Run.draw (by kernel_rfl) (by kernel_rfl) S ?_
        refine qmv rfl rfl rfl rfl ?_
        refine qixa rfl rfl (S.slI (i := 0) rfl) e132 rfl rfl rfl rfl (fun _ => by first | omega | (simp only [List.length_cons, List.length_nil]; omega)) ?_
        refine qldR rfl (fun _ S => S) (i := 0) rfl T3 rfl rfl rfl (fun _ => rfl) ?_
        refine qmv rfl rfl rfl rfl ?_
        refine qixa rfl rfl (S.slI (i := 0) rfl) e132 rfl rfl rfl rfl (fun _ => by first | omega | (simp only [List.length_cons, List.length_nil]; omega)) ?_
        refine qldR rfl (fun _ S => S) (i := 0) rfl T3 rfl rfl rfl (fun _ => rfl) ?_
        refine qeql rfl rfl rfl rfl rfl rfl ?_
        refine qasg rfl rfl rfl rfl ?_
        refine qasg rfl rfl rfl rfl ?_
        refine Qo.nil (fun w8 S => ?_)
        refine Nrm.code ?_
        refine Run.seq ?_
        refine Run.block ?_
        refine Run.seq ?_
        refine Run.region ?_
        refine mv1 rfl rfl ?_
        refine lss1 rfl rfl rfl ?_
        refine mv1 rfl rfl ?_
        refine mv rfl rfl rfl rfl ?_
        refine mv rfl rfl rfl rfl ?_
        refine lenS rfl hb.2 Tryd.underlying26 rfl rfl rfl ?_
        refine gtr rfl rfl rfl rfl rfl rfl ?_
        refine pkO rfl rfl rfl rfl rfl rfl ?_
        refine asg1 rfl rfl ?_
        refine Ro.nil ?_
        refine Nrm.code ?_
        refine Run.cond rfl (fun hc11 => ?_) (fun hc11 => ?_)
        ·
          try simp only [Bool.or_eq_true, Bool.and_eq_true, Bool.or_eq_false_iff, Bool.and_eq_false_iff, decide_eq_true_eq, decide_eq_false_iff_not, Bool.not_eq_true', Bool.not_eq_false', Bool.not_eq_true, Bool.not_eq_false] at hc11
          refine Run.seq ?_
          refine Run.region ?_
          refine bld B73 (qs := []) trivial rfl rfl rfl ?_
          refine stW rfl rfl T73 rfl rfl (by simp [Value.oneCell']) S (i := 2) rfl rfl ?_
          intro w9 S
          refine asg1 rfl rfl ?_
          refine Ro.nil ?_
          refine Nrm.code ?_
          refine Run.ret ?_
          refine Rt.cell2 rfl rfl rfl T73 S (i := 2) rfl rfl ?_
          have he : udpE s d b = 92 := by
            unfold udpE
            rw [if_neg (by omega), if_neg (by omega), if_neg (by omega), if_pos (by omega)]
          exact ⟨.slice none 0 0, by rw [udp_err he (by omega), he]; rfl, S.bl, fun _ _ _ => by rw [udp_err he (by omega)]; exact BS.nil _ _⟩
        ·
          try simp only [Bool.or_eq_true, Bool.and_eq_true, Bool.or_eq_false_iff, Bool.and_eq_false_iff, decide_eq_true_eq, decide_eq_false_iff_not, Bool.not_eq_true', Bool.not_eq_false', Bool.not_eq_true, Bool.not_eq_false] at hc11
          refine Run.seq ?_
          refine Run.seq ?_
          refine Run.region ?_
          refine mv1 rfl rfl ?_
          refine mv1 rfl rfl ?_
          refine fld (o' := 0) rfl fo24_0 rfl rfl rfl rfl ?_
          refine ld1 rfl T3 S (i := 4) rfl rfl rfl rfl rfl ?_
          refine eql rfl rfl rfl rfl rfl rfl ?_
          refine pkA rfl rfl rfl rfl rfl rfl ?_
          refine asg1 rfl rfl ?_
          refine Ro.nil ?_
          refine Nrm.code ?_
          refine Run.cond rfl (fun hc13 => ?_) (fun hc13 => ?_)
          ·
            try simp only [Bool.or_eq_true, Bool.and_eq_true, Bool.or_eq_false_iff, Bool.and_eq_false_iff, decide_eq_true_eq, decide_eq_false_iff_not, Bool.not_eq_true', Bool.not_eq_false', Bool.not_eq_true, Bool.not_eq_false] at hc13
            have hA13 := hc13
            refine Run.skip ?_
            refine Nrm.code ?_
            refine Run.cond rfl (fun hc13 => ?_) (fun hc13 => ?_)
            ·
              try simp only [Bool.or_eq_true, Bool.and_eq_true, Bool.or_eq_false_iff, Bool.and_eq_false_iff, decide_eq_true_eq, decide_eq_false_iff_not, Bool.not_eq_true', Bool.not_eq_false', Bool.not_eq_true, Bool.not_eq_false] at hc13
              have hA13 := hc13
              refine Run.seq ?_
              refine Run.region ?_
              refine bld B73 (qs := []) trivial rfl rfl rfl ?_
              refine stW rfl rfl T73 rfl rfl (by simp [Value.oneCell']) S (i := 2) rfl rfl ?_
              intro w9 S
              refine asg1 rfl rfl ?_
              refine Ro.nil ?_
              refine Nrm.code ?_
              refine Run.ret ?_
              refine Rt.cell2 rfl rfl rfl T73 S (i := 2) rfl rfl ?_
              have he : udpE s d b = 93 := by
                unfold udpE
                rw [if_neg (by omega), if_neg (by omega), if_neg (by omega), if_neg (by omega), if_pos (by omega), if_pos (by omega)]
              exact ⟨.slice none 0 0, by rw [udp_err he (by omega), he]; rfl, S.bl, fun _ _ _ => by rw [udp_err he (by omega)]; exact BS.nil _ _⟩
            ·
              try simp only [Bool.or_eq_true, Bool.and_eq_true, Bool.or_eq_false_iff, Bool.and_eq_false_iff, decide_eq_true_eq, decide_eq_false_iff_not, Bool.not_eq_true', Bool.not_eq_false', Bool.not_eq_true, Bool.not_eq_false] at hc13
              exfalso; omega
          ·
            try simp only [Bool.or_eq_true, Bool.and_eq_true, Bool.or_eq_false_iff, Bool.and_eq_false_iff, decide_eq_true_eq, decide_eq_false_iff_not, Bool.not_eq_true', Bool.not_eq_false', Bool.not_eq_true, Bool.not_eq_false] at hc13
            refine Run.held (by kernel_rfl) S [true, true, true, true, true] rfl rfl rfl ?_
            intro w9 BD S SC
            refine Ho.take (i := 0) SC Pp.body rfl (by kernel_rfl) (by kernel_rfl) (by kernel_rfl) rfl rfl ?_
            refine qmv rfl rfl rfl rfl ?_
            refine Ho.back ?_
            refine Ho.take (i := 1) SC Pp.body rfl (by kernel_rfl) (by kernel_rfl) (by kernel_rfl) rfl rfl ?_
            refine qnt rfl rfl rfl rfl ?_
            refine Ho.back ?_
            refine Ho.take (i := 2) SC Pp.body rfl (by kernel_rfl) (by kernel_rfl) (by kernel_rfl) rfl rfl ?_
            refine qmv rfl rfl rfl rfl ?_
            refine Ho.back ?_
            refine Ho.take (i := 3) SC Pp.body rfl (by kernel_rfl) (by kernel_rfl) (by kernel_rfl) rfl rfl ?_
            refine qldW rfl T24 (fun _ S => S) (i := 4) rfl rfl rfl rfl rfl ?_
            refine Ho.back ?_
            refine Ho.take (i := 4) SC Pp.body rfl (by kernel_rfl) (by kernel_rfl) (by kernel_rfl) rfl rfl ?_
            refine qldW rfl T24 (fun _ S => S) (i := 3) rfl rfl rfl rfl rfl ?_
            refine Ho.back ?_
            refine Ho.take (i := 5) SC Pp.body rfl (by kernel_rfl) (by kernel_rfl) (by kernel_rfl) rfl rfl ?_
            refine qmv rfl rfl rfl rfl ?_
            refine Ho.back ?_
            refine Ho.take (i := 6) SC Pp.body rfl (by kernel_rfl) (by kernel_rfl) (by kernel_rfl) rfl rfl ?_
            refine qmv rfl rfl rfl rfl ?_
            refine Ho.back ?_
            refine Ho.take (i := 7) SC Pp.body rfl (by kernel_rfl) (by kernel_rfl) (by kernel_rfl) rfl rfl ?_
            refine qslC (lo := 0) (hi := lenU b) (mx := capV v) rfl hb e26 rfl rfl rfl (i1 := none) (i2 := some (lenU b)) (i3 := none) trivial ⟨_, _, _, rfl, rfl⟩ trivial rfl rfl rfl (fun h => by first | rfl | cases h) (fun hG => by (try simp [allT] at hG); have hcap := hb.cap; omega) ?_
            refine Ho.back ?_
            refine Ho.one (i := 8) (by kernel_rfl) rfl rfl ?_
            refine calg (vs := [_, _, _, _]) rfl ⟨⟨_, _, rfl, rfl⟩, ⟨_, _, rfl, rfl⟩, ⟨_, _, rfl, rfl⟩, ⟨_, _, rfl, rfl⟩, trivial⟩ k124 rfl (fun hG => c124 s d 17 _ (b.take (lenU b)) _ hs ht ((hb.cut (lo := 0) (hi := lenU b) (mx := capV v) (by have := hb.cap; omega)).now S) (by rw [List.length_take]; omega) (fit_pse (by omega) (by decide) (by rw [List.length_take]; omega))) ?_
            intro w10 B_; have S := S.call B_
            have SC := S.pick [true, true, true, true, true] rfl
            refine Ho.on SC ?_
            refine Ho.take (i := 9) SC Pp.body rfl (by kernel_rfl) (by kernel_rfl) (by kernel_rfl) rfl rfl ?_
            refine qnt rfl rfl rfl rfl ?_
            refine Ho.back ?_
            refine Ho.take (i := 10) SC Pp.body rfl (by kernel_rfl) (by kernel_rfl) (by kernel_rfl) rfl rfl ?_
            refine qpkA rfl rfl rfl rfl rfl rfl ?_
            refine Ho.back ?_
            refine Ho.take (i := 11) SC Pp.body rfl (by kernel_rfl) (by kernel_rfl) (by kernel_rfl) rfl rfl ?_
            refine qasg rfl rfl rfl rfl ?_
            refine Ho.back ?_
            refine Ho.done (by kernel_rfl) ?_
            refine Nrm.code ?_
            refine Run.cond rfl (fun hc14 => ?_) (fun hc14 => ?_)
            ·
              try simp only [Bool.or_eq_true, Bool.and_eq_true, Bool.or_eq_false_iff, Bool.and_eq_false_iff, decide_eq_true_eq, decide_eq_false_iff_not, Bool.not_eq_true', Bool.not_eq_false', Bool.not_eq_true, Bool.not_eq_false] at hc14
              have hz6 : ¬ wd2 b 6 = 0 := by simpa using hc14.1
              have hgd : psum s d 17 (b.take (lenU b)) ≠ 65535 := by simpa using hc14.2
              refine Run.seq ?_
              refine Run.region ?_
              refine bld B73 (qs := []) trivial rfl rfl rfl ?_
              refine stW rfl rfl T73 rfl rfl (by simp [Value.oneCell']) S (i := 2) rfl rfl ?_
              intro w11 S
              refine asg1 rfl rfl ?_
              refine Ro.nil ?_
              refine Nrm.code ?_
              refine Run.ret ?_
              refine Rt.cell2 rfl rfl rfl T73 S (i := 2) rfl rfl ?_
              have he : udpE s d b = 93 := by
                unfold udpE
                rw [if_neg (by omega), if_neg (by omega), if_neg (by omega), if_neg (by omega), if_neg hz6, if_pos hgd]
              exact ⟨.slice none 0 0, by rw [udp_err he (by omega), he]; rfl, S.bl, fun _ _ _ => by rw [udp_err he (by omega)]; exact BS.nil _ _⟩
            ·
              try simp only [Bool.or_eq_true, Bool.and_eq_true, Bool.or_eq_false_iff, Bool.and_eq_false_iff, decide_eq_true_eq, decide_eq_false_iff_not, Bool.not_eq_true', Bool.not_eq_false', Bool.not_eq_true, Bool.not_eq_false] at hc14
              refine Run.skip ?_
              refine Nrm.blk ?_
              refine Nrm.code ?_
              refine Run.seq ?_
              refine Run.heldB (by kernel_rfl) S [true, true, false, true, true] rfl rfl rfl ?_
              intro w11 BD S SC
              refine Hb.take (i := 0) SC (fun _ _ S B => S.call B) Pp.body rfl (by kernel_rfl) (by kernel_rfl) (by kernel_rfl) rfl rfl ?_
              refine qmv rfl rfl rfl rfl ?_
              refine Hb.back ?_
              refine Hb.take (i := 1) SC (fun _ _ S B => S.call B) Pp.body rfl (by kernel_rfl) (by kernel_rfl) (by kernel_rfl) rfl rfl ?_
              refine qixa rfl rfl (S.slI (i := 0) rfl) e132 rfl rfl rfl rfl (fun _ => by first | omega | (simp only [List.length_cons, List.length_nil]; omega)) ?_
              refine Hb.back ?_
              refine Hb.take (i := 2) SC (fun _ _ S B => S.call B) Pp.body rfl (by kernel_rfl) (by kernel_rfl) (by kernel_rfl) rfl rfl ?_
              refine qldR rfl (fun _ S => S) (i := 0) rfl T3 rfl rfl rfl (fun _ => rfl) ?_
              refine Hb.back ?_
              refine Hb.take (i := 3) SC (fun _ _ S B => S.call B) Pp.body rfl (by kernel_rfl) (by kernel_rfl) (by kernel_rfl) rfl rfl ?_
              refine qmv rfl rfl rfl rfl ?_
              refine Hb.back ?_
              refine Hb.take (i := 4) SC (fun _ _ S B => S.call B) Pp.body rfl (by kernel_rfl) (by kernel_rfl) (by kernel_rfl) rfl rfl ?_
              refine qixa rfl rfl (S.slI (i := 0) rfl) e132 rfl rfl rfl rfl (fun _ => by first | omega | (simp only [List.length_cons, List.length_nil]; omega)) ?_
              refine Hb.back ?_
              refine Hb.take (i := 5) SC (fun _ _ S B => S.call B) Pp.body rfl (by kernel_rfl) (by kernel_rfl) (by kernel_rfl) rfl rfl ?_
              refine qldR rfl (fun _ S => S) (i := 0) rfl T3 rfl rfl rfl (fun _ => rfl) ?_
              refine Hb.back ?_
              refine Hb.take (i := 6) SC (fun _ _ S B => S.call B) Pp.body rfl (by kernel_rfl) (by kernel_rfl) (by kernel_rfl) rfl rfl ?_
              refine qmv rfl rfl rfl rfl ?_
              refine Hb.back ?_
              refine Hb.take (i := 7) SC (fun _ _ S B => S.call B) Pp.body rfl (by kernel_rfl) (by kernel_rfl) (by kernel_rfl) rfl rfl ?_
              refine qmv rfl rfl rfl rfl ?_
              refine Hb.back ?_
              refine Hb.take (i := 8) SC (fun _ _ S B => S.call B) Pp.body rfl (by kernel_rfl) (by kernel_rfl) (by kernel_rfl) rfl rfl ?_
              refine qmv rfl rfl rfl rfl ?_
              refine Hb.back ?_
              refine Hb.take (i := 9) SC (fun _ _ S B => S.call B) Pp.body rfl (by kernel_rfl) (by kernel_rfl) (by kernel_rfl) rfl rfl ?_
              refine qmv rfl rfl rfl rfl ?_
              refine Hb.back ?_
              refine Hb.take (i := 10) SC (fun _ _ S B => S.call B) Pp.body rfl (by kernel_rfl) (by kernel_rfl) (by kernel_rfl) rfl rfl ?_
              have hv84 := hb.cut (lo := 8) (hi := lenU b) (mx := lenU b) (by have hcap := hb.cap; omega)
              refine qslC (lo := 8) (hi := lenU b) (mx := lenU b) rfl hb e26 rfl rfl rfl (i1 := some 8) (i2 := some (lenU b)) (i3 := some (lenU b)) ⟨_, _, _, rfl, rfl⟩ ⟨_, _, _, rfl, rfl⟩ ⟨_, _, _, rfl, rfl⟩ rfl rfl rfl (fun h => by first | rfl | cases h) (fun hG => by (try simp [allT] at hG); have hcap := hb.cap; omega) ?_
              refine Hb.back ?_
              refine Hb.take (i := 11) SC (fun _ _ S B => S.call B) Pp.body rfl (by kernel_rfl) (by kernel_rfl) (by kernel_rfl) rfl rfl ?_
              refine qbld B73 (qs := [(_, _), (_, _), (_, _), (_, _)]) ⟨⟨_, _, _, rfl, rfl, rfl, rfl, by first | (simp [Value.cells]; done) | simp [Value.cells, encIP]⟩, ⟨_, _, _, rfl, rfl, rfl, rfl, by first | (simp [Value.cells]; done) | simp [Value.cells, encIP]⟩, ⟨_, _, _, rfl, rfl, rfl, rfl, by first | (simp [Value.cells]; done) | simp [Value.cells, encIP]⟩, ⟨_, _, _, rfl, rfl, cells1 hv84.one, rfl, List.cons_ne_nil _ _⟩, trivial⟩ rfl rfl rfl ?_
              refine Hb.back ?_
              refine Hb.one (i := 12) (by kernel_rfl) rfl rfl ?_
              intro w12 BD; have S := S.call BD
              refine stW rfl rfl T73 rfl rfl (one_cons rfl (one_cons rfl (one_cons rfl (one_cons hv84.one one_nil)))) S (i := 2) rfl rfl ?_
              intro w13 S
              have SC := S.pick [true, true, false, true, true] rfl
              refine Hb.on SC ?_
              refine Hb.take (i := 13) SC (fun _ _ S B => S.call B) Pp.body rfl (by kernel_rfl) (by kernel_rfl) (by kernel_rfl) rfl rfl ?_
              refine qasg rfl rfl rfl rfl ?_
              refine Hb.back ?_
              refine Hb.done (by kernel_rfl) ?_
              intro w14 BD; have S := S.call BD
              refine Nrm.code ?_
              refine Run.ret ?_
              refine Rt.cell2 rfl rfl rfl T73 S (i := 2) rfl rfl ?_
              have hE : udpE s d b = 0 := by
                unfold udpE
                rw [if_neg (by omega), if_neg (by omega), if_neg (by omega), if_neg (by omega)]
                by_cases hz : wd2 b 6 = 0
                · rw [if_pos hz, if_neg (by omega)]
                · have hgd : psum s d 17 (b.take (lenU b)) = 65535 := by
                    rcases hc14 with h | h
                    · exact absurd (by simpa using h) hz
                    · simpa using h
                  rw [if_neg hz, if_neg (by omega)]
              exact ⟨cut v 8 (lenU b) (lenU b), by rw [udpU, if_pos hE, hE]; rfl, S.bl, fun N w1 h1 => by rw [udpU, if_pos hE]; exact h1.cut (by have := h1.cap; omega)⟩
set_option maxHeartbeats 1000000 in
theorem c76 (s d : IP) (v : Value) (b : List Int) (w : World) (hs : s.ok) (ht : d.ok) (hb : BS [] w v b) :
    CallsV Tryd.prog 76 #[.agg (encIP s).toArray, .agg (encIP d).toArray, v] w (fun r w' => ∃ dv, r = .tuple #[.agg (encUdp (udpU s d b) dv).toArray, .int .i64 (udpE s d b)] ∧ Bl w w' ∧ ∀ N, (∀ i ∈ N, i < w.heap.size) → BS N w' dv (udpU s d b).data) := by
  refine enter Tryd.func76 rfl Tryd.ntmps76 (l := [(0, [], _), (1, [], _), (2, [], _)]) rfl rfl ?_
  have S := St.refl [] w
  have hB := byt_getD hb.1
  have hfl := fields_udp hb.1
  have hLU : wd2 b 4 = (lenU b : Int) := by have := wd2_bd hb.1 4; unfold lenU; omega
  have hLb := wd2_bd hb.1 4
  have hfo := fitE_or s d
  refine Run.seq ?_
  refine Run.region ?_
  refine boxA rfl S rfl ?_
  intro b3 w1 hb3 S B_
  refine boxA rfl S rfl ?_
  intro b4 w2 hb4 S B_
  refine alc T73 S rfl ?_
  intro b6 w3 hb6 S B_
  refine asg1 rfl rfl ?_
  refine Ro.nil ?_
  refine Nrm.code ?_
  refine Run.seq ?_
  refine Run.region ?_
  refine bld B73 (qs := []) trivial rfl rfl rfl ?_
  refine alc T73 S rfl ?_
  intro b8 w4 hb8 S B_
  refine stW rfl rfl T73 rfl rfl (by simp [Value.oneCell']) S (i := 0) rfl rfl ?_
  intro w5 S
  refine Ro.nil ?_
  refine Nrm.code ?_
  refine Run.seq ?_
  refine Run.seq ?_
  refine Run.region ?_
  refine mv1 rfl rfl ?_
  refine lenS rfl hb.2 Tryd.underlying26 rfl rfl rfl ?_
  refine gtr1 rfl rfl rfl ?_
  refine Ro.nil ?_
  refine Nrm.code ?_
  refine Run.cond rfl (fun hc2 => ?_) (fun hc2 => ?_)
  ·
    try simp only [Bool.or_eq_true, Bool.and_eq_true, Bool.or_eq_false_iff, Bool.and_eq_false_iff, decide_eq_true_eq, decide_eq_false_iff_not, Bool.not_eq_true', Bool.not_eq_false', Bool.not_eq_true, Bool.not_eq_false] at hc2
    refine Run.seq ?_
    refine Run.region ?_
    refine ldW rfl T73 S (i := 0) rfl rfl rfl rfl rfl ?_
    refine stW rfl rfl T73 rfl rfl (by simp [Value.oneCell']) S (i := 1) rfl rfl ?_
    intro w6 S
    refine asg1 rfl rfl ?_
    refine Ro.nil ?_
    refine Nrm.code ?_
    refine Run.ret ?_
    refine Rt.cell2 rfl rfl rfl T73 S (i := 1) rfl rfl ?_
    have he : udpE s d b = 2 := by
      unfold udpE
      rw [if_pos (by omega)]
    exact ⟨.slice none 0 0, by rw [udp_err he (by omega), he]; rfl, S.bl, fun _ _ => by rw [udp_err he (by omega)]; exact BS.nil _ _⟩
  ·
    try simp only [Bool.or_eq_true, Bool.and_eq_true, Bool.or_eq_false_iff, Bool.and_eq_false_iff, decide_eq_true_eq, decide_eq_false_iff_not, Bool.not_eq_true', Bool.not_eq_false', Bool.not_eq_true, Bool.not_eq_false] at hc2
    refine Run.skip ?_
    refine Nrm.code ?_
    refine Run.seq ?_
    refine Run.region ?_
    refine ldW rfl T24 S (i := 3) rfl rfl rfl rfl rfl ?_
    refine ldW rfl T24 S (i := 2) rfl rfl rfl rfl rfl ?_
    refine calg (vs := [_, _]) rfl ⟨⟨_, _, rfl, rfl⟩, ⟨_, _, rfl, rfl⟩, trivial⟩ k130 rfl (fun hG => c130 s d _ hs ht) ?_
    intro w6 B_; have S := S.call B_
    refine asg1 rfl rfl ?_
    refine Ro.nil ?_
    refine Nrm.code ?_
    refine Run.seq ?_
    refine Run.seq ?_
    refine Run.region ?_
    refine mv1 rfl rfl ?_
    refine nt1 rfl rfl ?_
    refine Ro.nil ?_
    refine Nrm.code ?_
    refine Run.cond rfl (fun hc5 => ?_) (fun hc5 => ?_)
    ·
      try simp only [Bool.or_eq_true, Bool.and_eq_true, Bool.or_eq_false_iff, Bool.and_eq_false_iff, decide_eq_true_eq, decide_eq_false_iff_not, Bool.not_eq_true', Bool.not_eq_false', Bool.not_eq_true, Bool.not_eq_false] at hc5
      refine Run.seq ?_
      refine Run.region ?_
      refine ldW rfl T73 S (i := 0) rfl rfl rfl rfl rfl ?_
      refine stW rfl rfl T73 rfl rfl (by simp [Value.oneCell']) S (i := 1) rfl rfl ?_
      intro w7 S
      refine asg1 rfl rfl ?_
      refine Ro.nil ?_
      refine Nrm.code ?_
      refine Run.ret ?_
      refine Rt.cell2 rfl rfl rfl T73 S (i := 1) rfl rfl ?_
      have he : udpE s d b = 20 := by
        unfold udpE
        rw [if_neg (by omega), if_pos (by omega)]
        omega
      exact ⟨.slice none 0 0, by rw [udp_err he (by omega), he]; rfl, S.bl, fun _ _ => by rw [udp_err he (by omega)]; exact BS.nil _ _⟩
    ·
      try simp only [Bool.or_eq_true, Bool.and_eq_true, Bool.or_eq_false_iff, Bool.and_eq_false_iff, decide_eq_true_eq, decide_eq_false_iff_not, Bool.not_eq_true', Bool.not_eq_false', Bool.not_eq_true, Bool.not_eq_false] at hc5
      refine Run.skip ?_
      refine Nrm.code ?_
      refine Run.seq ?_
      refine Run.seq ?_
      refine Run.region ?_
      refine mv1 rfl rfl ?_
      refine lenS rfl hb.2 Tryd.underlying26 rfl rfl rfl ?_
      refine lss1 rfl rfl rfl ?_
      refine Ro.nil ?_
      refine Nrm.code ?_
      refine Run.cond rfl (fun hc7 => ?_) (fun hc7 => ?_)
      ·
        try simp only [Bool.or_eq_true, Bool.and_eq_true, Bool.or_eq_false_iff, Bool.and_eq_false_iff, decide_eq_true_eq, decide_eq_false_iff_not, Bool.not_eq_true', Bool.not_eq_false', Bool.not_eq_true, Bool.not_eq_false] at hc7
        refine Run.seq ?_
        refine Run.region ?_
        refine ldW rfl T73 S (i := 0) rfl rfl rfl rfl rfl ?_
        refine stW rfl rfl T73 rfl rfl (by simp [Value.oneCell']) S (i := 1) rfl rfl ?_
        intro w7 S
        refine asg1 rfl rfl ?_
        refine Ro.nil ?_
        refine Nrm.code ?_
        refine Run.ret ?_
        refine Rt.cell2 rfl rfl rfl T73 S (i := 1) rfl rfl ?_
        have he : udpE s d b = 91 := by
          unfold udpE
          rw [if_neg (by omega), if_neg (by omega), if_pos (by omega)]
        exact ⟨.slice none 0 0, by rw [udp_err he (by omega), he]; rfl, S.bl, fun _ _ => by rw [udp_err he (by omega)]; exact BS.nil _ _⟩
      ·
        try simp only [Bool.or_eq_true, Bool.and_eq_true, Bool.or_eq_false_iff, Bool.and_eq_false_iff, decide_eq_true_eq, decide_eq_false_iff_not, Bool.not_eq_true', Bool.not_eq_false', Bool.not_eq_true, Bool.not_eq_false] at hc7
        refine Run.skip ?_
        refine Nrm.code ?_
        refine Run.seq ?_
        refine Run.region ?_
        refine mv1 rfl rfl ?_
        refine calg (vs := [_, _, _]) rfl ⟨⟨_, _, rfl, rfl⟩, ⟨_, _, rfl, rfl⟩, ⟨_, _, rfl, rfl⟩, trivial⟩ k131 rfl (fun hG => (by have := c131 _ b 4 2 _ (hb.now S) (by omega) (by decide) (by omega); rw [numN_2, hLU] at this; exact this)) ?_
        intro w7 B_; have S := S.call B_
        refine asg1 rfl rfl ?_
        refine Ro.nil ?_
        refine Nrm.code ?_
        refine Run.seq ?_
        refine Run.seq ?_
        refine Run.region ?_
        refine mv1 rfl rfl ?_
        refine lss1 rfl rfl rfl ?_
        refine mv1 rfl rfl ?_
        refine mv rfl rfl rfl rfl ?_
        refine mv rfl rfl rfl rfl ?_
        refine lenS rfl hb.2 Tryd.underlying26 rfl rfl rfl ?_
        refine gtr rfl rfl rfl rfl rfl rfl ?_
        refine pkO rfl rfl rfl rfl rfl rfl ?_
        refine Ro.nil ?_
        refine Nrm.code ?_
        refine Run.cond rfl (fun hc10 => ?_) (fun hc10 => ?_)
        ·
          try simp only [Bool.or_eq_true, Bool.and_eq_true, Bool.or_eq_false_iff, Bool.and_eq_false_iff, decide_eq_true_eq, decide_eq_false_iff_not, Bool.not_eq_true', Bool.not_eq_false', Bool.not_eq_true, Bool.not_eq_false] at hc10
          refine Run.seq ?_
          refine Run.region ?_
          refine ldW rfl T73 S (i := 0) rfl rfl rfl rfl rfl ?_
          refine stW rfl rfl T73 rfl rfl (by simp [Value.oneCell']) S (i := 1) rfl rfl ?_
          intro w8 S
          refine asg1 rfl rfl ?_
          refine Ro.nil ?_
          refine Nrm.code ?_
          refine Run.ret ?_
          refine Rt.cell2 rfl rfl rfl T73 S (i := 1) rfl rfl ?_
          have he : udpE s d b = 92 := by
            unfold udpE
            rw [if_neg (by omega), if_neg (by omega), if_neg (by omega), if_pos (by omega)]
          exact ⟨.slice none 0 0, by rw [udp_err he (by omega), he]; rfl, S.bl, fun _ _ => by rw [udp_err he (by omega)]; exact BS.nil _ _⟩
        ·
          try simp only [Bool.or_eq_true, Bool.and_eq_true, Bool.or_eq_false_iff, Bool.and_eq_false_iff, decide_eq_true_eq, decide_eq_false_iff_not, Bool.not_eq_true', Bool.not_eq_false', Bool.not_eq_true, Bool.not_eq_false] at hc10
          refine Run.skip ?_
          refine Nrm.code ?_
          refine Run.seq ?_
          refine Run.heldB (by kernel_rfl) S [true, true, true, true] rfl rfl rfl ?_
          intro w8 BD S SC
          refine Hb.take (i := 0) SC (fun _ _ S B => S.call B) Pp.body rfl (by kernel_rfl) (by kernel_rfl) (by kernel_rfl) rfl rfl ?_
          refine qmv rfl rfl rfl rfl ?_
          refine Hb.back ?_
          refine Hb.take (i := 2) SC (fun _ _ S B => S.call B) Pp.body rfl (by kernel_rfl) (by kernel_rfl) (by kernel_rfl) rfl rfl ?_
          refine qmv rfl rfl rfl rfl ?_
          refine Hb.back ?_
          refine Hb.take (i := 4) SC (fun _ _ S B => S.call B) Pp.body rfl (by kernel_rfl) (by kernel_rfl) (by kernel_rfl) rfl rfl ?_
          refine qmv rfl rfl rfl rfl ?_
          refine Hb.back ?_
          refine Hb.take (i := 7) SC (fun _ _ S B => S.call B) Pp.body rfl (by kernel_rfl) (by kernel_rfl) (by kernel_rfl) rfl rfl ?_
          refine qmv rfl rfl rfl rfl ?_
          refine Hb.back ?_
          refine Hb.take (i := 8) SC (fun _ _ S B => S.call B) Pp.body rfl (by kernel_rfl) (by kernel_rfl) (by kernel_rfl) rfl rfl ?_
          refine qmv rfl rfl rfl rfl ?_
          refine Hb.back ?_
          refine Hb.take (i := 9) SC (fun _ _ S B => S.call B) Pp.body rfl (by kernel_rfl) (by kernel_rfl) (by kernel_rfl) rfl rfl ?_
          have hv47 := hb.cut (lo := 8) (hi := lenU b) (mx := capV v) (by have hcap := hb.cap; omega)
          refine qslC (lo := 8) (hi := lenU b) (mx := capV v) rfl hb e26 rfl rfl rfl (i1 := some 8) (i2 := some (lenU b)) (i3 := none) ⟨_, _, _, rfl, rfl⟩ ⟨_, _, _, rfl, rfl⟩ trivial rfl rfl rfl (fun h => by first | rfl | cases h) (fun hG => by (try simp [allT] at hG); have hcap := hb.cap; omega) ?_
          refine Hb.back ?_
          refine Hb.call (i := 1) SC (fun _ _ S B => S.call B) Pp.body rfl (by kernel_rfl) (by kernel_rfl) (by kernel_rfl) rfl (vs := [_, _, _]) rfl ⟨⟨_, _, rfl, rfl⟩, ⟨_, _, rfl, rfl⟩, ⟨_, _, rfl, rfl⟩, trivial⟩ k131 rfl (fun hG w_ S => (by have := c131 _ b 0 2 _ (hb.now S) (by omega) (by decide) (by omega); rw [numN_2] at this; exact this)) ?_
          refine Hb.call (i := 3) SC (fun _ _ S B => S.call B) Pp.body rfl (by kernel_rfl) (by kernel_rfl) (by kernel_rfl) rfl (vs := [_, _, _]) rfl ⟨⟨_, _, rfl, rfl⟩, ⟨_, _, rfl, rfl⟩, ⟨_, _, rfl, rfl⟩, trivial⟩ k131 rfl (fun hG w_ S => (by have := c131 _ b 2 2 _ (hb.now S) (by omega) (by decide) (by omega); rw [numN_2] at this; exact this)) ?_
          refine Hb.call (i := 5) SC (fun _ _ S B => S.call B) Pp.body rfl (by kernel_rfl) (by kernel_rfl) (by kernel_rfl) rfl (vs := [_, _, _]) rfl ⟨⟨_, _, rfl, rfl⟩, ⟨_, _, rfl, rfl⟩, ⟨_, _, rfl, rfl⟩, trivial⟩ k131 rfl (fun hG w_ S => (by have := c131 _ b 6 2 _ (hb.now S) (by omega) (by decide) (by omega); rw [numN_2] at this; exact this)) ?_
          refine Hb.take (i := 6) SC (fun _ _ S B => S.call B) Pp.body rfl (by kernel_rfl) (by kernel_rfl) (by kernel_rfl) rfl rfl ?_
          refine qeql rfl rfl rfl rfl rfl rfl ?_
          refine Hb.back ?_
          refine Hb.two (i := 10) (i' := 12) (by kernel_rfl) rfl rfl rfl rfl ?_ ?_
          ·
            intro w9 BD; have S := S.call BD
            have S0 := S
            have SS0 := S
            refine call (vs := [_]) ⟨⟨_, _, rfl, rfl⟩, trivial⟩ k39 rfl (c39 _ _ _ (hv47.now S) (by rw [List.length_take, List.length_drop]; omega)) ?_
            rintro d48 w10 hFd48
            have S := S.call hFd48.1
            have hd48 := hFd48.bs hv47.1 S0.lt
            have hd48F := hFd48.bs hv47.1 SS0.ltR
            obtain ⟨N1, hN1, S_1⟩ := S.reb
            have hb := hb.st S; rw [hN1] at hb
            rw [hN1] at hd48
            rw [hN1] at hd48F
            have SS := S
            have SH := S
            have S := S_1
            have SC := (SH.tran hN1 S).pick [true, true, true, true] rfl
            refine Hb.on SC ?_
            refine Hb.take (i := 11) SC (fun _ _ S B => S.call B) Pp.body rfl (by kernel_rfl) (by kernel_rfl) (by kernel_rfl) rfl rfl ?_
            refine qbld B73 (qs := [(_, _), (_, _), (_, _), (_, _)]) ⟨⟨_, _, _, rfl, rfl, rfl, rfl, by first | (simp [Value.cells]; done) | simp [Value.cells, encIP]⟩, ⟨_, _, _, rfl, rfl, rfl, rfl, by first | (simp [Value.cells]; done) | simp [Value.cells, encIP]⟩, ⟨_, _, _, rfl, rfl, rfl, rfl, by first | (simp [Value.cells]; done) | simp [Value.cells, encIP]⟩, ⟨_, _, _, rfl, rfl, cells1 hd48.one, rfl, List.cons_ne_nil _ _⟩, trivial⟩ rfl rfl rfl ?_
            refine Hb.back ?_
            refine Hb.one (i := 12) (by kernel_rfl) rfl rfl ?_
            intro w11 BD; have S := S.call BD
            refine alc T73 S rfl ?_
            intro b11 w12 hb11 S B_
            have SC := (SH.tran hN1 S).pick [false, true, true, true, true] rfl
            refine Hb.on SC ?_
            refine Hb.one (i := 13) (by kernel_rfl) rfl rfl ?_
            intro w13 BD; have S := S.call BD
            refine stW rfl rfl T73 rfl rfl (one_cons rfl (one_cons rfl (one_cons rfl (one_cons hd48.one one_nil)))) S (i := 0) rfl rfl ?_
            intro w14 S
            have SC := (SH.tran hN1 S).pick [false, true, true, true, true] rfl
            refine Hb.on SC ?_
            refine Hb.done (by kernel_rfl) ?_
            intro w15 BD; have S := S.call BD
            refine Nrm.code ?_
            refine Run.seq ?_
            refine Run.seq ?_
            refine Run.region ?_
            refine fld (o' := 2) rfl fo73_2 rfl rfl rfl rfl ?_
            refine ld1 rfl T4 S (i := 0) rfl rfl rfl rfl rfl ?_
            refine mv1 rfl rfl ?_
            refine fld (o' := 0) rfl fo24_0 rfl rfl rfl rfl ?_
            refine ld1 rfl T3 S (i := 4) rfl rfl rfl rfl rfl ?_
            refine eql rfl rfl rfl rfl rfl rfl ?_
            refine pkA rfl rfl rfl rfl rfl rfl ?_
            refine Ro.nil ?_
            refine Nrm.code ?_
            refine Run.cond rfl (fun hc13 => ?_) (fun hc13 => ?_)
            ·
              try simp only [Bool.or_eq_true, Bool.and_eq_true, Bool.or_eq_false_iff, Bool.and_eq_false_iff, decide_eq_true_eq, decide_eq_false_iff_not, Bool.not_eq_true', Bool.not_eq_false', Bool.not_eq_true, Bool.not_eq_false] at hc13
              refine Run.seq ?_
              refine Run.region ?_
              refine ldW rfl T73 S (i := 1) rfl rfl rfl rfl rfl ?_
              refine stW rfl rfl T73 rfl rfl (by simp [Value.oneCell']) S (i := 2) rfl rfl ?_
              intro w16 S
              refine asg1 rfl rfl ?_
              refine Ro.nil ?_
              refine Nrm.code ?_
              refine Run.ret ?_
              refine Rt.cell2 rfl rfl rfl T73 S (i := 2) rfl rfl ?_
              have he : udpE s d b = 93 := by
                unfold udpE
                rw [if_neg (by omega), if_neg (by omega), if_neg (by omega), if_neg (by omega), if_pos (by omega), if_pos (by omega)]
              exact ⟨.slice none 0 0, by rw [udp_err he (by omega), he]; rfl, (SS.tran hN1 S).bl, fun _ _ => by rw [udp_err he (by omega)]; exact BS.nil _ _⟩
            ·
              try simp only [Bool.or_eq_true, Bool.and_eq_true, Bool.or_eq_false_iff, Bool.and_eq_false_iff, decide_eq_true_eq, decide_eq_false_iff_not, Bool.not_eq_true', Bool.not_eq_false', Bool.not_eq_true, Bool.not_eq_false] at hc13
              refine Run.skip ?_
              refine Nrm.code ?_
              refine Run.seq ?_
              refine Run.held (by kernel_rfl) S [true, true, true, true, true] rfl rfl rfl ?_
              intro w16 BD S SC
              refine Ho.take (i := 0) SC Pp.body rfl (by kernel_rfl) (by kernel_rfl) (by kernel_rfl) rfl rfl ?_
              refine qldW rfl T24 (fun _ S => S) (i := 4) rfl rfl rfl rfl rfl ?_
              refine Ho.back ?_
              refine Ho.take (i := 1) SC Pp.body rfl (by kernel_rfl) (by kernel_rfl) (by kernel_rfl) rfl rfl ?_
              refine qldW rfl T24 (fun _ S => S) (i := 3) rfl rfl rfl rfl rfl ?_
              refine Ho.back ?_
              refine Ho.take (i := 2) SC Pp.body rfl (by kernel_rfl) (by kernel_rfl) (by kernel_rfl) rfl rfl ?_
              refine qmv rfl rfl rfl rfl ?_
              refine Ho.back ?_
              refine Ho.take (i := 3) SC Pp.body rfl (by kernel_rfl) (by kernel_rfl) (by kernel_rfl) rfl rfl ?_
              refine qmv rfl rfl rfl rfl ?_
              refine Ho.back ?_
              refine Ho.take (i := 4) SC Pp.body rfl (by kernel_rfl) (by kernel_rfl) (by kernel_rfl) rfl rfl ?_
              have hv62 := hb.cut (lo := 0) (hi := lenU b) (mx := capV v) (by have hcap := hb.cap; omega)
              refine qslC (lo := 0) (hi := lenU b) (mx := capV v) rfl hb e26 rfl rfl rfl (i1 := none) (i2 := some (lenU b)) (i3 := none) trivial ⟨_, _, _, rfl, rfl⟩ trivial rfl rfl rfl (fun h => by first | rfl | cases h) (fun hG => by (try simp [allT] at hG); have hcap := hb.cap; omega) ?_
              refine Ho.back ?_
              refine Ho.one (i := 5) (by kernel_rfl) rfl rfl ?_
              refine calg (vs := [_, _, _, _]) rfl ⟨⟨_, _, rfl, rfl⟩, ⟨_, _, rfl, rfl⟩, ⟨_, _, rfl, rfl⟩, ⟨_, _, rfl, rfl⟩, trivial⟩ k132 rfl (fun hG => c132 s d 17 _ (b.take (lenU b)) _ hs ht ((hb.cut (lo := 0) (hi := lenU b) (mx := capV v) (by have := hb.cap; omega)).now S) (by rw [List.length_take]; omega) (fit_pse (by omega) (by decide) (by rw [List.length_take]; omega))) ?_
              intro w17 B_; have S := S.call B_
              have SC := S.pick [true, true, true, true, true] rfl
              refine Ho.on SC ?_
              refine Ho.take (i := 6) SC Pp.body rfl (by kernel_rfl) (by kernel_rfl) (by kernel_rfl) rfl rfl ?_
              refine qasg rfl rfl rfl rfl ?_
              refine Ho.back ?_
              refine Ho.done (by kernel_rfl) ?_
              refine Nrm.code ?_
              refine Run.seq ?_
              refine Run.seq ?_
              refine Run.region ?_
              refine fld (o' := 2) rfl fo73_2 rfl rfl rfl rfl ?_
              refine ld1 rfl T4 S (i := 0) rfl rfl rfl rfl rfl ?_
              refine nt1 rfl rfl ?_
              refine mv1 rfl rfl ?_
              refine mv rfl rfl rfl rfl ?_
              refine nt rfl rfl rfl rfl ?_
              refine pkA rfl rfl rfl rfl rfl rfl ?_
              refine Ro.nil ?_
              refine Nrm.code ?_
              refine Run.cond rfl (fun hc16 => ?_) (fun hc16 => ?_)
              ·
                try simp only [Bool.or_eq_true, Bool.and_eq_true, Bool.or_eq_false_iff, Bool.and_eq_false_iff, decide_eq_true_eq, decide_eq_false_iff_not, Bool.not_eq_true', Bool.not_eq_false', Bool.not_eq_true, Bool.not_eq_false] at hc16
                have hz6 : ¬ wd2 b 6 = 0 := by simpa using hc16.1
                have hgd : psum s d 17 (b.take (lenU b)) ≠ 65535 := by simpa using hc16.2
                refine Run.seq ?_
                refine Run.region ?_
                refine ldW rfl T73 S (i := 1) rfl rfl rfl rfl rfl ?_
                refine stW rfl rfl T73 rfl rfl (by simp [Value.oneCell']) S (i := 2) rfl rfl ?_
                intro w18 S
                refine asg1 rfl rfl ?_
                refine Ro.nil ?_
                refine Nrm.code ?_
                refine Run.ret ?_
                refine Rt.cell2 rfl rfl rfl T73 S (i := 2) rfl rfl ?_
                have he : udpE s d b = 93 := by
                  unfold udpE
                  rw [if_neg (by omega), if_neg (by omega), if_neg (by omega), if_neg (by omega), if_neg hz6, if_pos hgd]
                exact ⟨.slice none 0 0, by rw [udp_err he (by omega), he]; rfl, (SS.tran hN1 S).bl, fun _ _ => by rw [udp_err he (by omega)]; exact BS.nil _ _⟩
              ·
                try simp only [Bool.or_eq_true, Bool.and_eq_true, Bool.or_eq_false_iff, Bool.and_eq_false_iff, decide_eq_true_eq, decide_eq_false_iff_not, Bool.not_eq_true', Bool.not_eq_false', Bool.not_eq_true, Bool.not_eq_false] at hc16
                refine Run.skip ?_
                refine Nrm.code ?_
                refine Run.seq ?_
                refine Run.region ?_
                refine ldW rfl T73 S (i := 0) rfl rfl rfl rfl rfl ?_
                refine stW rfl rfl T73 rfl rfl (one_cons rfl (one_cons rfl (one_cons rfl (one_cons hd48.one one_nil)))) S (i := 2) rfl rfl ?_
                intro w18 S
                refine asg1 rfl rfl ?_
                refine Ro.nil ?_
                refine Nrm.code ?_
                refine Run.ret ?_
                refine Rt.cell2 rfl rfl rfl T73 S (i := 2) rfl rfl ?_
                have hE : udpE s d b = 0 := by
                  unfold udpE
                  rw [if_neg (by omega), if_neg (by omega), if_neg (by omega), if_neg (by omega)]
                  by_cases hz : wd2 b 6 = 0
                  · rw [if_pos hz, if_neg (by omega)]
                  · have hgd : psum s d 17 (b.take (lenU b)) = 65535 := by
                      rcases hc16 with h | h
                      · exact absurd (by simpa using h) hz
                      · simpa using h
                    rw [if_neg hz, if_neg (by omega)]
                exact ⟨d48, by rw [udpU, if_pos hE, hE]; rfl, (SS.tran hN1 S).bl, fun N hN => by rw [udpU, if_pos hE]; exact hd48F.fin S hN⟩
          ·
            intro w9 BD; have S := S.call BD
            refine alc T73 S rfl ?_
            intro b11 w10 hb11 S B_
            have SC := S.pick [false, true, true, true, true] rfl
            refine Hb.on SC ?_
            refine Hb.one (i := 10) (by kernel_rfl) rfl rfl ?_
            intro w11 BD; have S := S.call BD
            have S0 := S
            have SS0 := S
            refine call (vs := [_]) ⟨⟨_, _, rfl, rfl⟩, trivial⟩ k39 rfl (c39 _ _ _ (hv47.now S) (by rw [List.length_take, List.length_drop]; omega)) ?_
            rintro d48 w12 hFd48
            have S := S.call hFd48.1
            have hd48 := hFd48.bs hv47.1 S0.lt
            have hd48F := hFd48.bs hv47.1 SS0.ltR
            obtain ⟨N2, hN2, S_2⟩ := S.reb
            have hb := hb.st S; rw [hN2] at hb
            rw [hN2] at hd48
            rw [hN2] at hd48F
            have SS := S
            have SH := S
            have S := S_2
            have SC := (SH.tran hN2 S).pick [false, true, true, true, true] rfl
            refine Hb.on SC ?_
            refine Hb.take (i := 11) SC (fun _ _ S B => S.call B) Pp.body rfl (by kernel_rfl) (by kernel_rfl) (by kernel_rfl) rfl rfl ?_
            refine qbld B73 (qs := [(_, _), (_, _), (_, _), (_, _)]) ⟨⟨_, _, _, rfl, rfl, rfl, rfl, by first | (simp [Value.cells]; done) | simp [Value.cells, encIP]⟩, ⟨_, _, _, rfl, rfl, rfl, rfl, by first | (simp [Value.cells]; done) | simp [Value.cells, encIP]⟩, ⟨_, _, _, rfl, rfl, rfl, rfl, by first | (simp [Value.cells]; done) | simp [Value.cells, encIP]⟩, ⟨_, _, _, rfl, rfl, cells1 hd48.one, rfl, List.cons_ne_nil _ _⟩, trivial⟩ rfl rfl rfl ?_
            refine Hb.back ?_
            refine Hb.one (i := 13) (by kernel_rfl) rfl rfl ?_
            intro w13 BD; have S := S.call BD
            refine stW rfl rfl T73 rfl rfl (one_cons rfl (one_cons rfl (one_cons rfl (one_cons hd48.one one_nil)))) S (i := 0) rfl rfl ?_
            intro w14 S
            have SC := (SH.tran hN2 S).pick [false, true, true, true, true] rfl
            refine Hb.on SC ?_
            refine Hb.done (by kernel_rfl) ?_
            intro w15 BD; have S := S.call BD
            refine Nrm.code ?_
            refine Run.seq ?_
            refine Run.seq ?_
            refine Run.region ?_
            refine fld (o' := 2) rfl fo73_2 rfl rfl rfl rfl ?_
            refine ld1 rfl T4 S (i := 0) rfl rfl rfl rfl rfl ?_
            refine mv1 rfl rfl ?_
            refine fld (o' := 0) rfl fo24_0 rfl rfl rfl rfl ?_
            refine ld1 rfl T3 S (i := 4) rfl rfl rfl rfl rfl ?_
            refine eql rfl rfl rfl rfl rfl rfl ?_
            refine pkA rfl rfl rfl rfl rfl rfl ?_
            refine Ro.nil ?_
            refine Nrm.code ?_
            refine Run.cond rfl (fun hc13 => ?_) (fun hc13 => ?_)
            ·
              try simp only [Bool.or_eq_true, Bool.and_eq_true, Bool.or_eq_false_iff, Bool.and_eq_false_iff, decide_eq_true_eq, decide_eq_false_iff_not, Bool.not_eq_true', Bool.not_eq_false', Bool.not_eq_true, Bool.not_eq_false] at hc13
              refine Run.seq ?_
              refine Run.region ?_
              refine ldW rfl T73 S (i := 1) rfl rfl rfl rfl rfl ?_
              refine stW rfl rfl T73 rfl rfl (by simp [Value.oneCell']) S (i := 2) rfl rfl ?_
              intro w16 S
              refine asg1 rfl rfl ?_
              refine Ro.nil ?_
              refine Nrm.code ?_
              refine Run.ret ?_
              refine Rt.cell2 rfl rfl rfl T73 S (i := 2) rfl rfl ?_
              have he : udpE s d b = 93 := by
                unfold udpE
                rw [if_neg (by omega), if_neg (by omega), if_neg (by omega), if_neg (by omega), if_pos (by omega), if_pos (by omega)]
              exact ⟨.slice none 0 0, by rw [udp_err he (by omega), he]; rfl, (SS.tran hN2 S).bl, fun _ _ => by rw [udp_err he (by omega)]; exact BS.nil _ _⟩
            ·
              try simp only [Bool.or_eq_true, Bool.and_eq_true, Bool.or_eq_false_iff, Bool.and_eq_false_iff, decide_eq_true_eq, decide_eq_false_iff_not, Bool.not_eq_true', Bool.not_eq_false', Bool.not_eq_true, Bool.not_eq_false] at hc13
              refine Run.skip ?_
              refine Nrm.code ?_
              refine Run.seq ?_
              refine Run.held (by kernel_rfl) S [true, true, true, true, true] rfl rfl rfl ?_
              intro w16 BD S SC
              refine Ho.take (i := 0) SC Pp.body rfl (by kernel_rfl) (by kernel_rfl) (by kernel_rfl) rfl rfl ?_
              refine qldW rfl T24 (fun _ S => S) (i := 4) rfl rfl rfl rfl rfl ?_
              refine Ho.back ?_
              refine Ho.take (i := 1) SC Pp.body rfl (by kernel_rfl) (by kernel_rfl) (by kernel_rfl) rfl rfl ?_
              refine qldW rfl T24 (fun _ S => S) (i := 3) rfl rfl rfl rfl rfl ?_
              refine Ho.back ?_
              refine Ho.take (i := 2) SC Pp.body rfl (by kernel_rfl) (by kernel_rfl) (by kernel_rfl) rfl rfl ?_
              refine qmv rfl rfl rfl rfl ?_
              refine Ho.back ?_
              refine Ho.take (i := 3) SC Pp.body rfl (by kernel_rfl) (by kernel_rfl) (by kernel_rfl) rfl rfl ?_
              refine qmv rfl rfl rfl rfl ?_
              refine Ho.back ?_
              refine Ho.take (i := 4) SC Pp.body rfl (by kernel_rfl) (by kernel_rfl) (by kernel_rfl) rfl rfl ?_
              have hv62 := hb.cut (lo := 0) (hi := lenU b) (mx := capV v) (by have hcap := hb.cap; omega)
              refine qslC (lo := 0) (hi := lenU b) (mx := capV v) rfl hb e26 rfl rfl rfl (i1 := none) (i2 := some (lenU b)) (i3 := none) trivial ⟨_, _, _, rfl, rfl⟩ trivial rfl rfl rfl (fun h => by first | rfl | cases h) (fun hG => by (try simp [allT] at hG); have hcap := hb.cap; omega) ?_
              refine Ho.back ?_
              refine Ho.one (i := 5) (by kernel_rfl) rfl rfl ?_
              refine calg (vs := [_, _, _, _]) rfl ⟨⟨_, _, rfl, rfl⟩, ⟨_, _, rfl, rfl⟩, ⟨_, _, rfl, rfl⟩, ⟨_, _, rfl, rfl⟩, trivial⟩ k132 rfl (fun hG => c132 s d 17 _ (b.take (lenU b)) _ hs ht ((hb.cut (lo := 0) (hi := lenU b) (mx := capV v) (by have := hb.cap; omega)).now S) (by rw [List.length_take]; omega) (fit_pse (by omega) (by decide) (by rw [List.length_take]; omega))) ?_
              intro w17 B_; have S := S.call B_
              have SC := S.pick [true, true, true, true, true] rfl
              refine Ho.on SC ?_
              refine Ho.take (i := 6) SC Pp.body rfl (by kernel_rfl) (by kernel_rfl) (by kernel_rfl) rfl rfl ?_
              refine qasg rfl rfl rfl rfl ?_
              refine Ho.back ?_
              refine Ho.done (by kernel_rfl) ?_
              refine Nrm.code ?_
              refine Run.seq ?_
              refine Run.seq ?_
              refine Run.region ?_
              refine fld (o' := 2) rfl fo73_2 rfl rfl rfl rfl ?_
              refine ld1 rfl T4 S (i := 0) rfl rfl rfl rfl rfl ?_
              refine nt1 rfl rfl ?_
              refine mv1 rfl rfl ?_
              refine mv rfl rfl rfl rfl ?_
              refine nt rfl rfl rfl rfl ?_
              refine pkA rfl rfl rfl rfl rfl rfl ?_
              refine Ro.nil ?_
              refine Nrm.code ?_
              refine Run.cond rfl (fun hc16 => ?_) (fun hc16 => ?_)
              ·
                try simp only [Bool.or_eq_true, Bool.and_eq_true, Bool.or_eq_false_iff, Bool.and_eq_false_iff, decide_eq_true_eq, decide_eq_false_iff_not, Bool.not_eq_true', Bool.not_eq_false', Bool.not_eq_true, Bool.not_eq_false] at hc16
                have hz6 : ¬ wd2 b 6 = 0 := by simpa using hc16.1
                have hgd : psum s d 17 (b.take (lenU b)) ≠ 65535 := by simpa using hc16.2
                refine Run.seq ?_
                refine Run.region ?_
                refine ldW rfl T73 S (i := 1) rfl rfl rfl rfl rfl ?_
                refine stW rfl rfl T73 rfl rfl (by simp [Value.oneCell']) S (i := 2) rfl rfl ?_
                intro w18 S
                refine asg1 rfl rfl ?_
                refine Ro.nil ?_
                refine Nrm.code ?_
                refine Run.ret ?_
                refine Rt.cell2 rfl rfl rfl T73 S (i := 2) rfl rfl ?_
                have he : udpE s d b = 93 := by
                  unfold udpE
                  rw [if_neg (by omega), if_neg (by omega), if_neg (by omega), if_neg (by omega), if_neg hz6, if_pos hgd]
                exact ⟨.slice none 0 0, by rw [udp_err he (by omega), he]; rfl, (SS.tran hN2 S).bl, fun _ _ => by rw [udp_err he (by omega)]; exact BS.nil _ _⟩
              ·
                try simp only [Bool.or_eq_true, Bool.and_eq_true, Bool.or_eq_false_iff, Bool.and_eq_false_iff, decide_eq_true_eq, decide_eq_false_iff_not, Bool.not_eq_true', Bool.not_eq_false', Bool.not_eq_true, Bool.not_eq_false] at hc16
                refine Run.skip ?_
                refine Nrm.code ?_
                refine Run.seq ?_
                refine Run.region ?_
                refine ldW rfl T73 S (i := 0) rfl rfl rfl rfl rfl ?_
                refine stW rfl rfl T73 rfl rfl (one_cons rfl (one_cons rfl (one_cons rfl (one_cons hd48.one one_nil)))) S (i := 2) rfl rfl ?_
                intro w18 S
                refine asg1 rfl rfl ?_
                refine Ro.nil ?_
                refine Nrm.code ?_
                refine Run.ret ?_
                refine Rt.cell2 rfl rfl rfl T73 S (i := 2) rfl rfl ?_
                have hE : udpE s d b = 0 := by
                  unfold udpE
                  rw [if_neg (by omega), if_neg (by omega), if_neg (by omega), if_neg (by omega)]
                  by_cases hz : wd2 b 6 = 0
                  · rw [if_pos hz, if_neg (by omega)]
                  · have hgd : psum s d 17 (b.take (lenU b)) = 65535 := by
                      rcases hc16 with h | h
                      · exact absurd (by simpa using h) hz
                      · simpa using h
                    rw [if_neg hz, if_neg (by omega)]
                exact ⟨d48, by rw [udpU, if_pos hE, hE]; rfl, (SS.tran hN2 S).bl, fun N hN => by rw [udpU, if_pos hE]; exact hd48F.fin S hN⟩
set_option maxHeartbeats 1000000 in
theorem c60 (vv : Int) (u : Udp) (dv : Value) (w : World) (hd : BS [] w dv u.data) (hl : u.data.length ≤ 1099511627776) :
  CallsD Tryd.prog 60 #[.int .i64 vv, .agg (encUdp u dv).toArray] w (.int .i64 (chkU vv u)) := by
 refine enter Tryd.func60 rfl Tryd.ntmps60 (l := [(0, [], _), (1, [], _)]) rfl rfl ?_
 have S := St.refl [] w
 refine Run.seq ?_
 refine Run.region ?_
 refine boxA rfl S rfl ?_
 intro b3 w1 hb3 S B_
 refine asg1 rfl rfl ?_
 refine Ro.nil ?_
 refine Nrm.code ?_
 refine Run.seq ?_
 refine Run.block ?_
 refine Run.seq ?_
 refine Run.region ?_
 refine mv1 rfl rfl ?_
 refine neq1 rfl rfl rfl ?_
 refine mv1 rfl rfl ?_
 refine mv rfl rfl rfl rfl ?_
 refine neq rfl rfl rfl rfl rfl rfl ?_
 refine pkA rfl rfl rfl rfl rfl rfl ?_
 refine asg1 rfl rfl ?_
 refine Ro.nil ?_
 refine Nrm.code ?_
 refine Run.cond rfl (fun hc1 => ?_) (fun hc1 => ?_)
 ·
  try simp only [Bool.or_eq_true, Bool.and_eq_true, Bool.or_eq_false_iff, Bool.and_eq_false_iff, decide_eq_true_eq, decide_eq_false_iff_not, Bool.not_eq_true', Bool.not_eq_false', Bool.not_eq_true, Bool.not_eq_false] at hc1
  refine Run.seq ?_
  refine Run.region ?_
  refine asg1 rfl rfl ?_
  refine Ro.nil ?_
  refine Nrm.code ?_
  refine Run.ret ?_
  refine Rt.one rfl rfl ?_
  exact ⟨by rw [chkU, if_pos (by omega)], S.bl⟩
 ·
  try simp only [Bool.or_eq_true, Bool.and_eq_true, Bool.or_eq_false_iff, Bool.and_eq_false_iff, decide_eq_true_eq, decide_eq_false_iff_not, Bool.not_eq_true', Bool.not_eq_false', Bool.not_eq_true, Bool.not_eq_false] at hc1
  refine Run.seq ?_
  refine Run.region ?_
  refine fld (o' := 0) rfl fo73_0 rfl rfl rfl rfl ?_
  refine ld1 rfl T3 S (i := 0) rfl rfl rfl rfl rfl ?_
  refine calg (vs := [_, _]) rfl ⟨⟨_, _, rfl, rfl⟩, ⟨_, _, rfl, rfl⟩, trivial⟩ k126 rfl (fun hG => c126 _ _ _) ?_
  intro w2 B_; have S := S.call B_
  refine mv1 rfl rfl ?_
  refine fld (o' := 1) rfl fo73_1 rfl rfl rfl rfl ?_
  refine ld1 rfl T3 S (i := 0) rfl rfl rfl rfl rfl ?_
  refine calg (vs := [_, _]) rfl ⟨⟨_, _, rfl, rfl⟩, ⟨_, _, rfl, rfl⟩, trivial⟩ k126 rfl (fun hG => c126 _ _ _) ?_
  intro w3 B_; have S := S.call B_
  refine pkO rfl rfl rfl rfl rfl rfl ?_
  refine mv1 rfl rfl ?_
  refine fld (o' := 2) rfl fo73_2 rfl rfl rfl rfl ?_
  refine ld1 rfl T4 S (i := 0) rfl rfl rfl rfl rfl ?_
  refine mv rfl rfl rfl rfl ?_
  refine mv rfl rfl rfl rfl ?_
  refine eql rfl rfl rfl rfl rfl rfl ?_
  refine pkA rfl rfl rfl rfl rfl rfl ?_
  refine pkO rfl rfl rfl rfl rfl rfl ?_
  refine asg1 rfl rfl ?_
  refine Ro.nil ?_
  refine Nrm.code ?_
  refine Run.cond rfl (fun hc3 => ?_) (fun hc3 => ?_)
  ·
   refine Run.seq ?_
   refine Run.region ?_
   refine asg1 rfl rfl ?_
   refine Ro.nil ?_
   refine Nrm.code ?_
   refine Run.ret ?_
   refine Rt.one rfl rfl ?_
   exact ⟨by rw [chkU, if_neg (by omega), if_pos (show badU vv u = true from hc3)], S.bl⟩
  ·
   refine Run.seq ?_
   refine Run.region ?_
   refine fld (o' := 3) rfl fo73_3 rfl rfl rfl rfl ?_
   refine ld1 rfl T26 S (i := 0) rfl rfl rfl rfl rfl ?_
   refine lenS rfl hd.2 Tryd.underlying26 rfl rfl rfl ?_
   refine gtr1 rfl rfl rfl ?_
   refine asg1 rfl rfl ?_
   refine Ro.nil ?_
   refine Nrm.code ?_
   refine Run.cond rfl (fun hc5 => ?_) (fun hc5 => ?_)
   ·
    try simp only [Bool.or_eq_true, Bool.and_eq_true, Bool.or_eq_false_iff, Bool.and_eq_false_iff, decide_eq_true_eq, decide_eq_false_iff_not, Bool.not_eq_true', Bool.not_eq_false', Bool.not_eq_true, Bool.not_eq_false] at hc5
    refine Run.seq ?_
    refine Run.region ?_
    refine asg1 rfl rfl ?_
    refine Ro.nil ?_
    refine Nrm.code ?_
    refine Run.ret ?_
    refine Rt.one rfl rfl ?_
    exact ⟨by rw [chkU, if_neg (by omega), if_neg (by rw [show badU vv u = false from hc3]; simp), if_pos (by omega)], S.bl⟩
   ·
    try simp only [Bool.or_eq_true, Bool.and_eq_true, Bool.or_eq_false_iff, Bool.and_eq_false_iff, decide_eq_true_eq, decide_eq_false_iff_not, Bool.not_eq_true', Bool.not_eq_false', Bool.not_eq_true, Bool.not_eq_false] at hc5
    refine Run.skip ?_
    refine Nrm.blk ?_
    refine Nrm.code ?_
    refine Run.seq ?_
    refine Run.region ?_
    refine asg1 rfl rfl ?_
    refine Ro.nil ?_
    refine Nrm.code ?_
    refine Run.ret ?_
    refine Rt.one rfl rfl ?_
    exact ⟨by rw [chkU, if_neg (by omega), if_neg (by rw [show badU vv u = false from hc3]; simp), if_neg (by omega)], S.bl⟩
set_option maxHeartbeats 1000000 in
theorem c85 (vv : Int) (u : Udp) (dv : Value) (w : World) (hd : BS [] w dv u.data) (hl : u.data.length ≤ 1099511627776) :
  CallsD Tryd.prog 85 #[.int .i64 vv, .agg (encUdp u dv).toArray] w (.int .i64 (chkU vv u)) := by
 refine enter Tryd.func85 rfl Tryd.ntmps85 (l := [(0, [], _), (1, [], _)]) rfl rfl ?_
 have S := St.refl [] w
 refine Run.seq ?_
 refine Run.region ?_
 refine boxA rfl S rfl ?_
 intro b3 w1 hb3 S B_
 refine asg1 rfl rfl ?_
 refine Ro.nil ?_
 refine Nrm.code ?_
 refine Run.seq ?_
 refine Run.block ?_
 refine Run.seq ?_
 refine Run.region ?_
 refine mv1 rfl rfl ?_
 refine neq1 rfl rfl rfl ?_
 refine mv1 rfl rfl ?_
 refine mv rfl rfl rfl rfl ?_
 refine neq rfl rfl rfl rfl rfl rfl ?_
 refine pkA rfl rfl rfl rfl rfl rfl ?_
 refine asg1 rfl rfl ?_
 refine Ro.nil ?_
 refine Nrm.code ?_
 refine Run.cond rfl (fun hc1 => ?_) (fun hc1 => ?_)
 ·
  try simp only [Bool.or_eq_true, Bool.and_eq_true, Bool.or_eq_false_iff, Bool.and_eq_false_iff, decide_eq_true_eq, decide_eq_false_iff_not, Bool.not_eq_true', Bool.not_eq_false', Bool.not_eq_true, Bool.not_eq_false] at hc1
  refine Run.seq ?_
  refine Run.region ?_
  refine asg1 rfl rfl ?_
  refine Ro.nil ?_
  refine Nrm.code ?_
  refine Run.ret ?_
  refine Rt.one rfl rfl ?_
  exact ⟨by rw [chkU, if_pos (by omega)], S.bl⟩
 ·
  try simp only [Bool.or_eq_true, Bool.and_eq_true, Bool.or_eq_false_iff, Bool.and_eq_false_iff, decide_eq_true_eq, decide_eq_false_iff_not, Bool.not_eq_true', Bool.not_eq_false', Bool.not_eq_true, Bool.not_eq_false] at hc1
  refine Run.seq ?_
  refine Run.region ?_
  refine fld (o' := 0) rfl fo73_0 rfl rfl rfl rfl ?_
  refine ld1 rfl T3 S (i := 0) rfl rfl rfl rfl rfl ?_
  refine calg (vs := [_, _]) rfl ⟨⟨_, _, rfl, rfl⟩, ⟨_, _, rfl, rfl⟩, trivial⟩ k138 rfl (fun hG => c138 _ _ _) ?_
  intro w2 B_; have S := S.call B_
  refine mv1 rfl rfl ?_
  refine fld (o' := 1) rfl fo73_1 rfl rfl rfl rfl ?_
  refine ld1 rfl T3 S (i := 0) rfl rfl rfl rfl rfl ?_
  refine calg (vs := [_, _]) rfl ⟨⟨_, _, rfl, rfl⟩, ⟨_, _, rfl, rfl⟩, trivial⟩ k138 rfl (fun hG => c138 _ _ _) ?_
  intro w3 B_; have S := S.call B_
  refine pkO rfl rfl rfl rfl rfl rfl ?_
  refine mv1 rfl rfl ?_
  refine fld (o' := 2) rfl fo73_2 rfl rfl rfl rfl ?_
  refine ld1 rfl T4 S (i := 0) rfl rfl rfl rfl rfl ?_
  refine mv rfl rfl rfl rfl ?_
  refine mv rfl rfl rfl rfl ?_
  refine eql rfl rfl rfl rfl rfl rfl ?_
  refine pkA rfl rfl rfl rfl rfl rfl ?_
  refine pkO rfl rfl rfl rfl rfl rfl ?_
  refine asg1 rfl rfl ?_
  refine Ro.nil ?_
  refine Nrm.code ?_
  refine Run.cond rfl (fun hc3 => ?_) (fun hc3 => ?_)
  ·
   refine Run.seq ?_
   refine Run.region ?_
   refine asg1 rfl rfl ?_
   refine Ro.nil ?_
   refine Nrm.code ?_
   refine Run.ret ?_
   refine Rt.one rfl rfl ?_
   exact ⟨by rw [chkU, if_neg (by omega), if_pos (show badU vv u = true from hc3)], S.bl⟩
  ·
   refine Run.seq ?_
   refine Run.region ?_
   refine fld (o' := 3) rfl fo73_3 rfl rfl rfl rfl ?_
   refine ld1 rfl T26 S (i := 0) rfl rfl rfl rfl rfl ?_
   refine lenS rfl hd.2 Tryd.underlying26 rfl rfl rfl ?_
   refine add1 rfl rfl rfl (w64 (by omega)) ?_
   refine gtr1 rfl rfl rfl ?_
   refine asg1 rfl rfl ?_
   refine Ro.nil ?_
   refine Nrm.code ?_
   refine Run.cond rfl (fun hc5 => ?_) (fun hc5 => ?_)
   ·
    try simp only [Bool.or_eq_true, Bool.and_eq_true, Bool.or_eq_false_iff, Bool.and_eq_false_iff, decide_eq_true_eq, decide_eq_false_iff_not, Bool.not_eq_true', Bool.not_eq_false', Bool.not_eq_true, Bool.not_eq_false] at hc5
    refine Run.seq ?_
    refine Run.region ?_
    refine asg1 rfl rfl ?_
    refine Ro.nil ?_
    refine Nrm.code ?_
    refine Run.ret ?_
    refine Rt.one rfl rfl ?_
    exact ⟨by rw [chkU, if_neg (by omega), if_neg (by rw [show badU vv u = false from hc3]; simp), if_pos (by omega)], S.bl⟩
   ·
    try simp only [Bool.or_eq_true, Bool.and_eq_true, Bool.or_eq_false_iff, Bool.and_eq_false_iff, decide_eq_true_eq, decide_eq_false_iff_not, Bool.not_eq_true', Bool.not_eq_false', Bool.not_eq_true, Bool.not_eq_false] at hc5
    refine Run.skip ?_
    refine Nrm.blk ?_
    refine Nrm.code ?_
    refine Run.seq ?_
    refine Run.region ?_
    refine asg1 rfl rfl ?_
    refine Ro.nil ?_
    refine Nrm.code ?_
    refine Run.ret ?_
    refine Rt.one rfl rfl ?_
    exact ⟨by rw [chkU, if_neg (by omega), if_neg (by rw [show badU vv u = false from hc3]; simp), if_neg (by omega)], S.bl⟩
set_option maxHeartbeats 1000000 in
theorem c59 (a b : Udp) (d1 d2 : Value) (w : World) (hd : BS [] w d1 a.data) (he : BS [] w d2 b.data) :
  CallsD Tryd.prog 59 #[.agg (encUdp a d1).toArray, .agg (encUdp b d2).toArray] w (.bool (sameU a b)) := by
 refine enter Tryd.func59 rfl Tryd.ntmps59 (l := [(0, [], _), (1, [], _)]) rfl rfl ?_
 have S := St.refl [] w
 refine Run.seq ?_
 refine Run.region ?_
 refine boxA rfl S rfl ?_
 intro b2 w1 hb2 S B_
 refine boxA rfl S rfl ?_
 intro b3 w2 hb3 S B_
 refine asg1 rfl rfl ?_
 refine Ro.nil ?_
 refine Nrm.code ?_
 refine Run.seq ?_
 refine Run.region ?_
 refine fld (o' := 0) rfl fo73_0 rfl rfl rfl rfl ?_
 refine ld1 rfl T3 S (i := 1) rfl rfl rfl rfl rfl ?_
 refine fld (o' := 0) rfl fo73_0 rfl rfl rfl rfl ?_
 refine ld1 rfl T3 S (i := 0) rfl rfl rfl rfl rfl ?_
 refine eql1 rfl rfl rfl ?_
 refine mv1 rfl rfl ?_
 refine fld (o' := 1) rfl fo73_1 rfl rfl rfl rfl ?_
 refine ld1 rfl T3 S (i := 1) rfl rfl rfl rfl rfl ?_
 refine fld (o' := 1) rfl fo73_1 rfl rfl rfl rfl ?_
 refine ld1 rfl T3 S (i := 0) rfl rfl rfl rfl rfl ?_
 refine eql rfl rfl rfl rfl rfl rfl ?_
 refine pkA rfl rfl rfl rfl rfl rfl ?_
 refine mv1 rfl rfl ?_
 refine fld (o' := 2) rfl fo73_2 rfl rfl rfl rfl ?_
 refine ld1 rfl T4 S (i := 1) rfl rfl rfl rfl rfl ?_
 refine fld (o' := 2) rfl fo73_2 rfl rfl rfl rfl ?_
 refine ld1 rfl T4 S (i := 0) rfl rfl rfl rfl rfl ?_
 refine eqB rfl rfl Tryd.underlying4 rfl rfl rfl rfl ?_
 refine pkA rfl rfl rfl rfl rfl rfl ?_
 refine mv1 rfl rfl ?_
 refine fld (o' := 3) rfl fo73_3 rfl rfl rfl rfl ?_
 refine ld1 rfl T26 S (i := 1) rfl rfl rfl rfl rfl ?_
 refine fld (o' := 3) rfl fo73_3 rfl rfl rfl rfl ?_
 refine ld1 rfl T26 S (i := 0) rfl rfl rfl rfl rfl ?_
 refine calg (vs := [_, _]) rfl ⟨⟨_, _, rfl, rfl⟩, ⟨_, _, rfl, rfl⟩, trivial⟩ k37 rfl (fun hG => c37 _ _ _ _ _ (hd.now S) (he.now S)) ?_
 intro w3 B_; have S := S.call B_
 refine pkA rfl rfl rfl rfl rfl rfl ?_
 refine asg1 rfl rfl ?_
 refine Ro.nil ?_
 refine Nrm.code ?_
 refine Run.ret ?_
 refine Rt.one rfl rfl ?_
 exact ⟨rfl, S.bl⟩
end Go.Proofs.YtkahmepenjhcpaaDoor.W
/- Contracts: UDP written. No statement of the seat is proved here. -/
namespace Go.Proofs.YtkahmepenjhcpaaDoor.W
open Go
set_option linter.unusedSimpArgs false
set_option linter.unusedVariables false
theorem putUE_fit {s d : IP} {u : Udp} (h : fitE s d = 0) : putUE s d u = chkU s.v u := by unfold putUE; rw [if_pos h]
theorem putUE_no {s d : IP} {u : Udp} (h : fitE s d ≠ 0) : putUE s d u = fitE s d := by unfold putUE; rw [if_neg h]
set_option maxHeartbeats 1000000 in
theorem c55 (s d : IP) (u : Udp) (dv : Value) (w : World) (hs : s.ok) (ht : d.ok) (hd : BS [] w dv u.data) (hl : u.data.length ≤ 1099511627776) (hg1 : GV [] w 1 163 (W16.map i64)) :
  CallsV Tryd.prog 55 #[.agg (encIP s).toArray, .agg (encIP d).toArray, .agg (encUdp u dv).toArray] w (fun r w' => ∃ v, r = .tuple #[v, .int .i64 (putUE s d u)] ∧ FB w w' v (putUL s d u)) := by
 refine enter Tryd.func55 rfl Tryd.ntmps55 (l := [(0, [], _), (1, [], _), (2, [], _)]) rfl rfl ?_
 have S := St.refl [] w
 have hpb := putUE_bd s d u
 have hfo := fitE_or s d
 refine Run.seq ?_
 refine Run.region ?_
 refine boxA rfl S rfl ?_
 intro b3 w1 hb3 S B_
 refine boxA rfl S rfl ?_
 intro b4 w2 hb4 S B_
 refine boxA rfl S rfl ?_
 intro b5 w3 hb5 S B_
 refine asg1 rfl rfl ?_
 refine asg1 rfl rfl ?_
 refine Ro.nil ?_
 refine Nrm.code ?_
 refine Run.seq ?_
 refine Run.region ?_
 refine ldW rfl T24 S (i := 2) rfl rfl rfl rfl rfl ?_
 refine ldW rfl T24 S (i := 1) rfl rfl rfl rfl rfl ?_
 refine calg (vs := [_, _]) rfl ⟨⟨_, _, rfl, rfl⟩, ⟨_, _, rfl, rfl⟩, trivial⟩ k123 rfl (fun hG => c123 s d _ hs ht) ?_
 intro w4 B_; have S := S.call B_
 refine asg1 rfl rfl ?_
 refine Ro.nil ?_
 refine Nrm.code ?_
 refine Run.cut (γ := Unit) (fun g w_ => St [] w [.var b5 73 (encUdp u dv), .var b4 24 (encIP d), .var b3 24 (encIP s)] w_) (fun g => [(3, [], .pointer (some ⟨b3, 0, none⟩)), (4, [], .pointer (some ⟨b4, 0, none⟩)), (5, [], .pointer (some ⟨b5, 0, none⟩)), (8, [], .int .i64 (putUE s d u))]) ?_ ?_
 ·
  refine Run.seq ?_
  refine Run.region ?_
  refine mv1 rfl rfl ?_
  refine eql1 rfl rfl rfl ?_
  refine Ro.nil ?_
  refine Nrm.code ?_
  refine Run.cond rfl (fun hc2 => ?_) (fun hc2 => ?_)
  ·
   try simp only [Bool.or_eq_true, Bool.and_eq_true, Bool.or_eq_false_iff, Bool.and_eq_false_iff, decide_eq_true_eq, decide_eq_false_iff_not, Bool.not_eq_true', Bool.not_eq_false', Bool.not_eq_true, Bool.not_eq_false] at hc2
   refine Run.region ?_
   refine fld (o' := 0) rfl fo24_0 rfl rfl rfl rfl ?_
   refine ld1 rfl T3 S (i := 2) rfl rfl rfl rfl rfl ?_
   refine ldW rfl T73 S (i := 0) rfl rfl rfl rfl rfl ?_
   refine calg (vs := [_, _]) rfl ⟨⟨_, _, rfl, rfl⟩, ⟨_, _, rfl, rfl⟩, trivial⟩ k60 rfl (fun hG => c60 _ u dv _ (hd.now S) (by omega)) ?_
   intro w5 B_; have S := S.call B_
   refine asg1 rfl rfl ?_
   refine Ro.nil ?_
   exact Nrm.cut () S ⟨rfl, rfl, rfl, (by rw [putUE_fit hc2]; rfl), trivial⟩
  ·
   try simp only [Bool.or_eq_true, Bool.and_eq_true, Bool.or_eq_false_iff, Bool.and_eq_false_iff, decide_eq_true_eq, decide_eq_false_iff_not, Bool.not_eq_true', Bool.not_eq_false', Bool.not_eq_true, Bool.not_eq_false] at hc2
   refine Run.skip ?_
   exact Nrm.cut () S ⟨rfl, rfl, rfl, (by rw [putUE_no hc2]; rfl), trivial⟩
 ·
  rintro g4 w5 S
  refine Run.seq ?_
  refine Run.seq ?_
  refine Run.region ?_
  refine mv1 rfl rfl ?_
  refine neq1 rfl rfl rfl ?_
  refine Ro.nil ?_
  refine Nrm.code ?_
  refine Run.cond rfl (fun hc4 => ?_) (fun hc4 => ?_)
  ·
   try simp only [Bool.or_eq_true, Bool.and_eq_true, Bool.or_eq_false_iff, Bool.and_eq_false_iff, decide_eq_true_eq, decide_eq_false_iff_not, Bool.not_eq_true', Bool.not_eq_false', Bool.not_eq_true, Bool.not_eq_false] at hc4
   refine Run.seq ?_
   refine Run.region ?_
   refine mv1 rfl rfl ?_
   refine asg1 rfl rfl ?_
   refine asg1 rfl rfl ?_
   refine Ro.nil ?_
   refine Nrm.code ?_
   refine Run.ret ?_
   refine Rt.two rfl rfl rfl ?_
   have hl0 : putUL s d u = [] := by unfold putUL; rw [if_neg (by omega)]
   exact ⟨.slice none 0 0, by rfl, by rw [hl0]; exact (S.nilB).toFB (i := 0) rfl⟩
  ·
   try simp only [Bool.or_eq_true, Bool.and_eq_true, Bool.or_eq_false_iff, Bool.and_eq_false_iff, decide_eq_true_eq, decide_eq_false_iff_not, Bool.not_eq_true', Bool.not_eq_false', Bool.not_eq_true, Bool.not_eq_false] at hc4
   have hpe : putUE s d u = 0 := by omega
   have hz := putUE_zero hpe
   have hzz := chkU_zero hz.2
   have hbB := udpB0_byt hz.2 hd.1
   have hlB := udpB0_len u
   refine Run.skip ?_
   refine Nrm.code ?_
   refine Run.seq ?_
   refine Run.region ?_
   refine ldG hg1 S T163 rfl rfl ?_
   refine alc T163 S rfl ?_
   intro b9 w6 hb9 S B_
   refine stW rfl rfl T163 rfl rfl (by simp [Value.oneCell']) S (i := 0) rfl rfl ?_
   intro w7 S
   refine Ro.nil ?_
   refine Nrm.code ?_
   refine Run.seq ?_
   refine Run.heldB (by kernel_rfl) S [true, true, true, true] rfl rfl rfl ?_
   intro w8 BD S SC
   refine Hb.take (i := 0) SC (fun _ _ S B => S.call B) Pp.body rfl (by kernel_rfl) (by kernel_rfl) (by kernel_rfl) rfl rfl ?_
   refine qslAT rfl Tryd.underlying163 T3 rfl rfl rfl (i2 := none) trivial rfl (by decide) (by decide) ?_
   refine Hb.back ?_
   refine Hb.take (i := 1) SC (fun _ _ S B => S.call B) Pp.body rfl (by kernel_rfl) (by kernel_rfl) (by kernel_rfl) rfl rfl ?_
   refine qfld (o' := 0) rfl fo73_0 rfl rfl rfl rfl ?_
   refine Hb.back ?_
   refine Hb.take (i := 2) SC (fun _ _ S B => S.call B) Pp.body rfl (by kernel_rfl) (by kernel_rfl) (by kernel_rfl) rfl rfl ?_
   refine qld1 rfl T3 (fun _ S => S) (i := 1) rfl rfl rfl rfl rfl ?_
   refine Hb.back ?_
   refine Hb.take (i := 3) SC (fun _ _ S B => S.call B) Pp.body rfl (by kernel_rfl) (by kernel_rfl) (by kernel_rfl) rfl rfl ?_
   refine qfld (o' := 1) rfl fo73_1 rfl rfl rfl rfl ?_
   refine Hb.back ?_
   refine Hb.take (i := 4) SC (fun _ _ S B => S.call B) Pp.body rfl (by kernel_rfl) (by kernel_rfl) (by kernel_rfl) rfl rfl ?_
   refine qld1 rfl T3 (fun _ S => S) (i := 1) rfl rfl rfl rfl rfl ?_
   refine Hb.back ?_
   refine Hb.take (i := 5) SC (fun _ _ S B => S.call B) Pp.body rfl (by kernel_rfl) (by kernel_rfl) (by kernel_rfl) rfl rfl ?_
   refine qfld (o' := 3) rfl fo73_3 rfl rfl rfl rfl ?_
   refine Hb.back ?_
   refine Hb.take (i := 6) SC (fun _ _ S B => S.call B) Pp.body rfl (by kernel_rfl) (by kernel_rfl) (by kernel_rfl) rfl rfl ?_
   refine qld1 rfl T26 (fun _ S => S) (i := 1) rfl rfl rfl rfl rfl ?_
   refine Hb.back ?_
   refine Hb.take (i := 7) SC (fun _ _ S B => S.call B) Pp.body rfl (by kernel_rfl) (by kernel_rfl) (by kernel_rfl) rfl rfl ?_
   refine qlenS rfl hd.2 Tryd.underlying26 rfl rfl rfl ?_
   refine Hb.back ?_
   refine Hb.take (i := 8) SC (fun _ _ S B => S.call B) Pp.body rfl (by kernel_rfl) (by kernel_rfl) (by kernel_rfl) rfl rfl ?_
   refine qadd rfl rfl rfl rfl rfl rfl (fun _ => w64 (by omega)) ?_
   refine Hb.back ?_
   refine Hb.one (i := 9) (by kernel_rfl) rfl rfl ?_
   intro w9 BD; have S := S.call BD
   refine bsl e132 (qs := [(_, _), (_, _), (_, _), (_, _)]) ⟨⟨_, _, _, rfl, rfl, rfl, rfl, by first | (simp [Value.cells]; done) | simp [Value.cells, encIP]⟩, ⟨_, _, _, rfl, rfl, rfl, rfl, by first | (simp [Value.cells]; done) | simp [Value.cells, encIP]⟩, ⟨_, _, _, rfl, rfl, rfl, rfl, by first | (simp [Value.cells]; done) | simp [Value.cells, encIP]⟩, ⟨_, _, _, rfl, rfl, rfl, rfl, by first | (simp [Value.cells]; done) | simp [Value.cells, encIP]⟩, trivial⟩ rfl rfl rfl rfl S ?_
   intro u38 w10 S B_
   have SC := S.pick [false, true, true, true, true] rfl
   refine Hb.on SC ?_
   refine Hb.one (i := 10) (by kernel_rfl) rfl rfl ?_
   intro w11 BD; have S := S.call BD
   refine call (vs := [_, _]) ⟨⟨_, _, rfl, rfl⟩, ⟨_, _, rfl, rfl⟩, trivial⟩ k95 rfl (c95 _ _ W16 [u.sport, u.dport, 8 + (u.data.length : Int), 0] _ (S.varSl (i := 1) (m := 4) (sz := 1) rfl rfl rfl (by decide)) (S.isI (l := [u.sport, u.dport, 8 + (u.data.length : Int), 0]) (i := 0) rfl) (by decide) (by decide) (by decide) rfl (udp8_pack hz.2)) ?_
   rintro _ w12 ⟨u10, out, rfl, hF, hpk⟩
   have hout : out = udp8 u := bits_of_eq hpk.1 hpk.2.1 hpk.2.2.2 rfl (udp8_byt hz.2) (udp8_bits hz.2)
   subst hout
   have S := S.fb hF
   have SC := S.pick [false, false, true, true, true, true] rfl
   refine Hb.on SC ?_
   refine Hb.take (i := 11) SC (fun _ _ S B => S.call B) Pp.body rfl (by kernel_rfl) (by kernel_rfl) (by kernel_rfl) rfl rfl ?_
   refine qmv rfl rfl rfl rfl ?_
   refine Hb.back ?_
   refine Hb.take (i := 12) SC (fun _ _ S B => S.call B) Pp.body rfl (by kernel_rfl) (by kernel_rfl) (by kernel_rfl) rfl rfl ?_
   refine qextr rfl rfl rfl rfl rfl ?_
   refine Hb.back ?_
   refine Hb.take (i := 13) SC (fun _ _ S B => S.call B) Pp.body rfl (by kernel_rfl) (by kernel_rfl) (by kernel_rfl) rfl rfl ?_
   refine qextr rfl rfl rfl rfl rfl ?_
   refine Hb.back ?_
   refine Hb.take (i := 14) SC (fun _ _ S B => S.call B) Pp.body rfl (by kernel_rfl) (by kernel_rfl) (by kernel_rfl) rfl rfl ?_
   refine qasg rfl rfl rfl rfl ?_
   refine Hb.back ?_
   refine Hb.take (i := 15) SC (fun _ _ S B => S.call B) Pp.body rfl (by kernel_rfl) (by kernel_rfl) (by kernel_rfl) rfl rfl ?_
   refine qasg rfl rfl rfl rfl ?_
   refine Hb.back ?_
   refine Hb.done (by kernel_rfl) ?_
   intro w13 BD; have S := S.call BD
   refine Nrm.code ?_
   refine Run.seq ?_
   refine Run.region ?_
   refine mv1 rfl rfl ?_
   refine fld (o' := 3) rfl fo73_3 rfl rfl rfl rfl ?_
   refine ld1 rfl T26 S (i := 3) rfl rfl rfl rfl rfl ?_
   refine apB rfl rfl e26 (hd.now S) S (i := 0) rfl rfl (fun _ => rfl) (by simp [udp8]; omega) ?_
   intro u10b w14 S B_
   have S : St [] w (oB u10b (udpB0 u) :: _) w14 := S
   refine asg1 rfl rfl ?_
   refine Ro.nil ?_
   refine Nrm.code ?_
   refine Run.seq ?_
   refine Run.seq ?_
   refine Run.region ?_
   refine fld (o' := 2) rfl fo73_2 rfl rfl rfl rfl ?_
   refine ld1 rfl T4 S (i := 3) rfl rfl rfl rfl rfl ?_
   refine Ro.nil ?_
   refine Nrm.code ?_
   refine Run.cond rfl (fun hc9 => ?_) (fun hc9 => ?_)
   ·
    try simp only [Bool.or_eq_true, Bool.and_eq_true, Bool.or_eq_false_iff, Bool.and_eq_false_iff, decide_eq_true_eq, decide_eq_false_iff_not, Bool.not_eq_true', Bool.not_eq_false', Bool.not_eq_true, Bool.not_eq_false] at hc9
    refine Run.seq ?_
    refine Run.region ?_
    refine mv1 rfl rfl ?_
    refine asg1 rfl rfl ?_
    refine asg1 rfl rfl ?_
    refine Ro.nil ?_
    refine Nrm.code ?_
    refine Run.ret ?_
    refine Rt.two rfl rfl rfl ?_
    have hl0 : putUL s d u = udpB0 u := by unfold putUL putUB; rw [if_pos hpe, if_pos hc9]
    exact ⟨_, by rw [hpe], by rw [hl0]; exact S.toFB (i := 0) rfl⟩
   ·
    try simp only [Bool.or_eq_true, Bool.and_eq_true, Bool.or_eq_false_iff, Bool.and_eq_false_iff, decide_eq_true_eq, decide_eq_false_iff_not, Bool.not_eq_true', Bool.not_eq_false', Bool.not_eq_true, Bool.not_eq_false] at hc9
    have hCb := udpC_bd (s := s) (d := d) hs ht hbB
    have hpb2 := psum_bd (p := 17) hs ht hbB
    refine Run.skip ?_
    refine Nrm.code ?_
    refine Run.seq ?_
    refine Run.region ?_
    refine ldW rfl T24 S (i := 5) rfl rfl rfl rfl rfl ?_
    refine ldW rfl T24 S (i := 4) rfl rfl rfl rfl rfl ?_
    refine mv1 rfl rfl ?_
    refine lenS rfl (S.slI (i := 0) rfl) Tryd.underlying26 rfl rfl rfl ?_
    refine call (vs := [_, _, _, _]) ⟨⟨_, _, rfl, rfl⟩, ⟨_, _, rfl, rfl⟩, ⟨_, _, rfl, rfl⟩, ⟨_, _, rfl, rfl⟩, trivial⟩ k58 rfl (c58 _ _ _ _ _ hs ht (by unfold inI; omega)) ?_
    rintro _ w15 ⟨up, rfl, hF⟩
    have S := S.fb hF
    refine mv1 rfl rfl ?_
    refine extr1 rfl rfl rfl ?_
    refine extr1 rfl rfl rfl ?_
    refine asg1 rfl rfl ?_
    refine asg1 rfl rfl ?_
    refine Ro.nil ?_
    refine Nrm.code ?_
    refine Run.seq ?_
    refine Run.region ?_
    refine mv1 rfl rfl ?_
    refine mv1 rfl rfl ?_
    refine bsl e102 (qs := [(_, _), (_, _)]) ⟨⟨_, _, _, rfl, rfl, cells1 (S.slI (i := 0) rfl).one, rfl, List.cons_ne_nil _ _⟩, ⟨_, _, _, rfl, rfl, cells1 (S.slI (i := 1) rfl).one, rfl, List.cons_ne_nil _ _⟩, trivial⟩ rfl rfl rfl rfl S ?_
    intro u59 w16 S B_
    have hck : CallsD Tryd.prog 97 #[u59] w16 (.int .i64 (65535 - psum s d 17 (udpB0 u))) := by
     have := c97 u59 [pseL s d 17 (udpB0 u).length, udpB0 u] w16 ⟨[_, _], S.slI (i := 0) rfl, S.bsI (i := 1) rfl (pseL_byt hs ht _ _), S.bsI (i := 2) rfl hbB, trivial⟩ (by have := (pseL_len s d 17 (udpB0 u).length).1; simp; omega) (by simp)
     rw [show [pseL s d 17 (udpB0 u).length, udpB0 u].flatten = pseL s d 17 (udpB0 u).length ++ udpB0 u from by simp] at this
     exact this
    refine calg (vs := [_]) rfl ⟨⟨_, _, rfl, rfl⟩, trivial⟩ k97 rfl (fun hG => hck) ?_
    intro w17 B_; have S := S.call B_
    refine asg1 rfl rfl ?_
    refine Ro.nil ?_
    refine Nrm.code ?_
    refine Run.cut (γ := Unit) (fun g w_ => St [] w [oB u10b (udpB0 u)] w_) (fun g => [(10, [], u10b), (14, [], .int .i64 (udpC s d u))]) ?_ ?_
    ·
     refine Run.seq ?_
     refine Run.region ?_
     refine mv1 rfl rfl ?_
     refine eql1 rfl rfl rfl ?_
     refine Ro.nil ?_
     refine Nrm.code ?_
     refine Run.cond rfl (fun hc13 => ?_) (fun hc13 => ?_)
     ·
      try simp only [Bool.or_eq_true, Bool.and_eq_true, Bool.or_eq_false_iff, Bool.and_eq_false_iff, decide_eq_true_eq, decide_eq_false_iff_not, Bool.not_eq_true', Bool.not_eq_false', Bool.not_eq_true, Bool.not_eq_false] at hc13
      refine Run.region ?_
      refine asg1 rfl rfl ?_
      refine Ro.nil ?_
      exact Nrm.cut () (S.pick [false, false, true, false, false, false, false, false] rfl) ⟨rfl, (by unfold udpC; rw [if_pos (by omega)]; rfl), trivial⟩
     ·
      try simp only [Bool.or_eq_true, Bool.and_eq_true, Bool.or_eq_false_iff, Bool.and_eq_false_iff, decide_eq_true_eq, decide_eq_false_iff_not, Bool.not_eq_true', Bool.not_eq_false', Bool.not_eq_true, Bool.not_eq_false] at hc13
      refine Run.skip ?_
      exact Nrm.cut () (S.pick [false, false, true, false, false, false, false, false] rfl) ⟨rfl, (by unfold udpC; rw [if_neg (by omega)]; rfl), trivial⟩
    ·
     rintro g15 w18 S
     refine Run.seq ?_
     refine Run.region ?_
     refine mv1 rfl rfl ?_
     refine mv1 rfl rfl ?_
     refine mv1 rfl rfl ?_
     refine shr rfl rfl rfl rfl rfl rfl (fun _ => by decide) (fun _ => sh8 _) ?_
     refine cvi1 rfl rfl Tryd.underlying3 Tryd.underlying5 (w8of rfl (by omega)) ?_
     refine mv1 rfl rfl ?_
     refine cvi1 rfl rfl Tryd.underlying3 Tryd.underlying5 (w8m _) ?_
     refine ixa rfl rfl (S.slI (i := 0) rfl) e26 rfl rfl rfl rfl (fun _ => by omega) ?_
     refine stB rfl rfl T5 S (i := 0) rfl (by omega) rfl ?_
     intro w19 S
     refine ixa rfl rfl (S.slI (i := 0) rfl) e26 rfl rfl rfl rfl (fun _ => by rw [List.length_set]; omega) ?_
     refine stB rfl rfl T5 S (i := 0) rfl (by rw [List.length_set]; omega) rfl ?_
     intro w20 S
     refine Ro.nil ?_
     refine Nrm.code ?_
     refine Run.seq ?_
     refine Run.region ?_
     refine mv1 rfl rfl ?_
     refine asg1 rfl rfl ?_
     refine asg1 rfl rfl ?_
     refine Ro.nil ?_
     refine Nrm.code ?_
     refine Run.ret ?_
     refine Rt.two rfl rfl rfl ?_
     have hl0 : putUL s d u = ((udpB0 u).set 6 (udpC s d u / 256)).set 7 (udpC s d u % 256) := by unfold putUL putUB; rw [if_pos hpe, if_neg (by simp [hc9])]
     exact ⟨_, by rw [hpe], by rw [hl0]; exact S.toFB (i := 0) rfl⟩
set_option maxHeartbeats 1000000 in
theorem c80 (s d : IP) (u : Udp) (dv : Value) (w : World) (hs : s.ok) (ht : d.ok) (hd : BS [] w dv u.data) (hl : u.data.length ≤ 1099511627776) :
  CallsV Tryd.prog 80 #[.agg (encIP s).toArray, .agg (encIP d).toArray, .agg (encUdp u dv).toArray] w (fun r w' => ∃ v, r = .tuple #[v, .int .i64 (putUE s d u)] ∧ FB w w' v (putUL s d u)) := by
 refine enter Tryd.func80 rfl Tryd.ntmps80 (l := [(0, [], _), (1, [], _), (2, [], _)]) rfl rfl ?_
 have S := St.refl [] w
 have hpb := putUE_bd s d u
 have hfo := fitE_or s d
 refine Run.seq ?_
 refine Run.region ?_
 refine boxA rfl S rfl ?_
 intro b3 w1 hb3 S B_
 refine boxA rfl S rfl ?_
 intro b4 w2 hb4 S B_
 refine boxA rfl S rfl ?_
 intro b5 w3 hb5 S B_
 refine asg1 rfl rfl ?_
 refine asg1 rfl rfl ?_
 refine Ro.nil ?_
 refine Nrm.code ?_
 refine Run.seq ?_
 refine Run.region ?_
 refine ldW rfl T24 S (i := 2) rfl rfl rfl rfl rfl ?_
 refine ldW rfl T24 S (i := 1) rfl rfl rfl rfl rfl ?_
 refine calg (vs := [_, _]) rfl ⟨⟨_, _, rfl, rfl⟩, ⟨_, _, rfl, rfl⟩, trivial⟩ k130 rfl (fun hG => c130 s d _ hs ht) ?_
 intro w4 B_; have S := S.call B_
 refine asg1 rfl rfl ?_
 refine Ro.nil ?_
 refine Nrm.code ?_
 refine Run.seq ?_
 refine Run.seq ?_
 refine Run.region ?_
 refine mv1 rfl rfl ?_
 refine nt1 rfl rfl ?_
 refine Ro.nil ?_
 refine Nrm.code ?_
 refine Run.cond rfl (fun hc2 => ?_) (fun hc2 => ?_)
 ·
  try simp only [Bool.or_eq_true, Bool.and_eq_true, Bool.or_eq_false_iff, Bool.and_eq_false_iff, decide_eq_true_eq, decide_eq_false_iff_not, Bool.not_eq_true', Bool.not_eq_false', Bool.not_eq_true, Bool.not_eq_false] at hc2
  have hf20 : fitE s d = 20 := by omega
  have hpe : putUE s d u = 20 := by rw [putUE_no (by omega)]; exact hf20
  refine Run.seq ?_
  refine Run.region ?_
  refine asg1 rfl rfl ?_
  refine asg1 rfl rfl ?_
  refine Ro.nil ?_
  refine Nrm.code ?_
  refine Run.ret ?_
  refine Rt.two rfl rfl rfl ?_
  have hl0 : putUL s d u = [] := by unfold putUL; rw [if_neg (by omega)]
  exact ⟨.slice none 0 0, by first | rfl | (rw [show putUE s d u = 20 from by omega]) | (rw [hpe]), by rw [hl0]; exact (S.nilB).toFB (i := 0) rfl⟩
 ·
  try simp only [Bool.or_eq_true, Bool.and_eq_true, Bool.or_eq_false_iff, Bool.and_eq_false_iff, decide_eq_true_eq, decide_eq_false_iff_not, Bool.not_eq_true', Bool.not_eq_false', Bool.not_eq_true, Bool.not_eq_false] at hc2
  have hf0 : fitE s d = 0 := by omega
  refine Run.skip ?_
  refine Nrm.code ?_
  refine Run.seq ?_
  refine Run.region ?_
  refine fld (o' := 0) rfl fo24_0 rfl rfl rfl rfl ?_
  refine ld1 rfl T3 S (i := 2) rfl rfl rfl rfl rfl ?_
  refine ldW rfl T73 S (i := 0) rfl rfl rfl rfl rfl ?_
  refine calg (vs := [_, _]) rfl ⟨⟨_, _, rfl, rfl⟩, ⟨_, _, rfl, rfl⟩, trivial⟩ k85 rfl (fun hG => c85 _ u dv _ (hd.now S) (by omega)) ?_
  intro w5 B_; have S := S.call B_
  refine asg1 rfl rfl ?_
  refine Ro.nil ?_
  refine Nrm.code ?_
  refine Run.seq ?_
  refine Run.seq ?_
  refine Run.region ?_
  refine mv1 rfl rfl ?_
  refine neq1 rfl rfl rfl ?_
  refine Ro.nil ?_
  refine Nrm.code ?_
  refine Run.cond rfl (fun hc5 => ?_) (fun hc5 => ?_)
  ·
   try simp only [Bool.or_eq_true, Bool.and_eq_true, Bool.or_eq_false_iff, Bool.and_eq_false_iff, decide_eq_true_eq, decide_eq_false_iff_not, Bool.not_eq_true', Bool.not_eq_false', Bool.not_eq_true, Bool.not_eq_false] at hc5
   have hpe : putUE s d u = chkU s.v u := putUE_fit hf0
   refine Run.seq ?_
   refine Run.region ?_
   refine mv1 rfl rfl ?_
   refine asg1 rfl rfl ?_
   refine asg1 rfl rfl ?_
   refine Ro.nil ?_
   refine Nrm.code ?_
   refine Run.ret ?_
   refine Rt.two rfl rfl rfl ?_
   have hl0 : putUL s d u = [] := by unfold putUL; rw [if_neg (by omega)]
   exact ⟨.slice none 0 0, by first | rfl | (rw [show putUE s d u = 20 from by omega]) | (rw [hpe]), by rw [hl0]; exact (S.nilB).toFB (i := 0) rfl⟩
  ·
   try simp only [Bool.or_eq_true, Bool.and_eq_true, Bool.or_eq_false_iff, Bool.and_eq_false_iff, decide_eq_true_eq, decide_eq_false_iff_not, Bool.not_eq_true', Bool.not_eq_false', Bool.not_eq_true, Bool.not_eq_false] at hc5
   have hpe : putUE s d u = 0 := by rw [putUE_fit hf0]; omega
   have hz := putUE_zero hpe
   have hzz := chkU_zero hz.2
   have hbB := udpB0_byt hz.2 hd.1
   have hlB := udpB0_len u
   refine Run.skip ?_
   refine Nrm.code ?_
   refine Run.seq ?_
   refine Run.region ?_
   refine asg1 rfl rfl ?_
   have S := S.nilB
   refine Ro.nil ?_
   refine Nrm.code ?_
   refine Run.seq ?_
   refine Run.region ?_
   refine mv1 rfl rfl ?_
   refine fld (o' := 0) rfl fo73_0 rfl rfl rfl rfl ?_
   refine ld1 rfl T3 S (i := 1) rfl rfl rfl rfl rfl ?_
   refine call (vs := [_, _, _]) ⟨⟨_, _, rfl, rfl⟩, ⟨_, _, rfl, rfl⟩, ⟨_, _, rfl, rfl⟩, trivial⟩ k134 rfl (c134 _ _ _ 2 _ (S.hold_at (i := 0) rfl) (by decide) (by omega) (by first | omega | (simp only [List.length_append, List.length_cons, List.length_nil, beN_len]; omega))) ?_
   rintro a8 w6 hT
   have S := S.tn (i := 0) rfl rfl hT
   refine asg1 rfl rfl ?_
   refine Ro.nil ?_
   refine Nrm.code ?_
   refine Run.seq ?_
   refine Run.region ?_
   refine mv1 rfl rfl ?_
   refine fld (o' := 1) rfl fo73_1 rfl rfl rfl rfl ?_
   refine ld1 rfl T3 S (i := 1) rfl rfl rfl rfl rfl ?_
   refine call (vs := [_, _, _]) ⟨⟨_, _, rfl, rfl⟩, ⟨_, _, rfl, rfl⟩, ⟨_, _, rfl, rfl⟩, trivial⟩ k134 rfl (c134 _ _ _ 2 _ (S.hold_at (i := 0) rfl) (by decide) (by omega) (by first | omega | (simp only [List.length_append, List.length_cons, List.length_nil, beN_len]; omega))) ?_
   rintro a9 w7 hT
   have S := S.tn (i := 0) rfl rfl hT
   refine asg1 rfl rfl ?_
   refine Ro.nil ?_
   refine Nrm.code ?_
   refine Run.seq ?_
   refine Run.region ?_
   refine mv1 rfl rfl ?_
   refine fld (o' := 3) rfl fo73_3 rfl rfl rfl rfl ?_
   refine ld1 rfl T26 S (i := 1) rfl rfl rfl rfl rfl ?_
   refine lenS rfl hd.2 Tryd.underlying26 rfl rfl rfl ?_
   refine add1 rfl rfl rfl (w64 (by omega)) ?_
   refine call (vs := [_, _, _]) ⟨⟨_, _, rfl, rfl⟩, ⟨_, _, rfl, rfl⟩, ⟨_, _, rfl, rfl⟩, trivial⟩ k134 rfl (c134 _ _ _ 2 _ (S.hold_at (i := 0) rfl) (by decide) (by omega) (by first | omega | (simp only [List.length_append, List.length_cons, List.length_nil, beN_len]; omega))) ?_
   rintro a10 w8 hT
   have S := S.tn (i := 0) rfl rfl hT
   refine asg1 rfl rfl ?_
   refine Ro.nil ?_
   refine Nrm.code ?_
   refine Run.seq ?_
   refine Run.region ?_
   refine mv1 rfl rfl ?_
   refine call (vs := [_, _, _]) ⟨⟨_, _, rfl, rfl⟩, ⟨_, _, rfl, rfl⟩, ⟨_, _, rfl, rfl⟩, trivial⟩ k134 rfl (c134 _ _ _ 2 _ (S.hold_at (i := 0) rfl) (by decide) (by omega) (by first | omega | (simp only [List.length_append, List.length_cons, List.length_nil, beN_len]; omega))) ?_
   rintro a11 w9 hT
   have S := S.tn (i := 0) rfl rfl hT
   refine asg1 rfl rfl ?_
   refine Ro.nil ?_
   refine Nrm.code ?_
   refine Run.seq ?_
   refine Run.region ?_
   refine mv1 rfl rfl ?_
   refine fld (o' := 3) rfl fo73_3 rfl rfl rfl rfl ?_
   refine ld1 rfl T26 S (i := 1) rfl rfl rfl rfl rfl ?_
   refine apB rfl rfl e26 (hd.now S) S (i := 0) rfl rfl (fun _ => rfl) (by simp [beN_len]; omega) ?_
   intro u10b w10 S B_
   have S2 := S; rw [udp8_be hz.2] at S2
   have S : St [] w (oB u10b (udpB0 u) :: _) w10 := S2
   refine asg1 rfl rfl ?_
   refine Ro.nil ?_
   refine Nrm.code ?_
   refine Run.seq ?_
   refine Run.seq ?_
   refine Run.region ?_
   refine fld (o' := 2) rfl fo73_2 rfl rfl rfl rfl ?_
   refine ld1 rfl T4 S (i := 1) rfl rfl rfl rfl rfl ?_
   refine Ro.nil ?_
   refine Nrm.code ?_
   refine Run.cond rfl (fun hc13 => ?_) (fun hc13 => ?_)
   ·
    try simp only [Bool.or_eq_true, Bool.and_eq_true, Bool.or_eq_false_iff, Bool.and_eq_false_iff, decide_eq_true_eq, decide_eq_false_iff_not, Bool.not_eq_true', Bool.not_eq_false', Bool.not_eq_true, Bool.not_eq_false] at hc13
    refine Run.seq ?_
    refine Run.region ?_
    refine mv1 rfl rfl ?_
    refine asg1 rfl rfl ?_
    refine asg1 rfl rfl ?_
    refine Ro.nil ?_
    refine Nrm.code ?_
    refine Run.ret ?_
    refine Rt.two rfl rfl rfl ?_
    have hl0 : putUL s d u = udpB0 u := by unfold putUL putUB; rw [if_pos hpe, if_pos hc13]
    exact ⟨_, by rw [hpe], by rw [hl0]; exact S.toFB (i := 0) rfl⟩
   ·
    try simp only [Bool.or_eq_true, Bool.and_eq_true, Bool.or_eq_false_iff, Bool.and_eq_false_iff, decide_eq_true_eq, decide_eq_false_iff_not, Bool.not_eq_true', Bool.not_eq_false', Bool.not_eq_true, Bool.not_eq_false] at hc13
    have hCb := udpC_bd (s := s) (d := d) hs ht hbB
    have hpb2 := psum_bd (p := 17) hs ht hbB
    refine Run.skip ?_
    refine Nrm.code ?_
    refine Run.seq ?_
    refine Run.region ?_
    refine ldW rfl T24 S (i := 3) rfl rfl rfl rfl rfl ?_
    refine ldW rfl T24 S (i := 2) rfl rfl rfl rfl rfl ?_
    refine mv1 rfl rfl ?_
    refine calg (vs := [_, _, _, _]) rfl ⟨⟨_, _, rfl, rfl⟩, ⟨_, _, rfl, rfl⟩, ⟨_, _, rfl, rfl⟩, ⟨_, _, rfl, rfl⟩, trivial⟩ k135 rfl (fun hG => c135 s d 17 _ (udpB0 u) _ hs ht (S.bsI (i := 0) rfl hbB) (by omega) (fit_pse hz.1 (by decide) (by omega))) ?_
    intro w11 B_; have S := S.call B_
    refine asg1 rfl rfl ?_
    refine Ro.nil ?_
    refine Nrm.code ?_
    refine Run.cut (γ := Unit) (fun g w_ => St [] w [oB u10b (udpB0 u)] w_) (fun g => [(10, [], u10b), (11, [], .int .i64 (udpC s d u))]) ?_ ?_
    ·
     refine Run.seq ?_
     refine Run.region ?_
     refine mv1 rfl rfl ?_
     refine eql1 rfl rfl rfl ?_
     refine Ro.nil ?_
     refine Nrm.code ?_
     refine Run.cond rfl (fun hc16 => ?_) (fun hc16 => ?_)
     ·
      try simp only [Bool.or_eq_true, Bool.and_eq_true, Bool.or_eq_false_iff, Bool.and_eq_false_iff, decide_eq_true_eq, decide_eq_false_iff_not, Bool.not_eq_true', Bool.not_eq_false', Bool.not_eq_true, Bool.not_eq_false] at hc16
      refine Run.region ?_
      refine asg1 rfl rfl ?_
      refine Ro.nil ?_
      exact Nrm.cut () (S.pick [true, false, false, false] rfl) ⟨rfl, (by unfold udpC; rw [if_pos (by omega)]; rfl), trivial⟩
     ·
      try simp only [Bool.or_eq_true, Bool.and_eq_true, Bool.or_eq_false_iff, Bool.and_eq_false_iff, decide_eq_true_eq, decide_eq_false_iff_not, Bool.not_eq_true', Bool.not_eq_false', Bool.not_eq_true, Bool.not_eq_false] at hc16
      refine Run.skip ?_
      exact Nrm.cut () (S.pick [true, false, false, false] rfl) ⟨rfl, (by unfold udpC; rw [if_neg (by omega)]; rfl), trivial⟩
    ·
     rintro g18 w12 S
     refine Run.seq ?_
     refine Run.region ?_
     refine mv1 rfl rfl ?_
     refine mv1 rfl rfl ?_
     refine quo1 rfl rfl rfl (by decide) (q64 (by omega)) ?_
     refine cvi1 rfl rfl Tryd.underlying3 Tryd.underlying5 (w8of rfl (by omega)) ?_
     refine ixa rfl rfl (S.slI (i := 0) rfl) e26 rfl rfl rfl rfl (fun _ => by omega) ?_
     refine stB rfl rfl T5 S (i := 0) rfl (by omega) rfl ?_
     intro w13 S
     refine Ro.nil ?_
     refine Nrm.code ?_
     refine Run.seq ?_
     refine Run.region ?_
     refine mv1 rfl rfl ?_
     refine mv1 rfl rfl ?_
     refine rem1 rfl rfl rfl (by decide) (r64 (by omega)) ?_
     refine cvi1 rfl rfl Tryd.underlying3 Tryd.underlying5 (w8of rfl (by omega)) ?_
     refine ixa rfl rfl (S.slI (i := 0) rfl) e26 rfl rfl rfl rfl (fun _ => by rw [List.length_set]; omega) ?_
     refine stB rfl rfl T5 S (i := 0) rfl (by rw [List.length_set]; omega) rfl ?_
     intro w14 S
     refine Ro.nil ?_
     refine Nrm.code ?_
     refine Run.seq ?_
     refine Run.region ?_
     refine mv1 rfl rfl ?_
     refine asg1 rfl rfl ?_
     refine asg1 rfl rfl ?_
     refine Ro.nil ?_
     refine Nrm.code ?_
     refine Run.ret ?_
     refine Rt.two rfl rfl rfl ?_
     have hl0 : putUL s d u = ((udpB0 u).set 6 (udpC s d u / 256)).set 7 (udpC s d u % 256) := by unfold putUL putUB; rw [if_pos hpe, if_neg (by simp [hc13])]
     exact ⟨_, by rw [hpe], by rw [hl0]; exact S.toFB (i := 0) rfl⟩
end Go.Proofs.YtkahmepenjhcpaaDoor.W
/- Contracts: options of segments read. No statement of the seat is proved here. -/
namespace Go.Proofs.YtkahmepenjhcpaaDoor.W
open Go
set_option linter.unusedSimpArgs false
set_option linter.unusedVariables false
theorem refLen_ge {k n : Int} (h : refLen k n = true) : 2 ≤ n := by
  unfold refLen at h
  (repeat' split at h) <;> simp at h <;> omega
def refO (o : Opt) : Bool := refLen o.kind (2 + (o.data.length : Int))
def toptsG (b : List Int) : Option (List Opt) := (optsG b).bind fun l => if l.all refO = true then some l else none
def tE (b : List Int) : Int := if 40 < b.length then 97 else if (toptsG b).isSome then 0 else 97
def tL (b : List Int) : List Opt := if 40 < b.length then [] else (toptsG b).getD []
def toptAcc (b : List Int) (acc : List Opt) (i : Nat) : Prop := toptsG b = (toptsG (b.drop i)).map (acc ++ ·)
theorem toptAcc.zero (b : List Int) : toptAcc b [] 0 := by
  unfold toptAcc
  rw [List.drop_zero]
  cases toptsG b <;> simp
theorem toptAcc.step {b : List Int} {acc : List Opt} {i j : Nat} {o : Opt} (h : toptAcc b acc i) (hs : toptsG (b.drop i) = (toptsG (b.drop j)).map (o :: ·)) : toptAcc b (acc ++ [o]) j := by
  unfold toptAcc at *
  rw [h, hs]
  cases toptsG (b.drop j) <;> simp
theorem toptAcc.skip {b : List Int} {acc : List Opt} {i j : Nat} (h : toptAcc b acc i) (hs : toptsG (b.drop i) = toptsG (b.drop j)) : toptAcc b acc j := by
  unfold toptAcc at *; rw [h, hs]
theorem toptAcc.bad {b : List Int} {acc : List Opt} {i : Nat} (h : toptAcc b acc i) (h4 : b.length ≤ 40) (hs : toptsG (b.drop i) = none) : tE b = 97 ∧ tL b = [] := by
  unfold toptAcc at h
  rw [hs] at h
  have h40 : ¬ 40 < b.length := by omega
  simp [tE, tL, h40, h]
theorem toptAcc.good {b : List Int} {acc : List Opt} {i : Nat} (h : toptAcc b acc i) (h4 : b.length ≤ 40) (hs : toptsG (b.drop i) = some []) : tE b = 0 ∧ tL b = acc := by
  unfold toptAcc at h
  rw [hs] at h
  have h40 : ¬ 40 < b.length := by omega
  simp [tE, tL, h40, h]
theorem topt_long {b : List Int} (h : 40 < b.length) : tE b = 97 ∧ tL b = [] := by simp [tE, tL, h]
theorem topts_zero {b : List Int} {i : Nat} (h : i < b.length) (h0 : b.getD i 0 = 0) : toptsG (b.drop i) = some [] := by unfold toptsG; rw [optsG_zero h h0]; rfl
theorem topts_nil {b : List Int} {i : Nat} (h : b.length ≤ i) : toptsG (b.drop i) = some [] := by unfold toptsG; rw [optsG_nil h]; rfl
theorem topts_one {b : List Int} {i : Nat} (h : i < b.length) (h0 : b.getD i 0 = 1) : toptsG (b.drop i) = toptsG (b.drop (i + 1)) := by unfold toptsG; rw [optsG_one h h0]
theorem topts_end {b : List Int} {i : Nat} (h : i + 1 = b.length) (h0 : b.getD i 0 ≠ 0) (h1 : b.getD i 0 ≠ 1) : toptsG (b.drop i) = none := by unfold toptsG; rw [optsG_end h h0 h1]; rfl
theorem topts_bad {b : List Int} {i : Nat} (h : i + 1 < b.length) (h0 : b.getD i 0 ≠ 0) (h1 : b.getD i 0 ≠ 1) (hn : b.getD (i + 1) 0 < 2 ∨ (b.length : Int) < i + b.getD (i + 1) 0) : toptsG (b.drop i) = none := by unfold toptsG; rw [optsG_bad h h0 h1 hn]; rfl
theorem topt_len {b : List Int} {i m : Nat} (h2 : 2 ≤ m) (h3 : i + m ≤ b.length) : ((b.drop (i + 2)).take (i + m - (i + 2))).length = m - 2 := by rw [List.length_take, List.length_drop]; omega
theorem topts_go {b : List Int} {i m : Nat} (h0 : b.getD i 0 ≠ 0) (h1 : b.getD i 0 ≠ 1) (hm : b.getD (i + 1) 0 = m) (h2 : 2 ≤ m) (h3 : i + m ≤ b.length) (hr : refLen (b.getD i 0) m = true) :
    toptsG (b.drop i) = (toptsG (b.drop (i + m))).map (⟨b.getD i 0, (b.drop (i + 2)).take (i + m - (i + 2))⟩ :: ·) := by
  unfold toptsG
  rw [optsG_go h0 h1 hm h2 h3]
  have ho : refO ⟨b.getD i 0, (b.drop (i + 2)).take (i + m - (i + 2))⟩ = true := by
    unfold refO
    rw [show (2 : Int) + (((b.drop (i + 2)).take (i + m - (i + 2))).length : Int) = m from by rw [topt_len h2 h3]; omega]
    exact hr
  cases optsG (b.drop (i + m)) with
  | none => rfl
  | some l =>
    simp only [Option.map_some, Option.bind_some, List.all_cons, ho, Bool.true_and]
    split <;> rfl
theorem topts_no {b : List Int} {i m : Nat} (h0 : b.getD i 0 ≠ 0) (h1 : b.getD i 0 ≠ 1) (hm : b.getD (i + 1) 0 = m) (h2 : 2 ≤ m) (h3 : i + m ≤ b.length) (hr : refLen (b.getD i 0) m = false) : toptsG (b.drop i) = none := by
  unfold toptsG
  rw [optsG_go h0 h1 hm h2 h3]
  have ho : refO ⟨b.getD i 0, (b.drop (i + 2)).take (i + m - (i + 2))⟩ = false := by
    unfold refO
    rw [show (2 : Int) + (((b.drop (i + 2)).take (i + m - (i + 2))).length : Int) = m from by rw [topt_len h2 h3]; omega]
    exact hr
  cases optsG (b.drop (i + m)) with
  | none => rfl
  | some l => simp only [Option.map_some, Option.bind_some, List.all_cons, ho, Bool.false_and]; rfl
def tputOk (l : List Opt) : Bool := l.all refO && putOk l
def tputE (l : List Opt) : Int := if tputOk l = true then 0 else 97
def tputL (l : List Opt) : List Int := if tputOk l = true then pad4 (optsB l) else []
theorem tputE_or (l : List Opt) : tputE l = 0 ∨ tputE l = 97 := by unfold tputE; split <;> simp
theorem tput_put {l : List Opt} (h : tputOk l = true) : l.all refO = true ∧ putOk l = true := by unfold tputOk at h; simpa using h
theorem tputL_putL {l : List Opt} (h : tputOk l = true) : tputL l = putL l := by unfold tputL putL; rw [if_pos h, if_pos (tput_put h).2]
theorem tputL_len (l : List Opt) : (tputL l).length ≤ 40 ∧ (tputL l).length % 4 = 0 := by
  by_cases h : tputOk l = true
  · rw [tputL_putL h]; exact putL_len l
  · unfold tputL; rw [if_neg h]; simp
theorem tputL_byt {os : List Opt} (hd : ∀ o ∈ os, W.byt o.data) : W.byt (tputL os) := by
  by_cases h : tputOk os = true
  · rw [tputL_putL h]; exact putL_byt hd
  · unfold tputL; rw [if_neg h]; exact byt_nil
theorem tput_noR {l : List Opt} {i : Nat} (h : i < l.length) (hb : refO (l.getD i o0) = false) : tputOk l = false := by
  unfold tputOk
  have : l.all refO = false := by
    rw [List.all_eq_false]
    exact ⟨l.getD i o0, getD_mem' h, by rw [hb]; simp⟩
  rw [this]; rfl
theorem tput_noP {l : List Opt} (h : putOk l = false) : tputOk l = false := by unfold tputOk; rw [h, Bool.and_false]
theorem all_refO_succ {l : List Opt} {i : Nat} (h : i < l.length) (h1 : (l.take i).all refO = true) (h2 : refO (l.getD i o0) = true) : (l.take (i + 1)).all refO = true := by
  rw [take_succ_getD h (d := o0), List.all_append, h1, List.all_cons, h2]
  rfl
set_option maxHeartbeats 1000000 in
theorem c67 (v : Value) (b : List Int) (w : World) (hb : BS [] w v b) (hg3 : GV [] w 3 183 (lenT.map u64)) :
    CallsV Tryd.prog 67 #[v] w (fun r w' => ∃ u vs, r = .tuple #[u, .int .i64 (tE b)] ∧ FO w w' u (tL b) vs ∧ ∀ N w1, BS N w1 v b → OSs N w1 vs (tL b)) := by
  refine enter Tryd.func67 rfl Tryd.ntmps67 (l := [(0, [], _)]) rfl rfl ?_
  have S := St.refl [] w
  refine Run.seq ?_
  refine Run.region ?_
  refine asg1 rfl rfl ?_
  refine asg1 rfl rfl ?_
  refine Ro.nil ?_
  refine Nrm.code ?_
  refine Run.seq ?_
  refine Run.seq ?_
  refine Run.region ?_
  refine mv1 rfl rfl ?_
  refine lenS rfl hb.2 Tryd.underlying26 rfl rfl rfl ?_
  refine gtr1 rfl rfl rfl ?_
  refine Ro.nil ?_
  refine Nrm.code ?_
  refine Run.cond rfl (fun hc1 => ?_) (fun hc1 => ?_)
  ·
    try simp only [Bool.or_eq_true, Bool.and_eq_true, Bool.or_eq_false_iff, Bool.and_eq_false_iff, decide_eq_true_eq, decide_eq_false_iff_not, Bool.not_eq_true', Bool.not_eq_false', Bool.not_eq_true, Bool.not_eq_false] at hc1
    refine Run.seq ?_
    refine Run.region ?_
    refine asg1 rfl rfl ?_
    refine asg1 rfl rfl ?_
    refine Ro.nil ?_
    refine Nrm.code ?_
    refine Run.ret ?_
    refine Rt.two rfl rfl rfl ?_
    have hbad := topt_long (b := b) (by omega)
    have S := S.nilO
    exact ⟨.slice none 0 0, [], by rw [hbad.1], by rw [hbad.2]; exact S.toFO (i := 0) rfl, fun _ _ _ => by rw [hbad.2]; trivial⟩
  ·
    try simp only [Bool.or_eq_true, Bool.and_eq_true, Bool.or_eq_false_iff, Bool.and_eq_false_iff, decide_eq_true_eq, decide_eq_false_iff_not, Bool.not_eq_true', Bool.not_eq_false', Bool.not_eq_true, Bool.not_eq_false] at hc1
    refine Run.skip ?_
    refine Nrm.code ?_
    refine Run.seq ?_
    refine Run.region ?_
    refine asg1 rfl rfl ?_
    have S := S.nilO
    refine Ro.nil ?_
    refine Nrm.code ?_
    refine Run.seq ?_
    refine Run.seq ?_
    refine Run.region ?_
    refine asg1 rfl rfl ?_
    refine Ro.nil ?_
    refine Nrm.code ?_
    refine Run.block ?_
    refine Run.loop4 (fun (i : Nat) (u : Value) (acc : List Opt) (vs : List Value) w_ => i ≤ b.length ∧ vs.length = acc.length ∧ acc.length ≤ i ∧ toptAcc b acc i ∧ (∀ N w1, BS N w1 v b → OSs N w1 vs acc) ∧ St [] w [oO u acc vs] w_) (fun (i : Nat) (u : Value) (acc : List Opt) (vs : List Value) => [(0, [], v), (4, [], u), (5, [], .int .i64 i)]) (fun (i : Nat) (u : Value) (acc : List Opt) (vs : List Value) => b.length - i) (0) (_) ([]) ([]) ⟨Nat.zero_le _, rfl, Nat.le_refl _, toptAcc.zero b, fun _ _ _ => trivial, S⟩ ⟨rfl, rfl, rfl, trivial⟩ ?_
    rintro i u acc vs w1 ⟨hi, hvl, hal, hacc, hvs, S⟩
    refine Run.seq ?_
    refine Run.seq ?_
    refine Run.region ?_
    refine mv1 rfl rfl ?_
    refine mv1 rfl rfl ?_
    refine lenS rfl hb.2 Tryd.underlying26 rfl rfl rfl ?_
    refine lss1 rfl rfl rfl ?_
    refine Ro.nil ?_
    refine Nrm.code ?_
    refine Run.cond rfl (fun hc5 => ?_) (fun hc5 => ?_)
    ·
      try simp only [Bool.or_eq_true, Bool.and_eq_true, Bool.or_eq_false_iff, Bool.and_eq_false_iff, decide_eq_true_eq, decide_eq_false_iff_not, Bool.not_eq_true', Bool.not_eq_false', Bool.not_eq_true, Bool.not_eq_false] at hc5
      refine Run.skip ?_
      refine Nrm.code ?_
      refine Run.block ?_
      refine Run.seq ?_
      refine Run.region ?_
      refine mv1 rfl rfl ?_
      refine mv1 rfl rfl ?_
      refine ixa rfl rfl hb.2 e26 rfl rfl rfl rfl (fun _ => by first | omega | (simp only [List.length_cons, List.length_nil]; omega)) ?_
      refine ldB rfl hb S T5 rfl rfl rfl (fun _ => by omega) ?_
      intro q18 hq18 hbq18
      try simp only [Int.toNat_natCast, Nat.mul_one, Int.reduceToNat] at hq18
      refine cvi1 rfl rfl Tryd.underlying5 Tryd.underlying3 (w64 (by omega)) ?_
      refine asg1 rfl rfl ?_
      refine Ro.nil ?_
      refine Nrm.code ?_
      refine Run.seq ?_
      refine Run.seq ?_
      refine Run.region ?_
      refine mv1 rfl rfl ?_
      refine eql1 rfl rfl rfl ?_
      refine Ro.nil ?_
      refine Nrm.code ?_
      refine Run.cond rfl (fun hc7 => ?_) (fun hc7 => ?_)
      ·
        try simp only [Bool.or_eq_true, Bool.and_eq_true, Bool.or_eq_false_iff, Bool.and_eq_false_iff, decide_eq_true_eq, decide_eq_false_iff_not, Bool.not_eq_true', Bool.not_eq_false', Bool.not_eq_true, Bool.not_eq_false] at hc7
        refine Run.exit ?_
        refine Lv.code ?_
        refine Lv.miss rfl ?_
        refine Lv.back ?_
        refine Lv.hit ?_
        refine Nrm.code ?_
        refine Run.seq ?_
        refine Run.region ?_
        refine mv1 rfl rfl ?_
        refine asg1 rfl rfl ?_
        refine asg1 rfl rfl ?_
        refine Ro.nil ?_
        refine Nrm.code ?_
        refine Run.ret ?_
        refine Rt.two rfl rfl rfl ?_
        have hg := hacc.good (by omega) (topts_zero (by omega) (by omega))
        exact ⟨u, vs, by rw [hg.1], by rw [hg.2]; exact S.toFO (i := 0) rfl, by rw [hg.2]; exact hvs⟩
      ·
        try simp only [Bool.or_eq_true, Bool.and_eq_true, Bool.or_eq_false_iff, Bool.and_eq_false_iff, decide_eq_true_eq, decide_eq_false_iff_not, Bool.not_eq_true', Bool.not_eq_false', Bool.not_eq_true, Bool.not_eq_false] at hc7
        refine Run.skip ?_
        refine Nrm.code ?_
        refine Run.seq ?_
        refine Run.seq ?_
        refine Run.region ?_
        refine mv1 rfl rfl ?_
        refine eql1 rfl rfl rfl ?_
        refine Ro.nil ?_
        refine Nrm.code ?_
        refine Run.cond rfl (fun hc8 => ?_) (fun hc8 => ?_)
        ·
          try simp only [Bool.or_eq_true, Bool.and_eq_true, Bool.or_eq_false_iff, Bool.and_eq_false_iff, decide_eq_true_eq, decide_eq_false_iff_not, Bool.not_eq_true', Bool.not_eq_false', Bool.not_eq_true, Bool.not_eq_false] at hc8
          refine Run.seq ?_
          refine Run.region ?_
          refine mv1 rfl rfl ?_
          refine add1 rfl rfl rfl (w64 (by omega)) ?_
          refine asg1 rfl rfl ?_
          refine Ro.nil ?_
          refine Nrm.code ?_
          refine Run.exit ?_
          refine Lv.code ?_
          refine Lv.hit ?_
          refine Nrm.loop4 (i + 1) (_) (_) (_) ⟨by omega, hvl, by omega, hacc.skip (topts_one (by omega) (by omega)), hvs, S⟩ (by omega) ⟨rfl, rfl, rfl, trivial⟩
        ·
          try simp only [Bool.or_eq_true, Bool.and_eq_true, Bool.or_eq_false_iff, Bool.and_eq_false_iff, decide_eq_true_eq, decide_eq_false_iff_not, Bool.not_eq_true', Bool.not_eq_false', Bool.not_eq_true, Bool.not_eq_false] at hc8
          refine Run.skip ?_
          refine Nrm.code ?_
          refine Run.seq ?_
          refine Run.seq ?_
          refine Run.region ?_
          refine mv1 rfl rfl ?_
          refine add1 rfl rfl rfl (w64 (by omega)) ?_
          refine mv1 rfl rfl ?_
          refine lenS rfl hb.2 Tryd.underlying26 rfl rfl rfl ?_
          refine eql1 rfl rfl rfl ?_
          refine Ro.nil ?_
          refine Nrm.code ?_
          refine Run.cond rfl (fun hc10 => ?_) (fun hc10 => ?_)
          ·
            try simp only [Bool.or_eq_true, Bool.and_eq_true, Bool.or_eq_false_iff, Bool.and_eq_false_iff, decide_eq_true_eq, decide_eq_false_iff_not, Bool.not_eq_true', Bool.not_eq_false', Bool.not_eq_true, Bool.not_eq_false] at hc10
            refine Run.seq ?_
            refine Run.region ?_
            refine asg1 rfl rfl ?_
            refine asg1 rfl rfl ?_
            refine Ro.nil ?_
            refine Nrm.code ?_
            refine Run.ret ?_
            refine Rt.two rfl rfl rfl ?_
            have hbad := hacc.bad (by omega) (topts_end (by omega) (by omega) (by omega))
            have S := S.nilO
            exact ⟨.slice none 0 0, [], by rw [hbad.1], by rw [hbad.2]; exact S.toFO (i := 0) rfl, fun _ _ _ => by rw [hbad.2]; trivial⟩
          ·
            try simp only [Bool.or_eq_true, Bool.and_eq_true, Bool.or_eq_false_iff, Bool.and_eq_false_iff, decide_eq_true_eq, decide_eq_false_iff_not, Bool.not_eq_true', Bool.not_eq_false', Bool.not_eq_true, Bool.not_eq_false] at hc10
            refine Run.skip ?_
            refine Nrm.code ?_
            refine Run.seq ?_
            refine Run.region ?_
            refine mv1 rfl rfl ?_
            refine mv1 rfl rfl ?_
            refine add1 rfl rfl rfl (w64 (by omega)) ?_
            refine ixa rfl rfl hb.2 e26 rfl rfl rfl rfl (fun _ => by first | omega | (simp only [List.length_cons, List.length_nil]; omega)) ?_
            refine ldB rfl hb S T5 rfl rfl rfl (fun _ => by omega) ?_
            intro q35 hq35 hbq35
            try simp only [Int.toNat_natCast, Nat.mul_one, Int.reduceToNat] at hq35
            replace hq35 : q35 = b.getD (i + 1) 0 := hq35
            refine cvi1 rfl rfl Tryd.underlying5 Tryd.underlying3 (w64 (by omega)) ?_
            refine asg1 rfl rfl ?_
            refine Ro.nil ?_
            refine Nrm.code ?_
            refine Run.seq ?_
            refine Run.seq ?_
            refine Run.region ?_
            refine mv1 rfl rfl ?_
            refine lss1 rfl rfl rfl ?_
            refine mv1 rfl rfl ?_
            refine mv rfl rfl rfl rfl ?_
            refine mv rfl rfl rfl rfl ?_
            refine add rfl rfl rfl rfl rfl rfl (fun hG => by first | exact w64 (by omega) | (simp [allT] at hG; exact w64 (by omega))) ?_
            refine mv rfl rfl rfl rfl ?_
            refine lenS rfl hb.2 Tryd.underlying26 rfl rfl rfl ?_
            refine gtr rfl rfl rfl rfl rfl rfl ?_
            refine pkO rfl rfl rfl rfl rfl rfl ?_
            refine mv1 rfl rfl ?_
            refine mv rfl rfl rfl rfl ?_
            refine mv rfl rfl rfl rfl ?_
            refine calg (vs := [_, _]) rfl ⟨⟨_, _, rfl, rfl⟩, ⟨_, _, rfl, rfl⟩, trivial⟩ k127 rfl (fun hG => by have h127 := c127 q18 q35 _ (by omega) (by omega) (hg3.now S); rw [right_len (by omega) (by (simp [allT] at hG); omega)] at h127; exact h127) ?_
            intro w2 B_; have S := S.call B_
            refine nt rfl rfl rfl rfl ?_
            refine pkO rfl rfl rfl rfl rfl rfl ?_
            refine Ro.nil ?_
            refine Nrm.code ?_
            refine Run.cond rfl (fun hc13 => ?_) (fun hc13 => ?_)
            ·
              try simp only [Bool.or_eq_true, Bool.and_eq_true, Bool.or_eq_false_iff, Bool.and_eq_false_iff, decide_eq_true_eq, decide_eq_false_iff_not, Bool.not_eq_true', Bool.not_eq_false', Bool.not_eq_true, Bool.not_eq_false] at hc13
              refine Run.seq ?_
              refine Run.region ?_
              refine asg1 rfl rfl ?_
              refine asg1 rfl rfl ?_
              refine Ro.nil ?_
              refine Nrm.code ?_
              refine Run.ret ?_
              refine Rt.two rfl rfl rfl ?_
              have hno : toptsG (b.drop i) = none := by
                by_cases hlt : q35 < 2 ∨ (b.length : Int) < i + q35
                · exact topts_bad (by omega) (by omega) (by omega) (by omega)
                · obtain ⟨m, hm⟩ : ∃ m : Nat, q35 = m := ⟨q35.toNat, by omega⟩
                  have hrf : refLen q18 q35 = false := by
                    rcases hc13 with h | h
                    · exact absurd h hlt
                    · exact h
                  rw [hm, hq18] at hrf
                  exact topts_no (by omega) (by omega) (by rw [← hm]; exact hq35.symm) (by omega) (by omega) hrf
              have hbad := hacc.bad (by omega) hno
              have S := S.nilO
              exact ⟨.slice none 0 0, [], by rw [hbad.1], by rw [hbad.2]; exact S.toFO (i := 0) rfl, fun _ _ _ => by rw [hbad.2]; trivial⟩
            ·
              try simp only [Bool.or_eq_true, Bool.and_eq_true, Bool.or_eq_false_iff, Bool.and_eq_false_iff, decide_eq_true_eq, decide_eq_false_iff_not, Bool.not_eq_true', Bool.not_eq_false', Bool.not_eq_true, Bool.not_eq_false] at hc13
              obtain ⟨m, hm⟩ : ∃ m : Nat, q35 = m := ⟨q35.toNat, by omega⟩
              subst hm
              have hrf : refLen q18 (m : Int) = true := by simpa using hc13.2
              replace hc13 := hc13.1
              replace hq35 : (m : Int) = b.getD (i + 1) 0 := hq35
              refine Run.skip ?_
              refine Nrm.code ?_
              refine Run.seq ?_
              refine Run.region ?_
              refine mv1 rfl rfl ?_
              refine mv1 rfl rfl ?_
              refine mv1 rfl rfl ?_
              refine mv1 rfl rfl ?_
              refine add1 rfl rfl rfl (w64 (by omega)) ?_
              refine mv1 rfl rfl ?_
              refine mv1 rfl rfl ?_
              refine add1 rfl rfl rfl (w64 (by omega)) ?_
              refine mv1 rfl rfl ?_
              refine mv1 rfl rfl ?_
              refine add1 rfl rfl rfl (w64 (by omega)) ?_
              refine slC (lo := i + 2) (hi := i + m) (mx := i + m) rfl hb e26 rfl rfl rfl (i1 := some (i + 2)) (i2 := some (i + m)) (i3 := some (i + m)) ⟨_, _, _, rfl, rfl⟩ ⟨_, _, _, rfl, rfl⟩ ⟨_, _, _, rfl, rfl⟩ rfl rfl rfl (fun h => by first | rfl | cases h) (fun hG => by (try simp [allT] at hG); have hcap := hb.cap; omega) ?_
              have hv64 := hb.cut (lo := i + 2) (hi := i + m) (mx := i + m) (by have hcap := hb.cap; omega)
              refine bld B93 (qs := [(_, _), (_, _)]) ⟨⟨_, _, _, rfl, rfl, rfl, rfl, by first | (simp [Value.cells]; done) | simp [Value.cells, encIP]⟩, ⟨_, _, _, rfl, rfl, cells1 hv64.one, rfl, List.cons_ne_nil _ _⟩, trivial⟩ rfl rfl rfl ?_
              refine apOF (dt := (b.drop (i + 2)).take (i + m - (i + 2))) rfl e25 (qs := [(_, _)]) ⟨⟨_, _, _, rfl, rfl, rfl, rfl, by first | (simp [Value.cells]; done) | simp [Value.cells, encIP]⟩, trivial⟩ rfl hv64.one hvl S (i := 0) rfl rfl rfl (fun t e => by cases e; rfl) (fun _ => rfl) (by first | omega | (simp only [List.length_nil, List.length_append, List.length_cons]; omega)) ?_
              intro u_ u2 w3 S B_
              refine asg1 rfl rfl ?_
              refine Ro.nil ?_
              refine Nrm.code ?_
              refine Run.region ?_
              refine mv1 rfl rfl ?_
              refine mv1 rfl rfl ?_
              refine add1 rfl rfl rfl (w64 (by omega)) ?_
              refine asg1 rfl rfl ?_
              refine Ro.nil ?_
              refine Nrm.blk ?_
              refine Nrm.loop4 (i + m) (_) (_) (_) ⟨by omega, by simp [hvl], acc_len hal _ (by omega), hacc.step (by rw [hq18]; exact topts_go (by omega) (by omega) hq35.symm (by omega) (by omega) (by rw [← hq18]; exact hrf)),
                      fun N w1 h1 => (hvs N w1 h1).snoc (h1.cut (by have := h1.cap; omega)), S⟩ (by omega) ⟨rfl, rfl, rfl, trivial⟩
    ·
      try simp only [Bool.or_eq_true, Bool.and_eq_true, Bool.or_eq_false_iff, Bool.and_eq_false_iff, decide_eq_true_eq, decide_eq_false_iff_not, Bool.not_eq_true', Bool.not_eq_false', Bool.not_eq_true, Bool.not_eq_false] at hc5
      refine Run.exit ?_
      refine Lv.code ?_
      refine Lv.back ?_
      refine Lv.hit ?_
      refine Nrm.code ?_
      refine Run.seq ?_
      refine Run.region ?_
      refine mv1 rfl rfl ?_
      refine asg1 rfl rfl ?_
      refine asg1 rfl rfl ?_
      refine Ro.nil ?_
      refine Nrm.code ?_
      refine Run.ret ?_
      refine Rt.two rfl rfl rfl ?_
      have hg := hacc.good (by omega) (topts_nil (by omega))
      exact ⟨u, vs, by rw [hg.1], by rw [hg.2]; exact S.toFO (i := 0) rfl, by rw [hg.2]; exact hvs⟩
set_option maxHeartbeats 1000000 in
theorem c78 (v : Value) (b : List Int) (w : World) (hb : BS [] w v b) :
    CallsV Tryd.prog 78 #[v] w (fun r w' => ∃ u, r = .tuple #[u, .int .i64 (tE b)] ∧ FOS w w' u (tL b)) := by
  refine enter Tryd.func78 rfl Tryd.ntmps78 (l := [(0, [], _)]) rfl rfl ?_
  have S := St.refl [] w
  refine Run.seq ?_
  refine Run.region ?_
  refine asg1 rfl rfl ?_
  refine asg1 rfl rfl ?_
  refine Ro.nil ?_
  refine Nrm.code ?_
  refine Run.seq ?_
  refine Run.seq ?_
  refine Run.region ?_
  refine mv1 rfl rfl ?_
  refine lenS rfl hb.2 Tryd.underlying26 rfl rfl rfl ?_
  refine gtr1 rfl rfl rfl ?_
  refine Ro.nil ?_
  refine Nrm.code ?_
  refine Run.cond rfl (fun hc1 => ?_) (fun hc1 => ?_)
  ·
    try simp only [Bool.or_eq_true, Bool.and_eq_true, Bool.or_eq_false_iff, Bool.and_eq_false_iff, decide_eq_true_eq, decide_eq_false_iff_not, Bool.not_eq_true', Bool.not_eq_false', Bool.not_eq_true, Bool.not_eq_false] at hc1
    refine Run.seq ?_
    refine Run.region ?_
    refine asg1 rfl rfl ?_
    refine asg1 rfl rfl ?_
    refine Ro.nil ?_
    refine Nrm.code ?_
    refine Run.ret ?_
    refine Rt.two rfl rfl rfl ?_
    have hbad := topt_long (b := b) (by omega)
    have S := S.nilO
    exact ⟨.slice none 0 0, by rw [hbad.1], by rw [hbad.2]; exact S.toFOS (i := 0) rfl (fun _ _ => trivial)⟩
  ·
    try simp only [Bool.or_eq_true, Bool.and_eq_true, Bool.or_eq_false_iff, Bool.and_eq_false_iff, decide_eq_true_eq, decide_eq_false_iff_not, Bool.not_eq_true', Bool.not_eq_false', Bool.not_eq_true, Bool.not_eq_false] at hc1
    refine Run.skip ?_
    refine Nrm.code ?_
    refine Run.seq ?_
    refine Run.region ?_
    refine asg1 rfl rfl ?_
    have S := S.nilO
    refine Ro.nil ?_
    refine Nrm.code ?_
    refine Run.seq ?_
    refine Run.region ?_
    refine asg1 rfl rfl ?_
    refine Ro.nil ?_
    refine Nrm.code ?_
    refine Run.seq ?_
    refine Run.block ?_
    refine Run.loop4 (fun (i : Nat) (u : Value) (acc : List Opt) (vs : List Value) w_ => i ≤ b.length ∧ vs.length = acc.length ∧ acc.length ≤ i ∧ toptAcc b acc i ∧ (∀ N, (∀ j ∈ N, j < w.heap.size) → OSs (idsL [oO u acc vs] ++ N) w_ vs acc) ∧ St [] w [oO u acc vs] w_) (fun (i : Nat) (u : Value) (acc : List Opt) (vs : List Value) => [(0, [], v), (4, [], u), (5, [], .int .i64 i)]) (fun (i : Nat) (u : Value) (acc : List Opt) (vs : List Value) => b.length - i) (0) (_) ([]) ([]) ⟨Nat.zero_le _, rfl, Nat.le_refl _, toptAcc.zero b, fun _ _ => trivial, S⟩ ⟨rfl, rfl, rfl, trivial⟩ ?_
    rintro i u acc vs w1 ⟨hi, hvl, hal, hacc, hvs, S⟩
    refine Run.seq ?_
    refine Run.seq ?_
    refine Run.region ?_
    refine mv1 rfl rfl ?_
    refine mv1 rfl rfl ?_
    refine lenS rfl hb.2 Tryd.underlying26 rfl rfl rfl ?_
    refine lss1 rfl rfl rfl ?_
    refine mv1 rfl rfl ?_
    refine mv rfl rfl rfl rfl ?_
    refine mv rfl rfl rfl rfl ?_
    refine ixa rfl rfl hb.2 e26 rfl rfl rfl rfl (fun hG => by (try simp [allT] at hG); omega) ?_
    refine ldB rfl hb S T5 rfl rfl rfl (fun hG => by first | exact by omega | (simp [allT] at hG; exact by omega)) ?_
    intro q19 hq19 hbq19
    try simp only [Int.toNat_natCast, Nat.mul_one, Int.reduceToNat] at hq19
    refine neq rfl rfl rfl rfl rfl rfl ?_
    refine pkA rfl rfl rfl rfl rfl rfl ?_
    refine Ro.nil ?_
    refine Nrm.code ?_
    refine Run.cond rfl (fun hc5 => ?_) (fun hc5 => ?_)
    ·
      try simp only [Bool.or_eq_true, Bool.and_eq_true, Bool.or_eq_false_iff, Bool.and_eq_false_iff, decide_eq_true_eq, decide_eq_false_iff_not, Bool.not_eq_true', Bool.not_eq_false', Bool.not_eq_true, Bool.not_eq_false] at hc5
      refine Run.skip ?_
      refine Nrm.code ?_
      refine Run.block ?_
      refine Run.seq ?_
      refine Run.seq ?_
      refine Run.region ?_
      refine mv1 rfl rfl ?_
      refine mv1 rfl rfl ?_
      refine ixa rfl rfl hb.2 e26 rfl rfl rfl rfl (fun _ => by first | omega | (simp only [List.length_cons, List.length_nil]; omega)) ?_
      refine ldB rfl hb S T5 rfl rfl rfl (fun _ => by omega) ?_
      intro q25 hq25 hbq25
      try simp only [Int.toNat_natCast, Nat.mul_one, Int.reduceToNat] at hq25
      refine eql1 rfl rfl rfl ?_
      refine Ro.nil ?_
      refine Nrm.code ?_
      refine Run.cond rfl (fun hc6 => ?_) (fun hc6 => ?_)
      ·
        try simp only [Bool.or_eq_true, Bool.and_eq_true, Bool.or_eq_false_iff, Bool.and_eq_false_iff, decide_eq_true_eq, decide_eq_false_iff_not, Bool.not_eq_true', Bool.not_eq_false', Bool.not_eq_true, Bool.not_eq_false] at hc6
        refine Run.seq ?_
        refine Run.region ?_
        refine mv1 rfl rfl ?_
        refine add1 rfl rfl rfl (w64 (by omega)) ?_
        refine asg1 rfl rfl ?_
        refine Ro.nil ?_
        refine Nrm.code ?_
        refine Run.exit ?_
        refine Lv.code ?_
        refine Lv.hit ?_
        refine Nrm.loop4 (i + 1) (_) (_) (_) ⟨by omega, hvl, by omega, hacc.skip (topts_one (by omega) (by omega)), hvs, S⟩ (by omega) ⟨rfl, rfl, rfl, trivial⟩
      ·
        try simp only [Bool.or_eq_true, Bool.and_eq_true, Bool.or_eq_false_iff, Bool.and_eq_false_iff, decide_eq_true_eq, decide_eq_false_iff_not, Bool.not_eq_true', Bool.not_eq_false', Bool.not_eq_true, Bool.not_eq_false] at hc6
        refine Run.skip ?_
        refine Nrm.code ?_
        refine Run.seq ?_
        refine Run.seq ?_
        refine Run.region ?_
        refine mv1 rfl rfl ?_
        refine add1 rfl rfl rfl (w64 (by omega)) ?_
        refine mv1 rfl rfl ?_
        refine lenS rfl hb.2 Tryd.underlying26 rfl rfl rfl ?_
        refine geq1 rfl rfl rfl ?_
        refine Ro.nil ?_
        refine Nrm.code ?_
        refine Run.cond rfl (fun hc8 => ?_) (fun hc8 => ?_)
        ·
          try simp only [Bool.or_eq_true, Bool.and_eq_true, Bool.or_eq_false_iff, Bool.and_eq_false_iff, decide_eq_true_eq, decide_eq_false_iff_not, Bool.not_eq_true', Bool.not_eq_false', Bool.not_eq_true, Bool.not_eq_false] at hc8
          refine Run.seq ?_
          refine Run.region ?_
          refine asg1 rfl rfl ?_
          refine asg1 rfl rfl ?_
          refine Ro.nil ?_
          refine Nrm.code ?_
          refine Run.ret ?_
          refine Rt.two rfl rfl rfl ?_
          have hbad := hacc.bad (by omega) (topts_end (by omega) (by omega) (by omega))
          have S := S.nilO
          exact ⟨.slice none 0 0, by rw [hbad.1], by rw [hbad.2]; exact S.toFOS (i := 0) rfl (fun _ _ => trivial)⟩
        ·
          try simp only [Bool.or_eq_true, Bool.and_eq_true, Bool.or_eq_false_iff, Bool.and_eq_false_iff, decide_eq_true_eq, decide_eq_false_iff_not, Bool.not_eq_true', Bool.not_eq_false', Bool.not_eq_true, Bool.not_eq_false] at hc8
          refine Run.skip ?_
          refine Nrm.code ?_
          refine Run.seq ?_
          refine Run.region ?_
          refine mv1 rfl rfl ?_
          refine mv1 rfl rfl ?_
          refine add1 rfl rfl rfl (w64 (by omega)) ?_
          refine ixa rfl rfl hb.2 e26 rfl rfl rfl rfl (fun _ => by first | omega | (simp only [List.length_cons, List.length_nil]; omega)) ?_
          refine ldB rfl hb S T5 rfl rfl rfl (fun _ => by omega) ?_
          intro q38 hq38 hbq38
          try simp only [Int.toNat_natCast, Nat.mul_one, Int.reduceToNat] at hq38
          replace hq38 : q38 = b.getD (i + 1) 0 := hq38
          refine cvi1 rfl rfl Tryd.underlying5 Tryd.underlying3 (w64 (by omega)) ?_
          refine asg1 rfl rfl ?_
          refine Ro.nil ?_
          refine Nrm.code ?_
          refine Run.seq ?_
          refine Run.region ?_
          refine mv1 rfl rfl ?_
          refine mv1 rfl rfl ?_
          refine ixa rfl rfl hb.2 e26 rfl rfl rfl rfl (fun _ => by first | omega | (simp only [List.length_cons, List.length_nil]; omega)) ?_
          refine ldB rfl hb S T5 rfl rfl rfl (fun _ => by omega) ?_
          intro q43 hq43 hbq43
          try simp only [Int.toNat_natCast, Nat.mul_one, Int.reduceToNat] at hq43
          refine cvi1 rfl rfl Tryd.underlying5 Tryd.underlying3 (w64 (by omega)) ?_
          refine mv1 rfl rfl ?_
          refine calg (vs := [_, _]) rfl ⟨⟨_, _, rfl, rfl⟩, ⟨_, _, rfl, rfl⟩, trivial⟩ k133 rfl (fun hG => c133 _ _ _) ?_
          intro w2 B_; have S := S.call B_
          have hvs := fun N hN => (hvs N hN).bl B_
          refine asg1 rfl rfl ?_
          refine Ro.nil ?_
          refine Nrm.code ?_
          refine Run.seq ?_
          refine Run.seq ?_
          refine Run.region ?_
          refine mv1 rfl rfl ?_
          refine nt1 rfl rfl ?_
          refine mv1 rfl rfl ?_
          refine mv rfl rfl rfl rfl ?_
          refine mv rfl rfl rfl rfl ?_
          refine add rfl rfl rfl rfl rfl rfl (fun hG => by first | exact w64 (by omega) | (simp [allT] at hG; exact w64 (by omega))) ?_
          refine mv rfl rfl rfl rfl ?_
          refine lenS rfl hb.2 Tryd.underlying26 rfl rfl rfl ?_
          refine gtr rfl rfl rfl rfl rfl rfl ?_
          refine pkO rfl rfl rfl rfl rfl rfl ?_
          refine Ro.nil ?_
          refine Nrm.code ?_
          refine Run.cond rfl (fun hc12 => ?_) (fun hc12 => ?_)
          ·
            try simp only [Bool.or_eq_true, Bool.and_eq_true, Bool.or_eq_false_iff, Bool.and_eq_false_iff, decide_eq_true_eq, decide_eq_false_iff_not, Bool.not_eq_true', Bool.not_eq_false', Bool.not_eq_true, Bool.not_eq_false] at hc12
            refine Run.seq ?_
            refine Run.region ?_
            refine asg1 rfl rfl ?_
            refine asg1 rfl rfl ?_
            refine Ro.nil ?_
            refine Nrm.code ?_
            refine Run.ret ?_
            refine Rt.two rfl rfl rfl ?_
            have hno : toptsG (b.drop i) = none := by
              by_cases hlt : q38 < 2 ∨ (b.length : Int) < i + q38
              · exact topts_bad (by omega) (by omega) (by omega) (by omega)
              · obtain ⟨m, hm⟩ : ∃ m : Nat, q38 = m := ⟨q38.toNat, by omega⟩
                have hrf : refLen q43 q38 = false := by
                  rcases hc12 with h | h
                  · exact h
                  · omega
                rw [hm, hq43] at hrf
                exact topts_no (by omega) (by omega) (by rw [← hm]; exact hq38.symm) (by omega) (by omega) hrf
            have hbad := hacc.bad (by omega) hno
            have S := S.nilO
            exact ⟨.slice none 0 0, by rw [hbad.1], by rw [hbad.2]; exact S.toFOS (i := 0) rfl (fun _ _ => trivial)⟩
          ·
            try simp only [Bool.or_eq_true, Bool.and_eq_true, Bool.or_eq_false_iff, Bool.and_eq_false_iff, decide_eq_true_eq, decide_eq_false_iff_not, Bool.not_eq_true', Bool.not_eq_false', Bool.not_eq_true, Bool.not_eq_false] at hc12
            have hrf : refLen q43 q38 = true := by simpa using hc12.1
            have hm2 := refLen_ge hrf
            obtain ⟨m, hm⟩ : ∃ m : Nat, q38 = m := ⟨q38.toNat, by omega⟩
            subst hm
            replace hc12 := hc12.2
            refine Run.skip ?_
            refine Nrm.code ?_
            refine Run.seq ?_
            refine Run.held (by kernel_rfl) S [false] rfl rfl rfl ?_
            intro w3 BD S SC
            refine Ho.take (i := 0) SC Pp.body rfl (by kernel_rfl) (by kernel_rfl) (by kernel_rfl) rfl rfl ?_
            refine qmv rfl rfl rfl rfl ?_
            refine Ho.back ?_
            refine Ho.take (i := 1) SC Pp.body rfl (by kernel_rfl) (by kernel_rfl) (by kernel_rfl) rfl rfl ?_
            refine qmv rfl rfl rfl rfl ?_
            refine Ho.back ?_
            refine Ho.take (i := 2) SC Pp.body rfl (by kernel_rfl) (by kernel_rfl) (by kernel_rfl) rfl rfl ?_
            refine qmv rfl rfl rfl rfl ?_
            refine Ho.back ?_
            refine Ho.take (i := 3) SC Pp.body rfl (by kernel_rfl) (by kernel_rfl) (by kernel_rfl) rfl rfl ?_
            refine qixa rfl rfl hb.2 e26 rfl rfl rfl rfl (fun _ => by first | omega | (simp only [List.length_cons, List.length_nil]; omega)) ?_
            refine Ho.back ?_
            refine Ho.take (i := 4) SC Pp.body rfl (by kernel_rfl) (by kernel_rfl) (by kernel_rfl) rfl rfl ?_
            refine qldB rfl hb (fun _ S => S) T5 rfl rfl rfl (fun _ => by omega) ?_
            intro q61 hq61 hbq61
            try simp only [Int.toNat_natCast, Nat.mul_one, Int.reduceToNat] at hq61
            refine Ho.back ?_
            refine Ho.take (i := 5) SC Pp.body rfl (by kernel_rfl) (by kernel_rfl) (by kernel_rfl) rfl rfl ?_
            refine qcvi rfl rfl rfl rfl Tryd.underlying5 Tryd.underlying3 (fun _ => w64 (by omega)) ?_
            refine Ho.back ?_
            refine Ho.take (i := 6) SC Pp.body rfl (by kernel_rfl) (by kernel_rfl) (by kernel_rfl) rfl rfl ?_
            refine qmv rfl rfl rfl rfl ?_
            refine Ho.back ?_
            refine Ho.take (i := 7) SC Pp.body rfl (by kernel_rfl) (by kernel_rfl) (by kernel_rfl) rfl rfl ?_
            refine qmv rfl rfl rfl rfl ?_
            refine Ho.back ?_
            refine Ho.take (i := 8) SC Pp.body rfl (by kernel_rfl) (by kernel_rfl) (by kernel_rfl) rfl rfl ?_
            refine qadd rfl rfl rfl rfl rfl rfl (fun _ => w64 (by omega)) ?_
            refine Ho.back ?_
            refine Ho.take (i := 9) SC Pp.body rfl (by kernel_rfl) (by kernel_rfl) (by kernel_rfl) rfl rfl ?_
            refine qmv rfl rfl rfl rfl ?_
            refine Ho.back ?_
            refine Ho.take (i := 10) SC Pp.body rfl (by kernel_rfl) (by kernel_rfl) (by kernel_rfl) rfl rfl ?_
            refine qmv rfl rfl rfl rfl ?_
            refine Ho.back ?_
            refine Ho.take (i := 11) SC Pp.body rfl (by kernel_rfl) (by kernel_rfl) (by kernel_rfl) rfl rfl ?_
            refine qadd rfl rfl rfl rfl rfl rfl (fun _ => w64 (by omega)) ?_
            refine Ho.back ?_
            refine Ho.take (i := 12) SC Pp.body rfl (by kernel_rfl) (by kernel_rfl) (by kernel_rfl) rfl rfl ?_
            have hv69 := hb.cut (lo := i + 2) (hi := i + m) (mx := capV v) (by have hcap := hb.cap; omega)
            refine qslC (lo := i + 2) (hi := i + m) (mx := capV v) rfl hb e26 rfl rfl rfl (i1 := some (i + 2)) (i2 := some (i + m)) (i3 := none) ⟨_, _, _, rfl, rfl⟩ ⟨_, _, _, rfl, rfl⟩ trivial rfl rfl rfl (fun h => by first | rfl | cases h) (fun hG => by (try simp [allT] at hG); have hcap := hb.cap; omega) ?_
            refine Ho.back ?_
            refine Ho.one (i := 13) (by kernel_rfl) rfl rfl ?_
            have S0 := S
            refine call (vs := [_]) ⟨⟨_, _, rfl, rfl⟩, trivial⟩ k39 rfl (c39 _ _ _ (hv69.now S) (by rw [List.length_take]; omega)) ?_
            rintro q w4 hF
            have S := S.call hF.1
            have hqb : ∀ N, (∀ j ∈ N, j < w.heap.size) → BS (idsL [oO u acc vs] ++ N) w4 q _ := fun N hN => hF.bs hv69.1 (below_app S0 hN)
            have hvs := fun N hN => ((hvs N hN).bl BD).bl hF.1
            have Sb := S
            have S := S.rebase
            have hq1 := hqb [] (by simp)
            have SC := (Sb.trans S).pick [false] rfl
            refine Ho.on SC ?_
            refine Ho.take (i := 14) SC Pp.body rfl (by kernel_rfl) (by kernel_rfl) (by kernel_rfl) rfl rfl ?_
            refine qbld B93 (qs := [(_, _), (_, _)]) ⟨⟨_, _, _, rfl, rfl, rfl, rfl, by first | (simp [Value.cells]; done) | simp [Value.cells, encIP]⟩, ⟨_, _, _, rfl, rfl, cells1 hq1.one, rfl, List.cons_ne_nil _ _⟩, trivial⟩ rfl rfl rfl ?_
            refine Ho.back ?_
            refine Ho.one (i := 15) (by kernel_rfl) rfl rfl ?_
            refine bsl e25 (qs := [(_, _)]) ⟨⟨_, _, _, rfl, rfl, rfl, rfl, by first | (simp [Value.cells]; done) | simp [Value.cells, encIP]⟩, trivial⟩ rfl rfl rfl rfl S ?_
            intro u72 w5 S B_
            have SC := (Sb.trans S).pick [false, false] rfl
            refine Ho.on SC ?_
            refine Ho.one (i := 16) (by kernel_rfl) rfl rfl ?_
            refine apO (i := 1) ((b.drop (i + 2)).take (i + m - (i + 2))) rfl rfl e25 (S.slI (i := 0) rfl) hq1.one hvl S rfl rfl (fun v' => rfl) (by omega) ?_
            intro u2 w6 S B_
            have SC := (Sb.trans S).pick [false, false] rfl
            refine Ho.on SC ?_
            refine Ho.take (i := 17) SC Pp.body rfl (by kernel_rfl) (by kernel_rfl) (by kernel_rfl) rfl rfl ?_
            refine qasg rfl rfl rfl rfl ?_
            refine Ho.back ?_
            refine Ho.done (by kernel_rfl) ?_
            refine Nrm.code ?_
            refine Run.region ?_
            refine mv1 rfl rfl ?_
            refine mv1 rfl rfl ?_
            refine add1 rfl rfl rfl (w64 (by omega)) ?_
            refine asg1 rfl rfl ?_
            refine Ro.nil ?_
            refine Nrm.blk ?_
            refine Nrm.loop4 (i + m) (_) (_) (_) ⟨by omega, by simp [hvl], acc_len hal _ (by omega), hacc.step (by rw [hq61]; exact topts_go (by omega) (by omega) hq38.symm (by omega) (by omega) (by rw [← hq43]; exact hrf)),
                    fun N hN => ((OSs.stN (fun _ h => List.mem_append_left _ h) S.drop0 (hvs N hN)).snoc ((hqb N hN).stN (fun _ h => List.mem_append_left _ h) S.drop0)).weak mid_drop, Sb.trans S.drop0⟩ (by omega) ⟨rfl, rfl, rfl, trivial⟩
    ·
      try simp only [Bool.or_eq_true, Bool.and_eq_true, Bool.or_eq_false_iff, Bool.and_eq_false_iff, decide_eq_true_eq, decide_eq_false_iff_not, Bool.not_eq_true', Bool.not_eq_false', Bool.not_eq_true, Bool.not_eq_false] at hc5
      refine Run.exit ?_
      refine Lv.code ?_
      refine Lv.back ?_
      refine Lv.hit ?_
      refine Nrm.code ?_
      refine Run.seq ?_
      refine Run.region ?_
      refine mv1 rfl rfl ?_
      refine asg1 rfl rfl ?_
      refine asg1 rfl rfl ?_
      refine Ro.nil ?_
      refine Nrm.code ?_
      refine Run.ret ?_
      refine Rt.two rfl rfl rfl ?_
      have hno : toptsG (b.drop i) = some [] := by
        rcases Nat.lt_or_ge i b.length with hlt | hge
        · exact topts_zero hlt (by omega)
        · exact topts_nil hge
      have hg := hacc.good (by omega) hno
      exact ⟨u, by rw [hg.1], by rw [hg.2]; exact S.toFOS (i := 0) rfl (fun N hN => (hvs N hN).weak (fun j hj => List.mem_append_right _ hj))⟩
end Go.Proofs.YtkahmepenjhcpaaDoor.W
