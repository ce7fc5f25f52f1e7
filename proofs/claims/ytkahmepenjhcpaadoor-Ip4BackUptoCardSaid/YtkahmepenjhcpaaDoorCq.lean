/- Contracts: canonical bytes. No statement of the seat is proved here. -/
import Derived.Test.YtkahmepenjhcpaaDoorCp
namespace Go.Proofs.YtkahmepenjhcpaaDoor.W
open Go
set_option linter.unusedSimpArgs false
set_option linter.unusedVariables false


theorem OSs.now {N0 : List Nat} {w0 w : World} {L : List Own} {vs : List Value} {os : List Opt} (h : OSs N0 w0 vs os) (S : St N0 w0 L w) : OSs [] w vs os := (BSs.st S h).weak (by simp)
theorem optsG_len : ∀ (n : Nat) (b : List Int), b.length ≤ n → ∀ l, optsG b = some l → l.length ≤ b.length ∧ ∀ o ∈ l, o.data.length ≤ b.length := by
  intro n
  induction n with
  | zero =>
    intro b hb l h
    have : b = [] := List.length_eq_zero_iff.1 (by omega)
    subst this
    rw [optsG] at h; simp at h; subst h; simp
  | succ n ih =>
    intro b hb l h
    match b with
    | [] => rw [optsG] at h; simp at h; subst h; simp
    | [k] =>
      rw [optsG] at h
      split at h
      · simp at h; subst h; simp
      · simp at h
    | k :: m :: r =>
      rw [optsG] at h
      split at h
      · simp at h; subst h; simp
      · split at h
        · have := ih (m :: r) (by simp at hb ⊢; omega) l h
          simp only [List.length_cons] at this ⊢
          exact ⟨by omega, fun o ho => by have := this.2 o ho; omega⟩
        · split at h
          · simp at h
          · cases hg : optsG (r.drop (m.toNat - 2)) with
            | none => rw [hg] at h; simp at h
            | some l' =>
              rw [hg] at h
              simp only [Option.map_some, Option.some.injEq] at h
              subst h
              have := ih (r.drop (m.toNat - 2)) (by simp at hb ⊢; omega) l' hg
              simp only [List.length_cons, List.length_drop] at this ⊢
              refine ⟨by omega, ?_⟩
              intro o ho
              rcases List.mem_cons.1 ho with e | e
              · rw [e]; simp only [List.length_take]; omega
              · have := this.2 o e; omega
theorem optL_len (b : List Int) : (optL b).length ≤ 40 ∧ ∀ o ∈ optL b, o.data.length ≤ 40 := by
  unfold optL
  split
  · simp
  · cases hg : optsG b with
    | none => simp
    | some l =>
      have := optsG_len b.length b (Nat.le_refl _) l hg
      simp only [Option.getD_some]
      exact ⟨by omega, fun o ho => by have := this.2 o ho; omega⟩
theorem ip4of_ok {a b c d : Int} (ha : 0 ≤ a ∧ a < 256) (hb : 0 ≤ b ∧ b < 256) (hc : 0 ≤ c ∧ c < 256) (hd : 0 ≤ d ∧ d < 256) : (ip4of a b c d).ok := by
  refine ⟨fun i _ => ?_, by simp [ip4of]⟩
  simp only [ip4of]
  (repeat' split) <;> omega
theorem ipOf_ok {b : List Int} (h : byt b) (i : Nat) : (ipOf b i).ok := ip4of_ok (byt_getD h _) (byt_getD h _) (byt_getD h _) (byt_getD h _)
theorem ip0_ok : ip0.ok := ⟨fun _ _ => by simp [ip0], by simp [ip0]⟩
theorem parH_ok {b : List Int} (h : byt b) : (parH b).src.ok ∧ (parH b).dst.ok ∧ (parH b).opts.length ≤ 40 ∧ (∀ o ∈ (parH b).opts, o.data.length ≤ 40) ∧ (parH b).data.length ≤ b.length := by
  unfold parH
  split
  · have hl := optL_len (optB4 b)
    exact ⟨ipOf_ok h 12, ipOf_ok h 16, hl.1, hl.2, by simp only [parG, List.length_take, List.length_drop]; omega⟩
  · exact ⟨ip0_ok, ip0_ok, by simp [h00], by simp [h00], by simp [h00]⟩
theorem byt_set' {l : List Int} (h : byt l) {i : Nat} {x : Int} (hx : 0 ≤ x ∧ x < 256) : byt (l.set i x) := byt_set h _ hx
theorem serL_byt {h : Ip4} (h1 : h.src.ok) (h2 : h.dst.ok) (hd : ∀ o ∈ h.opts, W.byt o.data) (hb : W.byt h.data) : byt (serL h) := by
  unfold serL
  split
  · rename_i hc
    have hX := headB_byt hc h1 h2 hd
    have hs := sumC_bd hX
    exact byt_app (byt_set' (byt_set' hX (by omega)) (by omega)) hb
  · intro x hx; simp at hx
theorem parE_len {b : List Int} (h : parE b = 0) : b.length ≤ 65535 := by
  rcases Nat.lt_or_ge 65535 b.length with h1 | h1
  · unfold parE at h; rw [if_pos h1] at h; omega
  · exact h1
def canB (b : List Int) : Bool := decide (parE b = 0) && (decide (chkE (parH b) = 0) && decide (b = serL (parH b)))

set_option maxHeartbeats 1000000 in
theorem c35 (v : Value) (b : List Int) (w : World) (hb : BS [] w v b) (hg : GV [] w 0 130 (W4.map i64)) :
    CallsD Tryd.prog 35 #[v] w (.bool (canB b)) := by
  refine enter Tryd.func35 rfl Tryd.ntmps35 (l := [(0, [], _)]) rfl rfl ?_
  have S := St.refl [] w
  have hpk := parH_ok hb.1
  refine Run.seq ?_
  refine Run.region ?_
  refine asg1 rfl rfl ?_
  refine Ro.nil ?_
  refine Nrm.code ?_
  refine Run.seq ?_
  refine Run.region ?_
  refine mv1 rfl rfl ?_
  refine call (vs := [_]) ⟨⟨_, _, rfl, rfl⟩, trivial⟩ k33 rfl (c33 _ _ _ (hb.now S) (hg.now S)) ?_
  rintro _ w1 ⟨o, d, vs, rfl, hF, hwp⟩
  have S := S.fo hF
  have hdp := (hwp _ _ hb).2
  have hop := (hwp _ _ hb).1
  refine mv1 rfl rfl ?_
  refine extr1 rfl rfl rfl ?_
  refine extr1 rfl rfl rfl ?_
  refine alc T28 S rfl ?_
  intro b3 w2 hb3 S B_
  refine stW rfl rfl T28 rfl rfl (one_cons rfl (one_cons rfl (one_cons rfl (one_cons rfl (one_cons rfl (one_cons rfl (one_cons rfl (one_cons rfl (one_cons rfl (one_cons rfl (one_cons rfl (one_cons rfl (one_cons rfl (one_cons rfl (one_cons rfl (one_cons rfl (one_cons rfl (one_cons rfl (one_cons rfl (one_cons rfl (one_cons rfl (one_cons rfl (one_cons rfl (one_cons rfl (one_cons rfl (one_cons rfl (one_cons rfl (one_cons rfl (one_cons rfl (one_cons rfl (one_cons rfl (one_cons rfl (one_cons rfl (one_cons rfl (one_cons rfl (one_cons rfl (one_cons rfl (one_cons rfl (one_cons rfl (one_cons rfl (one_cons rfl (one_cons (S.slI (i := 1) rfl).one (one_cons hdp.one one_nil))))))))))))))))))))))))))))))))))))))))))) S (i := 0) rfl rfl ?_
  intro w3 S
  refine asg1 rfl rfl ?_
  refine Ro.nil ?_
  refine Nrm.code ?_
  refine Run.seq ?_
  refine Run.seq ?_
  refine Run.region ?_
  refine mv1 rfl rfl ?_
  refine neq1 rfl rfl rfl ?_
  refine Ro.nil ?_
  refine Nrm.code ?_
  refine Run.cond rfl (fun hc2 => ?_) (fun hc2 => ?_)
  ·
    try simp only [Bool.or_eq_true, Bool.and_eq_true, Bool.or_eq_false_iff, Bool.and_eq_false_iff, decide_eq_true_eq, decide_eq_false_iff_not, Bool.not_eq_true', Bool.not_eq_false', Bool.not_eq_true, Bool.not_eq_false] at hc2
    refine Run.seq ?_
    refine Run.region ?_
    refine asg1 rfl rfl ?_
    refine Ro.nil ?_
    refine Nrm.code ?_
    refine Run.ret ?_
    refine Rt.one rfl rfl ?_
    exact ⟨by rw [canB, decide_eq_false hc2]; rfl, S.bl⟩
  ·
    try simp only [Bool.or_eq_true, Bool.and_eq_true, Bool.or_eq_false_iff, Bool.and_eq_false_iff, decide_eq_true_eq, decide_eq_false_iff_not, Bool.not_eq_true', Bool.not_eq_false', Bool.not_eq_true, Bool.not_eq_false] at hc2
    replace hc2 : parE b = 0 := by omega
    have hbl := parE_len hc2
    have hodt : ∀ o ∈ (parH b).opts, byt o.data := fun o ho => BSs.byts hop _ (List.mem_map_of_mem ho)
    have hby_u5 := serL_byt hpk.1 hpk.2.1 hodt hdp.1
    refine Run.skip ?_
    refine Nrm.code ?_
    refine Run.seq ?_
    refine Run.region ?_
    refine ldW rfl T28 S (i := 0) rfl rfl rfl rfl rfl ?_
    refine call (vs := [_]) ⟨⟨_, _, rfl, rfl⟩, trivial⟩ k30 rfl (c30 _ _ _ _ (S.osI (i := 1) rfl (hop.now S)) (hdp.now S) (by omega) (by omega) hpk.1 hpk.2.1 (hg.now S)) ?_
    rintro _ w4 ⟨u5, rfl, hF⟩
    have S := S.fb hF
    refine mv1 rfl rfl ?_
    refine extr1 rfl rfl rfl ?_
    refine extr1 rfl rfl rfl ?_
    refine asg1 rfl rfl ?_
    refine asg1 rfl rfl ?_
    refine Ro.nil ?_
    refine Nrm.code ?_
    refine Run.seq ?_
    refine Run.region ?_
    refine mv1 rfl rfl ?_
    refine eql1 rfl rfl rfl ?_
    refine mv1 rfl rfl ?_
    refine mv rfl rfl rfl rfl ?_
    refine mv rfl rfl rfl rfl ?_
    refine calg (vs := [_, _]) rfl ⟨⟨_, _, rfl, rfl⟩, ⟨_, _, rfl, rfl⟩, trivial⟩ k104 rfl (fun hG => c104 _ _ _ _ _ (hb.now S) (S.bsI (i := 0) rfl hby_u5)) ?_
    intro w5 B_; have S := S.call B_
    refine pkA rfl rfl rfl rfl rfl rfl ?_
    refine asg1 rfl rfl ?_
    refine Ro.nil ?_
    refine Nrm.code ?_
    refine Run.ret ?_
    refine Rt.one rfl rfl ?_
    exact ⟨by rw [canB, hc2]; rfl, S.bl⟩

end Go.Proofs.YtkahmepenjhcpaaDoor.W
