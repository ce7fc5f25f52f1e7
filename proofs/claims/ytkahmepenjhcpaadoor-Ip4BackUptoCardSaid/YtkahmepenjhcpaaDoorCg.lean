/- Contracts: versions of addresses. No statement of the seat is proved here. -/
import Derived.Test.YtkahmepenjhcpaaDoorCf
namespace Go.Proofs.YtkahmepenjhcpaaDoor.W
open Go
set_option linter.unusedSimpArgs false
set_option linter.unusedVariables false


theorem sameA_four {x : IP} {h : x.v = 4} : sameA x.a (fun i => if i < 4 then x.a i else 0) = fourB x := by rw [fourB_def, decide_eq_true h]; rfl
theorem verI4 {x : IP} (h : x.v = 4) : verI x = if fourB x then 4 else 0 := by unfold verI; rw [if_neg (by omega)]
theorem fourB_v {x : IP} (h : x.v ≠ 4) : fourB x = false := by rw [fourB_def, decide_eq_false h]; rfl

set_option maxHeartbeats 1000000 in
theorem c125 (x : IP) (w : World) :
    CallsD Tryd.prog 125 #[.agg (encIP x).toArray] w (.int .i64 (verI x)) := by
  refine enter Tryd.func125 rfl Tryd.ntmps125 (l := [(0, [], _)]) rfl rfl ?_
  have S := St.refl [] w
  refine Run.seq ?_
  refine Run.region ?_
  refine boxA rfl S rfl ?_
  intro b1 w1 hb1 S B_
  refine asg1 rfl rfl ?_
  refine Ro.nil ?_
  refine Nrm.code ?_
  refine Run.seq ?_
  refine Run.block ?_
  refine Run.seq ?_
  refine Run.region ?_
  refine fld (o' := 0) rfl fo24_0 rfl rfl rfl rfl ?_
  refine ld1 rfl T3 S (i := 0) rfl rfl rfl rfl rfl ?_
  refine eql1 rfl rfl rfl ?_
  refine asg1 rfl rfl ?_
  refine Ro.nil ?_
  refine Nrm.code ?_
  refine Run.cond rfl (fun hc1 => ?_) (fun hc1 => ?_)
  ·
    try simp only [Bool.or_eq_true, Bool.and_eq_true, Bool.or_eq_false_iff, Bool.and_eq_false_iff, decide_eq_true_eq, decide_eq_false_iff_not, Bool.not_eq_true', Bool.not_eq_false', Bool.not_eq_true, Bool.not_eq_false] at hc1
    refine Run.seq ?_
    refine Run.region ?_
    refine asg1 rfl rfl ?_
    refine Ro.nil ?_
    refine Nrm.code ?_
    refine Run.ret ?_
    refine Rt.one rfl rfl ?_
    exact ⟨by rw [verI, if_pos hc1], S.bl⟩
  ·
    try simp only [Bool.or_eq_true, Bool.and_eq_true, Bool.or_eq_false_iff, Bool.and_eq_false_iff, decide_eq_true_eq, decide_eq_false_iff_not, Bool.not_eq_true', Bool.not_eq_false', Bool.not_eq_true, Bool.not_eq_false] at hc1
    refine Run.seq ?_
    refine Run.region ?_
    refine fld (o' := 0) rfl fo24_0 rfl rfl rfl rfl ?_
    refine ld1 rfl T3 S (i := 0) rfl rfl rfl rfl rfl ?_
    refine neq1 rfl rfl rfl ?_
    refine asg1 rfl rfl ?_
    refine Ro.nil ?_
    refine Nrm.code ?_
    refine Run.cond rfl (fun hc3 => ?_) (fun hc3 => ?_)
    ·
      try simp only [Bool.or_eq_true, Bool.and_eq_true, Bool.or_eq_false_iff, Bool.and_eq_false_iff, decide_eq_true_eq, decide_eq_false_iff_not, Bool.not_eq_true', Bool.not_eq_false', Bool.not_eq_true, Bool.not_eq_false] at hc3
      refine Run.seq ?_
      refine Run.region ?_
      refine asg1 rfl rfl ?_
      refine Ro.nil ?_
      refine Nrm.code ?_
      refine Run.ret ?_
      refine Rt.one rfl rfl ?_
      exact ⟨by rw [verI, if_neg hc1, fourB_v hc3]; rfl, S.bl⟩
    ·
      try simp only [Bool.or_eq_true, Bool.and_eq_true, Bool.or_eq_false_iff, Bool.and_eq_false_iff, decide_eq_true_eq, decide_eq_false_iff_not, Bool.not_eq_true', Bool.not_eq_false', Bool.not_eq_true, Bool.not_eq_false] at hc3
      refine Run.skip ?_
      refine Nrm.blk ?_
      refine Nrm.code ?_
      refine Run.seq ?_
      refine Run.region ?_
      refine fld (o' := 1) rfl fo24_1 rfl rfl rfl rfl ?_
      refine ixP (o' := 1) rfl rfl Tryd.underlying22 T5 rfl rfl rfl rfl (fun _ => by decide) rfl ?_
      refine ld1 rfl T5 S (i := 0) rfl rfl rfl rfl rfl ?_
      refine fld (o' := 1) rfl fo24_1 rfl rfl rfl rfl ?_
      refine ixP (o' := 2) rfl rfl Tryd.underlying22 T5 rfl rfl rfl rfl (fun _ => by decide) rfl ?_
      refine ld1 rfl T5 S (i := 0) rfl rfl rfl rfl rfl ?_
      refine fld (o' := 1) rfl fo24_1 rfl rfl rfl rfl ?_
      refine ixP (o' := 3) rfl rfl Tryd.underlying22 T5 rfl rfl rfl rfl (fun _ => by decide) rfl ?_
      refine ld1 rfl T5 S (i := 0) rfl rfl rfl rfl rfl ?_
      refine fld (o' := 1) rfl fo24_1 rfl rfl rfl rfl ?_
      refine ixP (o' := 4) rfl rfl Tryd.underlying22 T5 rfl rfl rfl rfl (fun _ => by decide) rfl ?_
      refine ld1 rfl T5 S (i := 0) rfl rfl rfl rfl rfl ?_
      refine bldA rfl (sz := 1) (E := 5) (m := 16) Tryd.underlying22 T22 T5 (qs := [(_, _), (_, _), (_, _), (_, _)]) ⟨⟨_, _, _, rfl, rfl, rfl, rfl, by simp [Value.cells]⟩, ⟨_, _, _, rfl, rfl, rfl, rfl, by simp [Value.cells]⟩, ⟨_, _, _, rfl, rfl, rfl, rfl, by simp [Value.cells]⟩, ⟨_, _, _, rfl, rfl, rfl, rfl, by simp [Value.cells]⟩, trivial⟩ rfl rfl ?_
      refine alc T22 S rfl ?_
      intro b3 w2 hb3 S B_
      refine stW rfl rfl T22 rfl rfl (by simp [Value.oneCell']) S (i := 0) rfl rfl ?_
      intro w3 S
      refine Ro.nil ?_
      refine Nrm.code ?_
      refine Run.seq ?_
      refine Run.seq ?_
      refine Run.region ?_
      refine fld (o' := 1) rfl fo24_1 rfl rfl rfl rfl ?_
      refine ldA rfl T22 S (i := 1) rfl rfl rfl (by decide) rfl rfl rfl ?_
      refine ldW rfl T22 S (i := 0) rfl rfl rfl rfl rfl ?_
      refine neA (x.a) (fun i => if i < 4 then x.a i else 0) rfl rfl rfl rfl rfl rfl ?_
      refine Ro.nil ?_
      refine Nrm.code ?_
      refine Run.cond rfl (fun hc6 => ?_) (fun hc6 => ?_)
      ·
        try simp only [Bool.or_eq_true, Bool.and_eq_true, Bool.or_eq_false_iff, Bool.and_eq_false_iff, decide_eq_true_eq, decide_eq_false_iff_not, Bool.not_eq_true', Bool.not_eq_false', Bool.not_eq_true, Bool.not_eq_false] at hc6
        refine Run.seq ?_
        refine Run.region ?_
        refine asg1 rfl rfl ?_
        refine Ro.nil ?_
        refine Nrm.code ?_
        refine Run.ret ?_
        refine Rt.one rfl rfl ?_
        exact ⟨by rw [verI4 (by omega), ← sameA_four (h := by omega), hc6]; rfl, S.bl⟩
      ·
        try simp only [Bool.or_eq_true, Bool.and_eq_true, Bool.or_eq_false_iff, Bool.and_eq_false_iff, decide_eq_true_eq, decide_eq_false_iff_not, Bool.not_eq_true', Bool.not_eq_false', Bool.not_eq_true, Bool.not_eq_false] at hc6
        refine Run.skip ?_
        refine Nrm.code ?_
        refine Run.seq ?_
        refine Run.region ?_
        refine asg1 rfl rfl ?_
        refine Ro.nil ?_
        refine Nrm.code ?_
        refine Run.ret ?_
        refine Rt.one rfl rfl ?_
        exact ⟨by rw [verI4 (by omega), ← sameA_four (h := by omega), hc6]; rfl, S.bl⟩

end Go.Proofs.YtkahmepenjhcpaaDoor.W
