/- Contracts: addresses of four bytes. No statement of the seat is proved here. -/
import Derived.Test.YtkahmepenjhcpaaDoorCg
import Derived.Test.YtkahmepenjhcpaaDoorFr
namespace Go.Proofs.YtkahmepenjhcpaaDoor.W
open Go
set_option linter.unusedSimpArgs false
set_option linter.unusedVariables false

set_option maxHeartbeats 1000000 in
theorem c99 (x : IP) (w : World) :
    CallsD Tryd.prog 99 #[.agg (encIP x).toArray] w (.bool (fourB x)) := by
  refine enter Tryd.func99 rfl Tryd.ntmps99 (l := [(0, [], _)]) rfl rfl ?_
  have S := St.refl [] w
  refine Run.seq ?_
  refine Run.region ?_
  refine boxA rfl S rfl ?_
  intro b1 w1 hb1 S B_
  refine asg1 rfl rfl ?_
  refine Ro.nil ?_
  refine Nrm.code ?_
  refine Run.seq ?_
  refine Run.region ?_
  refine alc T22 S rfl ?_
  intro b3 w2 hb3 S B_
  refine Ro.nil ?_
  refine Nrm.code ?_
  refine Run.seq ?_
  refine Run.held (by kernel_rfl) S [false, true] rfl rfl rfl ?_
  intro w3 BD S SC
  refine Ho.take (i := 0) SC Pp.body rfl (by kernel_rfl) (by kernel_rfl) (by kernel_rfl) rfl rfl ?_
  refine qslAT rfl Tryd.underlying22 T5 rfl rfl rfl (i2 := some 4) ⟨_, _, _, rfl, rfl⟩ rfl (by decide) (by decide) ?_
  refine Ho.back ?_
  refine Ho.take (i := 1) SC Pp.body rfl (by kernel_rfl) (by kernel_rfl) (by kernel_rfl) rfl rfl ?_
  refine qfld (o' := 1) rfl fo24_1 rfl rfl rfl rfl ?_
  refine Ho.back ?_
  refine Ho.take (i := 2) SC Pp.body rfl (by kernel_rfl) (by kernel_rfl) (by kernel_rfl) rfl rfl ?_
  refine qslAT rfl Tryd.underlying22 T5 rfl rfl rfl (i2 := some 4) ⟨_, _, _, rfl, rfl⟩ rfl (by decide) (by decide) ?_
  refine Ho.back ?_
  refine Ho.one (i := 3) (by kernel_rfl) rfl rfl ?_
  refine cpV (ys := [u8 (x.a 0), u8 (x.a 1), u8 (x.a 2), u8 (x.a 3)]) rfl rfl e26 (S.varSl (i := 1) (m := 4) (sz := 1) rfl rfl rfl (by decide)) (by simp [Value.oneCell', u8]) (by decide) S (i := 0) rfl rfl rfl rfl ?_
  intro wc S
  have SC := S.pick [false, true] rfl
  refine Ho.on SC ?_
  refine Ho.done (by kernel_rfl) ?_
  refine Nrm.code ?_
  refine Run.seq ?_
  refine Run.region ?_
  refine fld (o' := 0) rfl fo24_0 rfl rfl rfl rfl ?_
  refine ld1 rfl T3 S (i := 1) rfl rfl rfl rfl rfl ?_
  refine eql1 rfl rfl rfl ?_
  refine mv1 rfl rfl ?_
  refine fld (o' := 1) rfl fo24_1 rfl rfl rfl rfl ?_
  refine ldA rfl T22 S (i := 1) rfl rfl rfl (by decide) rfl rfl rfl ?_
  refine ldW rfl T22 S (i := 0) rfl rfl rfl rfl rfl ?_
  refine eqA (x.a) (fun i => if i < 4 then x.a i else 0) rfl rfl rfl rfl rfl rfl ?_
  refine pkA rfl rfl rfl rfl rfl rfl ?_
  refine asg1 rfl rfl ?_
  refine Ro.nil ?_
  refine Nrm.code ?_
  refine Run.ret ?_
  refine Rt.one rfl rfl ?_
  exact ⟨by rw [fourB_def], S.bl⟩

end Go.Proofs.YtkahmepenjhcpaaDoor.W
