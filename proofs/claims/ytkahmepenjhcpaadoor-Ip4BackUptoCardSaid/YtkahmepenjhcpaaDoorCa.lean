/- Contracts of small functions. No statement of the seat is proved here. -/
import Derived.Test.YtkahmepenjhcpaaDoorFh
namespace Go.Proofs.YtkahmepenjhcpaaDoor.W
open Go
set_option linter.unusedSimpArgs false
set_option linter.unusedVariables false

/-- may data of n bytes be a fragment's? -/
def fragE (mf : Bool) (off n : Int) : Int := if (mf && (decide (n = 0) || decide (n % 8 ≠ 0))) || decide (65515 < off + n) then 66 else 0
set_option maxHeartbeats 1000000 in
theorem c100 (mf : Bool) (off n : Int) (w : World) (h : 0 ≤ off ∧ off ≤ 1000000 ∧ 0 ≤ n ∧ n ≤ 1000000) :
    CallsD Tryd.prog 100 #[.bool mf, .int .i64 off, .int .i64 n] w (.int .i64 (fragE mf off n)) := by
  refine enter Tryd.func100 rfl Tryd.ntmps100 (l := [(0, [], _), (1, [], _), (2, [], _)]) rfl rfl ?_
  have S := St.refl [] w
  refine Run.seq ?_
  refine Run.region ?_
  refine asg1 rfl rfl ?_
  refine Ro.nil ?_
  refine Nrm.code ?_
  refine Run.seq ?_
  refine Run.seq ?_
  refine Run.region ?_
  refine mv1 rfl rfl ?_
  refine mv1 rfl rfl ?_
  refine mv rfl rfl rfl rfl ?_
  refine eql rfl rfl rfl rfl rfl rfl ?_
  refine mv rfl rfl rfl rfl ?_
  refine mv rfl rfl rfl rfl ?_
  refine rem rfl rfl rfl rfl rfl rfl (fun hG => by first | exact by decide | (simp [allT] at hG; exact by decide)) (fun hG => by first | exact r64 (by omega) | (simp [allT] at hG; exact r64 (by omega))) ?_
  refine neq rfl rfl rfl rfl rfl rfl ?_
  refine pkO rfl rfl rfl rfl rfl rfl ?_
  refine pkA rfl rfl rfl rfl rfl rfl ?_
  refine mv1 rfl rfl ?_
  refine mv rfl rfl rfl rfl ?_
  refine mv rfl rfl rfl rfl ?_
  refine add rfl rfl rfl rfl rfl rfl (fun hG => by first | exact w64 (by omega) | (simp [allT] at hG; exact w64 (by omega))) ?_
  refine gtr rfl rfl rfl rfl rfl rfl ?_
  refine pkO rfl rfl rfl rfl rfl rfl ?_
  refine Ro.nil ?_
  refine Nrm.code ?_
  refine Run.cond rfl (fun hc1 => ?_) (fun hc1 => ?_)
  ·
    refine Run.seq ?_
    refine Run.region ?_
    refine asg1 rfl rfl ?_
    refine Ro.nil ?_
    refine Nrm.code ?_
    refine Run.ret ?_
    refine Rt.one rfl rfl ?_
    exact ⟨by simp only [fragE]; rw [hc1]; rfl, S.bl⟩
  ·
    refine Run.skip ?_
    refine Nrm.code ?_
    refine Run.seq ?_
    refine Run.region ?_
    refine asg1 rfl rfl ?_
    refine Ro.nil ?_
    refine Nrm.code ?_
    refine Run.ret ?_
    refine Rt.one rfl rfl ?_
    exact ⟨by simp only [fragE]; rw [hc1]; rfl, S.bl⟩

set_option maxHeartbeats 1000000 in
theorem c102 (n : Int) (w : World) :
    CallsD Tryd.prog 102 #[.int .i64 n] w (.bool (decide (n = 1))) := by
  refine enter Tryd.func102 rfl Tryd.ntmps102 (l := [(0, [], _)]) rfl rfl ?_
  have S := St.refl [] w
  refine Run.seq ?_
  refine Run.region ?_
  refine asg1 rfl rfl ?_
  refine Ro.nil ?_
  refine Nrm.code ?_
  refine Run.seq ?_
  refine Run.region ?_
  refine mv1 rfl rfl ?_
  refine eql1 rfl rfl rfl ?_
  refine asg1 rfl rfl ?_
  refine Ro.nil ?_
  refine Nrm.code ?_
  refine Run.ret ?_
  refine Rt.one rfl rfl ?_
  exact ⟨rfl, S.bl⟩

set_option maxHeartbeats 1000000 in
theorem c96 (b : Bool) (w : World) :
    CallsD Tryd.prog 96 #[.bool b] w (.int .i64 (if b then 1 else 0)) := by
  refine enter Tryd.func96 rfl Tryd.ntmps96 (l := [(0, [], _)]) rfl rfl ?_
  have S := St.refl [] w
  refine Run.seq ?_
  refine Run.region ?_
  refine asg1 rfl rfl ?_
  refine Ro.nil ?_
  refine Nrm.code ?_
  refine Run.seq ?_
  refine Run.seq ?_
  refine Run.region ?_
  refine mv1 rfl rfl ?_
  refine Ro.nil ?_
  refine Nrm.code ?_
  refine Run.cond rfl (fun hc1 => ?_) (fun hc1 => ?_)
  ·
    refine Run.seq ?_
    refine Run.region ?_
    refine asg1 rfl rfl ?_
    refine Ro.nil ?_
    refine Nrm.code ?_
    refine Run.ret ?_
    refine Rt.one rfl rfl ?_
    exact ⟨by rw [hc1]; rfl, S.bl⟩
  ·
    refine Run.skip ?_
    refine Nrm.code ?_
    refine Run.seq ?_
    refine Run.region ?_
    refine asg1 rfl rfl ?_
    refine Ro.nil ?_
    refine Nrm.code ?_
    refine Run.ret ?_
    refine Rt.one rfl rfl ?_
    exact ⟨by rw [hc1]; rfl, S.bl⟩

set_option maxHeartbeats 1000000 in
theorem c98 (n hi : Int) (w : World) :
    CallsD Tryd.prog 98 #[.int .i64 n, .int .i64 hi] w (.bool (decide (n < 0) || decide (hi < n))) := by
  refine enter Tryd.func98 rfl Tryd.ntmps98 (l := [(0, [], _), (1, [], _)]) rfl rfl ?_
  have S := St.refl [] w
  refine Run.seq ?_
  refine Run.region ?_
  refine asg1 rfl rfl ?_
  refine Ro.nil ?_
  refine Nrm.code ?_
  refine Run.seq ?_
  refine Run.region ?_
  refine mv1 rfl rfl ?_
  refine lss1 rfl rfl rfl ?_
  refine mv1 rfl rfl ?_
  refine mv rfl rfl rfl rfl ?_
  refine mv rfl rfl rfl rfl ?_
  refine gtr rfl rfl rfl rfl rfl rfl ?_
  refine pkO rfl rfl rfl rfl rfl rfl ?_
  refine asg1 rfl rfl ?_
  refine Ro.nil ?_
  refine Nrm.code ?_
  refine Run.ret ?_
  refine Rt.one rfl rfl ?_
  exact ⟨rfl, S.bl⟩

set_option maxHeartbeats 1000000 in
theorem c126 (n hi : Int) (w : World) :
    CallsD Tryd.prog 126 #[.int .i64 n, .int .i64 hi] w (.bool (decide (n < 0) || decide (hi < n))) := by
  refine enter Tryd.func126 rfl Tryd.ntmps126 (l := [(0, [], _), (1, [], _)]) rfl rfl ?_
  have S := St.refl [] w
  refine Run.seq ?_
  refine Run.region ?_
  refine asg1 rfl rfl ?_
  refine Ro.nil ?_
  refine Nrm.code ?_
  refine Run.seq ?_
  refine Run.region ?_
  refine mv1 rfl rfl ?_
  refine lss1 rfl rfl rfl ?_
  refine mv1 rfl rfl ?_
  refine mv rfl rfl rfl rfl ?_
  refine mv rfl rfl rfl rfl ?_
  refine gtr rfl rfl rfl rfl rfl rfl ?_
  refine pkO rfl rfl rfl rfl rfl rfl ?_
  refine asg1 rfl rfl ?_
  refine Ro.nil ?_
  refine Nrm.code ?_
  refine Run.ret ?_
  refine Rt.one rfl rfl ?_
  exact ⟨rfl, S.bl⟩

set_option maxHeartbeats 1000000 in
theorem c138 (n hi : Int) (w : World) :
    CallsD Tryd.prog 138 #[.int .i64 n, .int .i64 hi] w (.bool (decide (n < 0) || decide (hi < n))) := by
  refine enter Tryd.func138 rfl Tryd.ntmps138 (l := [(0, [], _), (1, [], _)]) rfl rfl ?_
  have S := St.refl [] w
  refine Run.seq ?_
  refine Run.region ?_
  refine asg1 rfl rfl ?_
  refine Ro.nil ?_
  refine Nrm.code ?_
  refine Run.seq ?_
  refine Run.region ?_
  refine mv1 rfl rfl ?_
  refine lss1 rfl rfl rfl ?_
  refine mv1 rfl rfl ?_
  refine mv rfl rfl rfl rfl ?_
  refine mv rfl rfl rfl rfl ?_
  refine gtr rfl rfl rfl rfl rfl rfl ?_
  refine pkO rfl rfl rfl rfl rfl rfl ?_
  refine asg1 rfl rfl ?_
  refine Ro.nil ?_
  refine Nrm.code ?_
  refine Run.ret ?_
  refine Rt.one rfl rfl ?_
  exact ⟨rfl, S.bl⟩

set_option maxHeartbeats 1000000 in
theorem c155 (n hi : Int) (w : World) :
    CallsD Tryd.prog 155 #[.int .i64 n, .int .i64 hi] w (.bool (decide (n < 0) || decide (hi < n))) := by
  refine enter Tryd.func155 rfl Tryd.ntmps155 (l := [(0, [], _), (1, [], _)]) rfl rfl ?_
  have S := St.refl [] w
  refine Run.seq ?_
  refine Run.region ?_
  refine asg1 rfl rfl ?_
  refine Ro.nil ?_
  refine Nrm.code ?_
  refine Run.seq ?_
  refine Run.region ?_
  refine mv1 rfl rfl ?_
  refine lss1 rfl rfl rfl ?_
  refine mv1 rfl rfl ?_
  refine mv rfl rfl rfl rfl ?_
  refine mv rfl rfl rfl rfl ?_
  refine gtr rfl rfl rfl rfl rfl rfl ?_
  refine pkO rfl rfl rfl rfl rfl rfl ?_
  refine asg1 rfl rfl ?_
  refine Ro.nil ?_
  refine Nrm.code ?_
  refine Run.ret ?_
  refine Rt.one rfl rfl ?_
  exact ⟨rfl, S.bl⟩

set_option maxHeartbeats 1000000 in
theorem c31 (n : Int) (w : World) (h : -9223372036854775808 ≤ n ∧ n ≤ 9223372036854775807) :
    CallsD Tryd.prog 31 #[.int .i64 n] w (.int .i64 n) := by
  refine enter Tryd.func31 rfl Tryd.ntmps31 (l := [(0, [], _)]) rfl rfl ?_
  have S := St.refl [] w
  refine Run.seq ?_
  refine Run.region ?_
  refine asg1 rfl rfl ?_
  refine Ro.nil ?_
  refine Nrm.code ?_
  refine Run.seq ?_
  refine Run.region ?_
  refine mv1 rfl rfl ?_
  refine asg1 rfl rfl ?_
  refine Ro.nil ?_
  refine Nrm.code ?_
  refine Run.ret ?_
  refine Rt.one rfl rfl ?_
  exact ⟨rfl, S.bl⟩

set_option maxHeartbeats 1000000 in
theorem c56 (n : Int) (w : World) (h : -9223372036854775808 ≤ n ∧ n ≤ 9223372036854775807) :
    CallsD Tryd.prog 56 #[.int .i64 n] w (.int .i64 n) := by
  refine enter Tryd.func56 rfl Tryd.ntmps56 (l := [(0, [], _)]) rfl rfl ?_
  have S := St.refl [] w
  refine Run.seq ?_
  refine Run.region ?_
  refine asg1 rfl rfl ?_
  refine Ro.nil ?_
  refine Nrm.code ?_
  refine Run.seq ?_
  refine Run.region ?_
  refine mv1 rfl rfl ?_
  refine asg1 rfl rfl ?_
  refine Ro.nil ?_
  refine Nrm.code ?_
  refine Run.ret ?_
  refine Rt.one rfl rfl ?_
  exact ⟨rfl, S.bl⟩

end Go.Proofs.YtkahmepenjhcpaaDoor.W
