/- Texts of the proofs of this seat, packed into one (Cw Cs Sh Cx Cy Cz Dc Ra Rb Re Rk Da Db Rf Si Dd De). No statement of the seat is proved here. -/
import Derived.Test.YtkahmepenjhcpaaDoorRows
import Derived.OpenShut
import Derived.ChangeStays
import Derived.ChangeBears
import Derived.Deep.Slices
import Derived.WideShapes
import Derived.Below
import Derived.ChangeSame
import Derived.ProofKit
import Derived.Test.YtkahmepenjhcpaaDoorGc
/- Contracts: the reference: canonical bytes, hops. No statement of the seat is proved here. -/
namespace Go.Proofs.YtkahmepenjhcpaaDoor.W
open Go
set_option linter.unusedSimpArgs false
set_option linter.unusedVariables false


theorem par_facts {b : List Int} (h : parE b = 0) : 20 ≤ b.length ∧ b.length ≤ 65535 ∧ b.getD 0 0 / 16 = 4 ∧ 20 ≤ hdN b ∧ hdN b ≤ b.length ∧ hdN b ≤ totN b ∧ totN b ≤ b.length ∧ sumS (b.take (hdN b)) = 65535 ∧ optE (optB4 b) = 0 ∧ fragE (decide (b.getD 6 0 / 32 % 2 = 1)) (8 * offW b) ((totN b : Int) - hdN b) = 0 := by
  have ho := optE_le (optB4 b)
  unfold parE at h
  by_cases h1 : 65535 < b.length
  · rw [if_pos h1] at h; omega
  rw [if_neg h1] at h
  by_cases h2 : b.length < 20
  · rw [if_pos h2] at h; omega
  rw [if_neg h2] at h
  by_cases h3 : b.getD 0 0 / 16 ≠ 4
  · rw [if_pos h3] at h; omega
  rw [if_neg h3] at h
  by_cases h4 : hdN b < 20 ∨ b.length < hdN b
  · rw [if_pos h4] at h; omega
  rw [if_neg h4] at h
  by_cases h5 : totN b < hdN b ∨ b.length < totN b
  · rw [if_pos h5] at h; omega
  rw [if_neg h5] at h
  by_cases h6 : sumS (b.take (hdN b)) ≠ 65535
  · rw [if_pos h6] at h; omega
  rw [if_neg h6] at h
  by_cases h7 : optE (optB4 b) ≠ 0
  · rw [if_pos h7] at h; omega
  rw [if_neg h7] at h
  refine ⟨by omega, by omega, by omega, by omega, by omega, by omega, by omega, by omega, by omega, ?_⟩
  omega
def hopM (b : List Int) : List Int := b.set 8 (b.getD 8 0 - 1)
def hopC (b : List Int) : Int := 65535 - sumS ((hopM b).take 10 ++ ((hopM b).drop 12).take (hdN b - 12))
def hopW (b : List Int) : List Int := ((hopM b).set 10 (hopC b / 256)).set 11 (hopC b % 256)
def hopE (b : List Int) : Int := if parE b ≠ 0 then parE b else if b.getD 8 0 < 2 then 67 else 0
def hopB (b : List Int) : List Int := if hopE b = 0 then hopW b else b
theorem hopM_byt {b : List Int} (h : byt b) (h2 : 2 ≤ b.getD 8 0) : byt (hopM b) := byt_set h _ (by have := byt_getD h 8; omega)
theorem hopC_bd {b : List Int} (h : byt (hopM b)) : 0 ≤ hopC b ∧ hopC b ≤ 65535 := by
  have hw := wsum_bd ((hopM b).take 10 ++ ((hopM b).drop 12).take (hdN b - 12)) true (byt_app (byt_take h _) (byt_take (byt_drop h _) _))
  have hf := foldS_bd hw.1
  unfold hopC sumS; omega
theorem parH_ttl {b : List Int} (h : parE b = 0) : (parH b).ttl = b.getD 8 0 := by unfold parH; rw [if_pos h]; rfl

set_option maxHeartbeats 1000000 in
theorem c43 (v : Value) (b : List Int) (w : World) (hb : BS [] w v b) :
    CallsD Tryd.prog 43 #[v] w (.bool (canB b)) := by
  refine enter Tryd.func43 rfl Tryd.ntmps43 (l := [(0, [], _)]) rfl rfl ?_
  have S := St.refl [] w
  have hpk := parH_ok hb.1
  refine Run.seq ?_
  refine Run.region ?_
  refine asg1 rfl rfl ?_
  refine Ro.nil ?_
  refine Nrm.code ?_
  refine Run.seq ?_
  refine Run.region ?_
  refine mv1 rfl rfl ?_
  have S0 := S
  refine call (vs := [_]) ⟨⟨_, _, rfl, rfl⟩, trivial⟩ k42 rfl (c42 _ _ _ (hb.now S)) ?_
  rintro _ w1 ⟨o3, d3, rfl, hFH⟩
  have S := S.call hFH.1
  have ho3 := (hFH.2 _ S0.lt).1
  have hd3 := (hFH.2 _ S0.lt).2
  obtain ⟨N1, hN1, S_1⟩ := S.reb
  have hb := hb.st S; rw [hN1] at hb
  rw [hN1] at ho3
  rw [hN1] at hd3
  have SS := S
  have S := S_1
  refine mv1 rfl rfl ?_
  refine extr1 rfl rfl rfl ?_
  refine extr1 rfl rfl rfl ?_
  refine alc T28 S rfl ?_
  intro b3 w2 hb3 S B_
  refine stW rfl rfl T28 rfl rfl (one_cons rfl (one_cons rfl (one_cons rfl (one_cons rfl (one_cons rfl (one_cons rfl (one_cons rfl (one_cons rfl (one_cons rfl (one_cons rfl (one_cons rfl (one_cons rfl (one_cons rfl (one_cons rfl (one_cons rfl (one_cons rfl (one_cons rfl (one_cons rfl (one_cons rfl (one_cons rfl (one_cons rfl (one_cons rfl (one_cons rfl (one_cons rfl (one_cons rfl (one_cons rfl (one_cons rfl (one_cons rfl (one_cons rfl (one_cons rfl (one_cons rfl (one_cons rfl (one_cons rfl (one_cons rfl (one_cons rfl (one_cons rfl (one_cons rfl (one_cons rfl (one_cons rfl (one_cons rfl (one_cons rfl (one_cons ho3.one (one_cons hd3.one one_nil))))))))))))))))))))))))))))))))))))))))))) S (i := 0) rfl rfl ?_
  intro w3 S
  refine asg1 rfl rfl ?_
  refine Ro.nil ?_
  refine Nrm.code ?_
  refine Run.seq ?_
  refine Run.seq ?_
  refine Run.region ?_
  refine mv1 rfl rfl ?_
  refine neq1 rfl rfl rfl ?_
  refine Ro.nil ?_
  refine Nrm.code ?_
  refine Run.cond rfl (fun hc2 => ?_) (fun hc2 => ?_)
  ·
    try simp only [Bool.or_eq_true, Bool.and_eq_true, Bool.or_eq_false_iff, Bool.and_eq_false_iff, decide_eq_true_eq, decide_eq_false_iff_not, Bool.not_eq_true', Bool.not_eq_false', Bool.not_eq_true, Bool.not_eq_false] at hc2
    refine Run.seq ?_
    refine Run.region ?_
    refine asg1 rfl rfl ?_
    refine Ro.nil ?_
    refine Nrm.code ?_
    refine Run.ret ?_
    refine Rt.one rfl rfl ?_
    exact ⟨by rw [canB, decide_eq_false hc2]; rfl, (SS.tran hN1 S).bl⟩
  ·
    try simp only [Bool.or_eq_true, Bool.and_eq_true, Bool.or_eq_false_iff, Bool.and_eq_false_iff, decide_eq_true_eq, decide_eq_false_iff_not, Bool.not_eq_true', Bool.not_eq_false', Bool.not_eq_true, Bool.not_eq_false] at hc2
    replace hc2 : parE b = 0 := by omega
    have hbl := par_facts hc2
    refine Run.skip ?_
    refine Nrm.code ?_
    refine Run.seq ?_
    refine Run.region ?_
    refine ldW rfl T28 S (i := 0) rfl rfl rfl rfl rfl ?_
    refine call (vs := [_]) ⟨⟨_, _, rfl, rfl⟩, trivial⟩ k115 rfl (c115 _ _ _ _ (ho3.now S) (hd3.now S) (by omega) (by omega) hpk.1 hpk.2.1) ?_
    rintro _ w4 ⟨u5, rfl, hF⟩
    have S := S.fb hF
    have hby_u5 := serL_byt hpk.1 hpk.2.1 ho3.byt hd3.1
    refine mv1 rfl rfl ?_
    refine extr1 rfl rfl rfl ?_
    refine extr1 rfl rfl rfl ?_
    refine asg1 rfl rfl ?_
    refine asg1 rfl rfl ?_
    refine Ro.nil ?_
    refine Nrm.code ?_
    refine Run.seq ?_
    refine Run.region ?_
    refine mv1 rfl rfl ?_
    refine eql1 rfl rfl rfl ?_
    refine mv1 rfl rfl ?_
    refine mv rfl rfl rfl rfl ?_
    refine mv rfl rfl rfl rfl ?_
    refine calg (vs := [_, _]) rfl ⟨⟨_, _, rfl, rfl⟩, ⟨_, _, rfl, rfl⟩, trivial⟩ k37 rfl (fun hG => c37 _ _ _ _ _ (hb.now S) (S.bsI (i := 0) rfl hby_u5)) ?_
    intro w5 B_; have S := S.call B_
    refine pkA rfl rfl rfl rfl rfl rfl ?_
    refine asg1 rfl rfl ?_
    refine Ro.nil ?_
    refine Nrm.code ?_
    refine Run.ret ?_
    refine Rt.one rfl rfl ?_
    exact ⟨by rw [canB, hc2]; rfl, (SS.tran hN1 S).bl⟩

set_option maxHeartbeats 1000000 in
theorem c49 (v : Value) (b : List Int) (w : World) (hb : BS [] w v b) (hl : b.length ≤ 1099511627776) :
    CallsV Tryd.prog 49 #[v] w (fun r w' => ∃ u, r = .tuple #[u, .int .i64 (hopE b)] ∧ FB w w' u (hopB b)) := by
  refine enter Tryd.func49 rfl Tryd.ntmps49 (l := [(0, [], _)]) rfl rfl ?_
  have S := St.refl [] w
  have hB := byt_getD hb.1
  refine Run.seq ?_
  refine Run.region ?_
  refine asg1 rfl rfl ?_
  refine asg1 rfl rfl ?_
  refine Ro.nil ?_
  refine Nrm.code ?_
  refine Run.seq ?_
  refine Run.region ?_
  refine mv1 rfl rfl ?_
  have S0 := S
  refine call (vs := [_]) ⟨⟨_, _, rfl, rfl⟩, trivial⟩ k42 rfl (c42 _ _ _ (hb.now S)) ?_
  rintro _ w1 ⟨o4, d4, rfl, hFH⟩
  have S := S.call hFH.1
  have ho4 := (hFH.2 _ S0.lt).1
  have hd4 := (hFH.2 _ S0.lt).2
  obtain ⟨N1, hN1, S_1⟩ := S.reb
  have hb := hb.st S; rw [hN1] at hb
  rw [hN1] at ho4
  rw [hN1] at hd4
  have SS := S
  have S := S_1
  refine mv1 rfl rfl ?_
  refine extr1 rfl rfl rfl ?_
  refine extr1 rfl rfl rfl ?_
  refine alc T28 S rfl ?_
  intro b4 w2 hb4 S B_
  refine stW rfl rfl T28 rfl rfl (one_cons rfl (one_cons rfl (one_cons rfl (one_cons rfl (one_cons rfl (one_cons rfl (one_cons rfl (one_cons rfl (one_cons rfl (one_cons rfl (one_cons rfl (one_cons rfl (one_cons rfl (one_cons rfl (one_cons rfl (one_cons rfl (one_cons rfl (one_cons rfl (one_cons rfl (one_cons rfl (one_cons rfl (one_cons rfl (one_cons rfl (one_cons rfl (one_cons rfl (one_cons rfl (one_cons rfl (one_cons rfl (one_cons rfl (one_cons rfl (one_cons rfl (one_cons rfl (one_cons rfl (one_cons rfl (one_cons rfl (one_cons rfl (one_cons rfl (one_cons rfl (one_cons rfl (one_cons rfl (one_cons rfl (one_cons ho4.one (one_cons hd4.one one_nil))))))))))))))))))))))))))))))))))))))))))) S (i := 0) rfl rfl ?_
  intro w3 S
  refine asg1 rfl rfl ?_
  refine Ro.nil ?_
  refine Nrm.code ?_
  refine Run.seq ?_
  refine Run.seq ?_
  refine Run.region ?_
  refine mv1 rfl rfl ?_
  refine neq1 rfl rfl rfl ?_
  refine Ro.nil ?_
  refine Nrm.code ?_
  refine Run.cond rfl (fun hc2 => ?_) (fun hc2 => ?_)
  ·
    try simp only [Bool.or_eq_true, Bool.and_eq_true, Bool.or_eq_false_iff, Bool.and_eq_false_iff, decide_eq_true_eq, decide_eq_false_iff_not, Bool.not_eq_true', Bool.not_eq_false', Bool.not_eq_true, Bool.not_eq_false] at hc2
    refine Run.seq ?_
    refine Run.region ?_
    refine mv1 rfl rfl ?_
    refine call (vs := [_]) ⟨⟨_, _, rfl, rfl⟩, trivial⟩ k39 rfl (c39 _ _ _ (hb.now S) (by omega)) ?_
    rintro u17 w4 hF
    have S := S.fb hF
    refine mv1 rfl rfl ?_
    refine asg1 rfl rfl ?_
    refine asg1 rfl rfl ?_
    refine Ro.nil ?_
    refine Nrm.code ?_
    refine Run.ret ?_
    refine Rt.two rfl rfl rfl ?_
    have he : hopE b = parE b := by unfold hopE; rw [if_pos hc2]
    exact ⟨u17, by first | (rw [he]; done) | (rw [he]; rfl), by rw [show hopB b = b from by unfold hopB; rw [if_neg (by omega)]]; exact (SS.tran hN1 S).toFB (i := 0) rfl⟩
  ·
    try simp only [Bool.or_eq_true, Bool.and_eq_true, Bool.or_eq_false_iff, Bool.and_eq_false_iff, decide_eq_true_eq, decide_eq_false_iff_not, Bool.not_eq_true', Bool.not_eq_false', Bool.not_eq_true, Bool.not_eq_false] at hc2
    replace hc2 : parE b = 0 := by omega
    have hpf := par_facts hc2
    have htl := parH_ttl hc2
    refine Run.skip ?_
    refine Nrm.code ?_
    refine Run.seq ?_
    refine Run.seq ?_
    refine Run.region ?_
    refine fld (o' := 5) rfl fo28_5 rfl rfl rfl rfl ?_
    refine ld1 rfl T3 S (i := 0) rfl rfl rfl rfl rfl ?_
    refine lss1 rfl rfl rfl ?_
    refine Ro.nil ?_
    refine Nrm.code ?_
    refine Run.cond rfl (fun hc4 => ?_) (fun hc4 => ?_)
    ·
      try simp only [Bool.or_eq_true, Bool.and_eq_true, Bool.or_eq_false_iff, Bool.and_eq_false_iff, decide_eq_true_eq, decide_eq_false_iff_not, Bool.not_eq_true', Bool.not_eq_false', Bool.not_eq_true, Bool.not_eq_false] at hc4
      refine Run.seq ?_
      refine Run.region ?_
      refine mv1 rfl rfl ?_
      refine call (vs := [_]) ⟨⟨_, _, rfl, rfl⟩, trivial⟩ k39 rfl (c39 _ _ _ (hb.now S) (by omega)) ?_
      rintro u23 w4 hF
      have S := S.fb hF
      refine asg1 rfl rfl ?_
      refine asg1 rfl rfl ?_
      refine Ro.nil ?_
      refine Nrm.code ?_
      refine Run.ret ?_
      refine Rt.two rfl rfl rfl ?_
      have he : hopE b = 67 := by unfold hopE; rw [if_neg (by omega), if_pos (by omega)]
      exact ⟨u23, by first | (rw [he]; done) | (rw [he]; rfl), by rw [show hopB b = b from by unfold hopB; rw [if_neg (by omega)]]; exact (SS.tran hN1 S).toFB (i := 0) rfl⟩
    ·
      try simp only [Bool.or_eq_true, Bool.and_eq_true, Bool.or_eq_false_iff, Bool.and_eq_false_iff, decide_eq_true_eq, decide_eq_false_iff_not, Bool.not_eq_true', Bool.not_eq_false', Bool.not_eq_true, Bool.not_eq_false] at hc4
      have hb8 : 2 ≤ b.getD 8 0 := by omega
      refine Run.skip ?_
      refine Nrm.code ?_
      refine Run.seq ?_
      refine Run.region ?_
      refine mv1 rfl rfl ?_
      refine call (vs := [_]) ⟨⟨_, _, rfl, rfl⟩, trivial⟩ k39 rfl (c39 _ _ _ (hb.now S) (by omega)) ?_
      rintro u25 w4 hF
      have S := S.fb hF
      refine asg1 rfl rfl ?_
      refine Ro.nil ?_
      refine Nrm.code ?_
      refine Run.seq ?_
      refine Run.region ?_
      refine mv1 rfl rfl ?_
      refine ixa rfl rfl (S.slI (i := 0) rfl) e26 rfl rfl rfl rfl (fun _ => by first | omega | (simp only [List.length_cons, List.length_nil]; omega)) ?_
      refine ldB rfl (S.bsI (i := 0) rfl hb.1) (St.refl [] _) T5 rfl rfl rfl (fun _ => by omega) ?_
      intro q28 hq28 hbq28
      try simp only [Int.toNat_natCast, Nat.mul_one, Int.reduceToNat] at hq28
      refine rem1 rfl rfl rfl (by decide) (r64 (by omega)) ?_
      refine cvi1 rfl rfl Tryd.underlying5 Tryd.underlying3 (w64 (by omega)) ?_
      refine mul1 rfl rfl rfl ((show IntKind.i64.wrap (_ * 4) = (hdN b : Int) from by rw [w64 (by omega)]; have hH : 4 * (b.getD 0 0 % 16) = (hdN b : Int) := (by unfold hdN; omega); omega)) ?_
      refine asg1 rfl rfl ?_
      refine Ro.nil ?_
      refine Nrm.code ?_
      refine Run.seq ?_
      refine Run.region ?_
      refine mv1 rfl rfl ?_
      refine mv1 rfl rfl ?_
      refine ixa rfl rfl (S.slI (i := 0) rfl) e26 rfl rfl rfl rfl (fun _ => by first | omega | (simp only [List.length_cons, List.length_nil]; omega)) ?_
      refine ldB rfl (S.bsI (i := 0) rfl hb.1) (St.refl [] _) T5 rfl rfl rfl (fun _ => by omega) ?_
      intro q35 hq35 hbq35
      try simp only [Int.toNat_natCast, Nat.mul_one, Int.reduceToNat] at hq35
      refine sub1 rfl rfl rfl (w8of rfl (by omega)) ?_
      subst hq35
      have hMb : byt (b.set 8 (b.getD 8 0 - 1)) := byt_set hb.1 _ (by omega)
      have hCb := hopC_bd (b := b) hMb
      refine ixa rfl rfl (S.slI (i := 0) rfl) e26 rfl rfl rfl rfl (fun _ => by omega) ?_
      refine stB rfl rfl T5 S (i := 0) rfl (by omega) rfl ?_
      intro w5 S
      refine Ro.nil ?_
      refine Nrm.code ?_
      refine Run.seq ?_
      refine Run.heldB (by kernel_rfl) S [true, true] rfl rfl rfl ?_
      intro w6 BD S SC
      refine Hb.take (i := 0) SC (fun _ _ S B => S.call B) Pp.body rfl (by kernel_rfl) (by kernel_rfl) (by kernel_rfl) rfl rfl ?_
      have hr25 := S.bsI (i := 0) (l := b.set 8 (b.getD 8 0 - 1)) rfl hMb
      refine qmv rfl rfl rfl rfl ?_
      refine Hb.back ?_
      refine Hb.take (i := 1) SC (fun _ _ S B => S.call B) Pp.body rfl (by kernel_rfl) (by kernel_rfl) (by kernel_rfl) rfl rfl ?_
      refine qslC (lo := 0) (hi := 10) (mx := capV u25) rfl hr25 e26 rfl rfl rfl (i1 := none) (i2 := some 10) (i3 := none) trivial ⟨_, _, _, rfl, rfl⟩ trivial rfl rfl rfl (fun h => by first | rfl | cases h) (fun _ => by have := hr25.cap; rw [List.length_set] at *; omega) ?_
      refine Hb.back ?_
      refine Hb.take (i := 2) SC (fun _ _ S B => S.call B) Pp.body rfl (by kernel_rfl) (by kernel_rfl) (by kernel_rfl) rfl rfl ?_
      refine qmv rfl rfl rfl rfl ?_
      refine Hb.back ?_
      refine Hb.take (i := 3) SC (fun _ _ S B => S.call B) Pp.body rfl (by kernel_rfl) (by kernel_rfl) (by kernel_rfl) rfl rfl ?_
      refine qmv rfl rfl rfl rfl ?_
      refine Hb.back ?_
      refine Hb.take (i := 4) SC (fun _ _ S B => S.call B) Pp.body rfl (by kernel_rfl) (by kernel_rfl) (by kernel_rfl) rfl rfl ?_
      refine qslC (lo := 12) (hi := hdN b) (mx := capV u25) rfl hr25 e26 rfl rfl rfl (i1 := some 12) (i2 := some (hdN b)) (i3 := none) ⟨_, _, _, rfl, rfl⟩ ⟨_, _, _, rfl, rfl⟩ trivial rfl rfl rfl (fun h => by first | rfl | cases h) (fun _ => by have := hr25.cap; rw [List.length_set] at *; omega) ?_
      refine Hb.back ?_
      refine Hb.one (i := 5) (by kernel_rfl) rfl rfl ?_
      intro w7 BD; have S := S.call BD
      refine bsl e102 (qs := [(_, _), (_, _)]) ⟨⟨_, _, _, rfl, rfl, cells1 hr25.cutOne, rfl, List.cons_ne_nil _ _⟩, ⟨_, _, _, rfl, rfl, cells1 hr25.cutOne, rfl, List.cons_ne_nil _ _⟩, trivial⟩ rfl rfl rfl rfl S ?_
      intro u43 w8 S B_
      have SC := S.pick [false, true, true] rfl
      refine Hb.on SC ?_
      refine Hb.one (i := 6) (by kernel_rfl) rfl rfl ?_
      intro w9 BD; have S := S.call BD
      have hr := S.bsI (i := 1) (l := (b.set 8 (b.getD 8 0 - 1))) rfl hMb
      have hck : CallsD Tryd.prog 117 #[u43] w9 (.int .i64 (hopC b)) := by
        have := c117 u43 [((hopM b).drop 0).take (10 - 0), ((hopM b).drop 12).take (hdN b - 12)] w9 ⟨[_, _], S.slI (i := 0) rfl, hr.cut (lo := 0) (hi := 10) (mx := capV u25) (by have := hr.cap; rw [List.length_set] at *; omega), hr.cut (lo := 12) (hi := hdN b) (mx := capV u25) (by have := hr.cap; rw [List.length_set] at *; omega), trivial⟩ (by simp [hopM]; omega) (by simp)
        rw [show [((hopM b).drop 0).take (10 - 0), ((hopM b).drop 12).take (hdN b - 12)].flatten = (hopM b).take 10 ++ ((hopM b).drop 12).take (hdN b - 12) from by simp] at this
        exact this
      refine calg (vs := [_]) rfl ⟨⟨_, _, rfl, rfl⟩, trivial⟩ k117 rfl (fun hG => hck) ?_
      intro w10 B_; have S := S.call B_
      have SC := S.pick [false, true, true] rfl
      refine Hb.on SC ?_
      refine Hb.take (i := 7) SC (fun _ _ S B => S.call B) Pp.body rfl (by kernel_rfl) (by kernel_rfl) (by kernel_rfl) rfl rfl ?_
      refine qasg rfl rfl rfl rfl ?_
      refine Hb.back ?_
      refine Hb.done (by kernel_rfl) ?_
      intro w11 BD; have S := S.call BD
      refine Nrm.code ?_
      refine Run.seq ?_
      refine Run.region ?_
      refine mv1 rfl rfl ?_
      refine mv1 rfl rfl ?_
      refine quo1 rfl rfl rfl (by decide) (q64 (by omega)) ?_
      refine cvi1 rfl rfl Tryd.underlying3 Tryd.underlying5 (w8of rfl (by omega)) ?_
      refine ixa rfl rfl (S.slI (i := 1) rfl) e26 rfl rfl rfl rfl (by simp; omega) ?_
      refine stB rfl rfl T5 S (i := 1) rfl (by simp; omega) rfl ?_
      intro w12 S
      refine Ro.nil ?_
      refine Nrm.code ?_
      refine Run.seq ?_
      refine Run.region ?_
      refine mv1 rfl rfl ?_
      refine mv1 rfl rfl ?_
      refine rem1 rfl rfl rfl (by decide) (r64 (by omega)) ?_
      refine cvi1 rfl rfl Tryd.underlying3 Tryd.underlying5 (w8of rfl (by omega)) ?_
      refine ixa rfl rfl (S.slI (i := 1) rfl) e26 rfl rfl rfl rfl (by simp; omega) ?_
      refine stB rfl rfl T5 S (i := 1) rfl (by simp; omega) rfl ?_
      intro w13 S
      refine Ro.nil ?_
      refine Nrm.code ?_
      refine Run.seq ?_
      refine Run.region ?_
      refine mv1 rfl rfl ?_
      refine asg1 rfl rfl ?_
      refine asg1 rfl rfl ?_
      refine Ro.nil ?_
      refine Nrm.code ?_
      refine Run.ret ?_
      refine Rt.two rfl rfl rfl ?_
      have he : hopE b = 0 := by unfold hopE; rw [if_neg (by omega), if_neg (by omega)]
      exact ⟨u25, by first | (rw [he]; done) | (rw [he]; rfl), by rw [show hopB b = hopW b from by unfold hopB; rw [if_pos he]]; exact (SS.tran hN1 S).toFB (i := 1) rfl⟩

end Go.Proofs.YtkahmepenjhcpaaDoor.W

/- The walk of weirlaw6.Ip4Back. No statement of the seat is proved here. -/
namespace Go.Proofs.YtkahmepenjhcpaaDoor.W
open Go
set_option linter.unusedSimpArgs false
set_option linter.unusedVariables false


theorem chkE_bd (h : Ip4) : 0 ≤ chkE h ∧ chkE h ≤ 68 := by
  have := fragE_or h.mf h.off h.data.length
  have : putE h.opts = 0 ∨ putE h.opts = 65 := by unfold putE; split <;> simp
  unfold chkE
  (repeat' split) <;> omega
theorem parE_bd (b : List Int) : 0 ≤ parE b ∧ parE b ≤ 66 := by
  have := optE_le (optB4 b)
  have := fragE_or (decide (b.getD 6 0 / 32 % 2 = 1)) (8 * offW b) ((totN b : Int) - hdN b)
  unfold parE
  (repeat' split) <;> omega
theorem ser_len {h : Ip4} (hc : chkE h = 0) : (serL h).length = 20 + (putL h.opts).length + h.data.length := by
  unfold serL; rw [if_pos hc, serB_eq]; simp [hd20]; omega
theorem ser_good {h : Ip4} (hc : chkE h = 0) (h1 : h.src.ok) (h2 : h.dst.ok) (hd : ∀ o ∈ h.opts, W.byt o.data) : sumS (((serL h).drop 0).take (20 + (putL h.opts).length - 0)) = 65535 := by
  have hl := putL_len h.opts
  unfold serL; rw [if_pos hc, serB_eq, ← List.append_assoc]
  rw [show (hd20 h ++ putL h.opts ++ h.data).drop 0 = hd20 h ++ putL h.opts ++ h.data from rfl, List.take_left' (by simp [hd20]; omega)]
  exact sum_right (headB_byt hc h1 h2 hd) (by omega)

set_option maxHeartbeats 1000000 in
theorem c3 (h : Ip4) (o d : Value) (w : World) (hO : OS [] w o h.opts) (hd : BS [] w d h.data) (hol : h.opts.length ≤ 1099511627776) (hdl : h.data.length ≤ 1099511627776) (hs : h.src.ok) (ht : h.dst.ok) (hdo : ∀ o ∈ h.opts, o.data.length ≤ 140737488355328) (hg : GV [] w 0 130 (W4.map i64)) :
    CallsD Tryd.prog 3 #[.agg (encIp4 h o d).toArray] w (.bool true) := by
  refine enter Tryd.func3 rfl Tryd.ntmps3 (l := [(0, [], _)]) rfl rfl ?_
  have S := St.refl [] w
  refine Run.seq ?_
  refine Run.region ?_
  refine boxA rfl S rfl ?_
  intro b1 w1 hb1 S B_
  refine asg1 rfl rfl ?_
  refine Ro.nil ?_
  refine Nrm.code ?_
  refine Run.seq ?_
  refine Run.region ?_
  refine calg (vs := []) rfl trivial k28 rfl (fun hG => c28 _ (hg.now S)) ?_
  intro w2 B_; have S := S.call B_
  refine asg1 rfl rfl ?_
  refine Ro.nil ?_
  refine Nrm.code ?_
  refine Run.seq ?_
  refine Run.region ?_
  refine ldW rfl T28 S (i := 0) rfl rfl rfl rfl rfl ?_
  have S0 := S
  refine call (vs := [_]) ⟨⟨_, _, rfl, rfl⟩, trivial⟩ k29 rfl (c29 _ _ _ _ (hO.now S) (hd.now S) hol hdl hdo) ?_
  rintro _ w3 ⟨oc, dc, rfl, B1, hcl⟩
  have hcl2 := hcl _ (S0.lt)
  have Sb := S0.call B1
  have hO := hO.st Sb
  have hd := hd.st Sb
  have hg := hg.st Sb
  have S := Sb.rebase
  have hoc := hcl2.1
  have hdc := hcl2.2
  refine alc T28 S rfl ?_
  intro b4 w4 hb4 S B_
  refine stW rfl rfl T28 rfl rfl (one_cons rfl (one_cons rfl (one_cons rfl (one_cons rfl (one_cons rfl (one_cons rfl (one_cons rfl (one_cons rfl (one_cons rfl (one_cons rfl (one_cons rfl (one_cons rfl (one_cons rfl (one_cons rfl (one_cons rfl (one_cons rfl (one_cons rfl (one_cons rfl (one_cons rfl (one_cons rfl (one_cons rfl (one_cons rfl (one_cons rfl (one_cons rfl (one_cons rfl (one_cons rfl (one_cons rfl (one_cons rfl (one_cons rfl (one_cons rfl (one_cons rfl (one_cons rfl (one_cons rfl (one_cons rfl (one_cons rfl (one_cons rfl (one_cons rfl (one_cons rfl (one_cons rfl (one_cons rfl (one_cons rfl (one_cons hoc.one (one_cons hdc.one one_nil))))))))))))))))))))))))))))))))))))))))))) S (i := 0) rfl rfl ?_
  intro w5 S
  refine Ro.nil ?_
  refine Nrm.code ?_
  refine Run.seq ?_
  refine Run.region ?_
  refine ldW rfl T28 S (i := 1) rfl rfl rfl rfl rfl ?_
  refine call (vs := [_]) ⟨⟨_, _, rfl, rfl⟩, trivial⟩ k30 rfl (c30 _ _ _ _ (hO.now S) (hd.now S) (by exact hol) (by exact hdl) hs ht (hg.now S)) ?_
  rintro _ w6 ⟨u5, rfl, hF⟩
  have S := S.fb hF
  have hb5 := S.layB (serL_byt hs ht hO.byt hd.1)
  have Sc := S.drop0
  have hO := hO.st Sc
  have hd := hd.st Sc
  have hg := hg.st Sc
  have hoc := hoc.st Sc
  have hdc := hdc.st Sc
  have S := Sc.rebase
  refine mv1 rfl rfl ?_
  refine extr1 rfl rfl rfl ?_
  refine extr1 rfl rfl rfl ?_
  refine asg1 rfl rfl ?_
  refine asg1 rfl rfl ?_
  refine Ro.nil ?_
  refine Nrm.code ?_
  refine Run.seq ?_
  refine Run.seq ?_
  refine Run.draw (by kernel_rfl) (by kernel_rfl) S ?_
  refine qmv rfl rfl rfl rfl ?_
  refine qnt rfl rfl rfl rfl ?_
  refine qmv rfl rfl rfl rfl ?_
  refine qmv rfl rfl rfl rfl ?_
  refine qcal (vs := [_]) rfl ⟨⟨_, _, rfl, rfl⟩, trivial⟩ k31 rfl (fun _ _ S B => S.call B) (fun hG w_ S => c31 (chkE h) _ (by have := chkE_bd h; omega)) ?_
  refine qldW rfl T28 (fun _ S => S) (i := 1) rfl rfl rfl rfl rfl ?_
  refine qcal (vs := [_]) rfl ⟨⟨_, _, rfl, rfl⟩, trivial⟩ k32 rfl (fun _ _ S B => S.call B) (fun hG w_ S => c32 _ _ _ _ (hO.now S) (hd.now S) hol hdl) ?_
  refine qcal (vs := [_]) rfl ⟨⟨_, _, rfl, rfl⟩, trivial⟩ k31 rfl (fun _ _ S B => S.call B) (fun hG w_ S => c31 (chkE h) _ (by have := chkE_bd h; omega)) ?_
  refine qneq rfl rfl rfl rfl rfl rfl ?_
  refine qpkO rfl rfl rfl rfl rfl rfl ?_
  refine Qo.nil (fun w7 S => ?_)
  refine Nrm.code ?_
  refine Run.cond rfl (fun hc4 => ?_) (fun hc4 => ?_)
  ·
    try simp only [Bool.or_eq_true, Bool.and_eq_true, Bool.or_eq_false_iff, Bool.and_eq_false_iff, decide_eq_true_eq, decide_eq_false_iff_not, Bool.not_eq_true', Bool.not_eq_false', Bool.not_eq_true, Bool.not_eq_false] at hc4
    exfalso; simp at hc4
  ·
    try simp only [Bool.or_eq_true, Bool.and_eq_true, Bool.or_eq_false_iff, Bool.and_eq_false_iff, decide_eq_true_eq, decide_eq_false_iff_not, Bool.not_eq_true', Bool.not_eq_false', Bool.not_eq_true, Bool.not_eq_false] at hc4
    refine Run.skip ?_
    refine Nrm.code ?_
    refine Run.seq ?_
    refine Run.seq ?_
    refine Run.region ?_
    refine mv1 rfl rfl ?_
    refine calg (vs := [_]) rfl ⟨⟨_, _, rfl, rfl⟩, trivial⟩ k31 rfl (fun hG => c31 (chkE h) _ (by have := chkE_bd h; omega)) ?_
    intro w8 B_; have S := S.call B_
    refine neq1 rfl rfl rfl ?_
    refine Ro.nil ?_
    refine Nrm.code ?_
    refine Run.cond rfl (fun hc6 => ?_) (fun hc6 => ?_)
    ·
      try simp only [Bool.or_eq_true, Bool.and_eq_true, Bool.or_eq_false_iff, Bool.and_eq_false_iff, decide_eq_true_eq, decide_eq_false_iff_not, Bool.not_eq_true', Bool.not_eq_false', Bool.not_eq_true, Bool.not_eq_false] at hc6
      refine Run.seq ?_
      refine Run.region ?_
      refine mv1 rfl rfl ?_
      refine lenS rfl hb5.2 Tryd.underlying26 rfl rfl rfl ?_
      refine eql1 rfl rfl rfl ?_
      refine asg1 rfl rfl ?_
      refine Ro.nil ?_
      refine Nrm.code ?_
      refine Run.ret ?_
      refine Rt.one rfl rfl ?_
      exact ⟨by rw [serL, if_neg hc6]; rfl, (Sb.trans (Sc.trans S)).bl⟩
    ·
      try simp only [Bool.or_eq_true, Bool.and_eq_true, Bool.or_eq_false_iff, Bool.and_eq_false_iff, decide_eq_true_eq, decide_eq_false_iff_not, Bool.not_eq_true', Bool.not_eq_false', Bool.not_eq_true, Bool.not_eq_false] at hc6
      replace hc6 : chkE h = 0 := by omega
      have hodt := hO.byt
      have hsl := ser_len hc6
      have hbk := ser_back hc6 hs ht hodt
      have hse : serL h = serB h := by unfold serL; rw [if_pos hc6]
      rw [← hse] at hbk
      have hA := hbk.1
      have hS2 : sameH (parH (serL h)) h = true := by rw [hbk.2]; exact normH_same (chkE_zero hc6).1
      have hC := ser_canon hc6 hs ht hodt
      have hgood := ser_good hc6 hs ht hodt
      have hpk := parH_ok hb5.1
      have hz3 := (chkE_zero hc6).2.2.1
      refine Run.skip ?_
      refine Nrm.code ?_
      refine Run.seq ?_
      refine Run.seq ?_
      refine Run.region ?_
      refine mv1 rfl rfl ?_
      refine lenS rfl hb5.2 Tryd.underlying26 rfl rfl rfl ?_
      refine fld (o' := 42) rfl fo28_10 rfl rfl rfl rfl ?_
      refine ld1 rfl T26 S (i := 1) rfl rfl rfl rfl rfl ?_
      refine lenS rfl hd.2 Tryd.underlying26 rfl rfl rfl ?_
      refine lss1 rfl rfl rfl ?_
      refine Ro.nil ?_
      refine Nrm.code ?_
      refine Run.cond rfl (fun hc8 => ?_) (fun hc8 => ?_)
      ·
        try simp only [Bool.or_eq_true, Bool.and_eq_true, Bool.or_eq_false_iff, Bool.and_eq_false_iff, decide_eq_true_eq, decide_eq_false_iff_not, Bool.not_eq_true', Bool.not_eq_false', Bool.not_eq_true, Bool.not_eq_false] at hc8
        exfalso; omega
      ·
        try simp only [Bool.or_eq_true, Bool.and_eq_true, Bool.or_eq_false_iff, Bool.and_eq_false_iff, decide_eq_true_eq, decide_eq_false_iff_not, Bool.not_eq_true', Bool.not_eq_false', Bool.not_eq_true, Bool.not_eq_false] at hc8
        refine Run.skip ?_
        refine Nrm.code ?_
        refine Run.seq ?_
        refine Run.region ?_
        refine mv1 rfl rfl ?_
        refine call (vs := [_]) ⟨⟨_, _, rfl, rfl⟩, trivial⟩ k33 rfl (c33 _ _ _ (hb5.now S) (hg.now S)) ?_
        rintro _ w9 ⟨o7, d7, vs7, rfl, hF, hw7⟩
        have S := S.fo hF
        have hd7 := (hw7 _ _ hb5).2
        have ho7 := (hw7 _ _ hb5).1
        refine mv1 rfl rfl ?_
        refine extr1 rfl rfl rfl ?_
        refine extr1 rfl rfl rfl ?_
        refine alc T28 S rfl ?_
        intro b7 w10 hb7 S B_
        refine stW rfl rfl T28 rfl rfl (one_cons rfl (one_cons rfl (one_cons rfl (one_cons rfl (one_cons rfl (one_cons rfl (one_cons rfl (one_cons rfl (one_cons rfl (one_cons rfl (one_cons rfl (one_cons rfl (one_cons rfl (one_cons rfl (one_cons rfl (one_cons rfl (one_cons rfl (one_cons rfl (one_cons rfl (one_cons rfl (one_cons rfl (one_cons rfl (one_cons rfl (one_cons rfl (one_cons rfl (one_cons rfl (one_cons rfl (one_cons rfl (one_cons rfl (one_cons rfl (one_cons rfl (one_cons rfl (one_cons rfl (one_cons rfl (one_cons rfl (one_cons rfl (one_cons rfl (one_cons rfl (one_cons rfl (one_cons rfl (one_cons rfl (one_cons (S.slI (i := 1) rfl).one (one_cons hd7.one one_nil))))))))))))))))))))))))))))))))))))))))))) S (i := 0) rfl rfl ?_
        intro w11 S
        refine asg1 rfl rfl ?_
        refine Ro.nil ?_
        refine Nrm.code ?_
        refine Run.seq ?_
        refine Run.region ?_
        refine mv1 rfl rfl ?_
        refine calg (vs := [_]) rfl ⟨⟨_, _, rfl, rfl⟩, trivial⟩ k31 rfl (fun hG => c31 (parE (serL h)) _ (by have := parE_bd (serL h); omega)) ?_
        intro w12 B_; have S := S.call B_
        refine eql1 rfl rfl rfl ?_
        refine mv1 rfl rfl ?_
        refine ldW rfl T28 S (i := 0) rfl rfl rfl rfl rfl ?_
        refine ldW rfl T28 S (i := 2) rfl rfl rfl rfl rfl ?_
        refine calg (vs := [_, _]) rfl ⟨⟨_, _, rfl, rfl⟩, ⟨_, _, rfl, rfl⟩, trivial⟩ k34 rfl (fun hG => c34 _ _ _ _ _ _ _ (S.osI (i := 1) rfl (ho7.now S)) (hd7.now S) (hoc.now S) (hdc.now S) (by have := hpk.2.2.1; omega)) ?_
        intro w13 B_; have S := S.call B_
        refine pkA rfl rfl rfl rfl rfl rfl ?_
        refine mv1 rfl rfl ?_
        refine mv rfl rfl rfl rfl ?_
        refine calg (vs := [_]) rfl ⟨⟨_, _, rfl, rfl⟩, trivial⟩ k35 rfl (fun hG => c35 _ _ _ (hb5.now S) (hg.now S)) ?_
        intro w14 B_; have S := S.call B_
        refine pkA rfl rfl rfl rfl rfl rfl ?_
        refine mv1 rfl rfl ?_
        refine mv rfl rfl rfl rfl ?_
        refine mv rfl rfl rfl rfl ?_
        refine lenS rfl hb5.2 Tryd.underlying26 rfl rfl rfl ?_
        refine fld (o' := 42) rfl fo28_10 rfl rfl rfl rfl ?_
        refine ld1 rfl T26 S (i := 3) rfl rfl rfl rfl rfl ?_
        refine lenS rfl hd.2 Tryd.underlying26 rfl rfl rfl ?_
        refine sub rfl rfl rfl rfl rfl rfl (fun hG => by first | exact (show IntKind.i64.wrap (((serL h).length : Int) - (h.data.length : Int)) = ((20 + (putL h.opts).length : Nat) : Int) from by rw [w64 (by omega)]; omega) | (simp [allT] at hG; exact (show IntKind.i64.wrap (((serL h).length : Int) - (h.data.length : Int)) = ((20 + (putL h.opts).length : Nat) : Int) from by rw [w64 (by omega)]; omega))) ?_
        refine slC (lo := 0) (hi := 20 + (putL h.opts).length) (mx := capV u5) rfl hb5 e26 rfl rfl rfl (i1 := none) (i2 := some (20 + (putL h.opts).length)) (i3 := none) trivial ⟨_, _, _, rfl, rfl⟩ trivial rfl rfl rfl (fun h => by first | rfl | cases h) (fun _ => by have hcap := hb5.cap; exact (show 0 ≤ 20 + (putL h.opts).length ∧ 20 + (putL h.opts).length ≤ (serL h).length ∧ 20 + (putL h.opts).length ≤ capV u5 ∧ capV u5 ≤ capV u5 from by omega)) ?_
        refine Ro.strip (by simp [allT, hA, hS2, hC]) ?_
        have hv64 := hb5.cut (lo := 0) (hi := 20 + (putL h.opts).length) (mx := capV u5) (by have := hb5.cap; omega)
        refine Ro.gtrue rfl (by simp [allT, hA, hS2, hC]) ?_
        refine bsl e102 (qs := [(_, _)]) ⟨⟨_, _, _, rfl, rfl, cells1 hv64.one, rfl, List.cons_ne_nil _ _⟩, trivial⟩ rfl rfl rfl rfl S ?_
        intro u65 w15 S B_
        have hgd : CallsD Tryd.prog 36 #[u65] w15 (.bool true) := by
          have := c36 u65 [_] w15 ⟨[_], S.slI (i := 0) rfl, hv64.now S, trivial⟩ (by rw [flat1, List.length_take]; omega) (by simp)
          rw [flat1, decide_eq_true hgood] at this
          exact this
        refine calg (vs := [_]) rfl ⟨⟨_, _, rfl, rfl⟩, trivial⟩ k36 rfl (fun hG => hgd) ?_
        intro w16 B_; have S := S.call B_
        refine pkA rfl rfl rfl rfl rfl rfl ?_
        refine asg1 rfl rfl ?_
        refine Ro.nil ?_
        refine Nrm.code ?_
        refine Run.ret ?_
        refine Rt.one rfl rfl ?_
        exact ⟨by simp [hA, hS2, hC], (Sb.trans (Sc.trans S)).bl⟩

end Go.Proofs.YtkahmepenjhcpaaDoor.W

/- Plain facts: what is read may be written. No statement of the seat is proved here. -/
namespace Go.Proofs.YtkahmepenjhcpaaDoor.W
open Go
set_option linter.unusedVariables false
set_option linter.unusedSimpArgs false

theorem optsG_ok : ∀ (n : Nat) (b : List Int), b.length ≤ n → b.length ≤ 40 → byt b → ∀ l, optsG b = some l → l.all okO = true ∧ (optsB l).length ≤ b.length := by
  intro n
  induction n with
  | zero =>
    intro b hb _ _ l h
    have : b = [] := List.length_eq_zero_iff.1 (by omega)
    subst this
    rw [optsG] at h; simp at h; subst h; simp [optsB]
  | succ n ih =>
    intro b hb h40 hby l h
    match b with
    | [] => rw [optsG] at h; simp at h; subst h; simp [optsB]
    | [k] =>
      rw [optsG] at h
      split at h
      · simp at h; subst h; simp [optsB]
      · simp at h
    | k :: m :: r =>
      have hk := hby k (by simp)
      have hm := hby m (by simp)
      have hr : byt r := fun x hx => hby x (by simp [hx])
      have hmr : byt (m :: r) := fun x hx => hby x (by rcases List.mem_cons.1 hx with e | e <;> simp [e])
      simp only [List.length_cons] at hb h40
      rw [optsG] at h
      split at h
      · simp at h; subst h; simp [optsB]
      · rename_i hk0
        split at h
        · have := ih (m :: r) (by simp; omega) (by simp; omega) hmr l h
          exact ⟨this.1, by have := this.2; simp only [List.length_cons] at this ⊢; omega⟩
        · rename_i hk1
          split at h
          · simp at h
          · rename_i hm2
            cases hg : optsG (r.drop (m.toNat - 2)) with
            | none => rw [hg] at h; simp at h
            | some l' =>
              rw [hg] at h
              simp only [Option.map_some, Option.some.injEq] at h
              subst h
              have := ih (r.drop (m.toNat - 2)) (by simp; omega) (by simp; omega) (byt_drop hr _) l' hg
              simp only [not_or, Int.not_lt, Nat.not_lt] at hm2
              have hlen : (r.take (m.toNat - 2)).length = m.toNat - 2 := by rw [List.length_take]; omega
              refine ⟨?_, ?_⟩
              · rw [List.all_cons, this.1, Bool.and_true, okO_iff]
                refine ⟨by show 2 ≤ k; omega, by show k ≤ 255; omega, by show (r.take (m.toNat - 2)).length ≤ 38; omega⟩
              · have h2 := this.2
                rw [List.length_drop] at h2
                have e : optsB (⟨k, r.take (m.toNat - 2)⟩ :: l') = optB ⟨k, r.take (m.toNat - 2)⟩ ++ optsB l' := by simp [optsB]
                rw [e, List.length_append, optB_len]
                show 2 + (r.take (m.toNat - 2)).length + _ ≤ _
                simp only [List.length_cons]; omega
theorem optL_ok {b : List Int} (hb : byt b) (h : optE b = 0) : putOk (optL b) = true ∧ (putL (optL b)).length ≤ b.length + (4 - b.length % 4) % 4 ∧ b.length ≤ 40 := by
  unfold optE at h
  by_cases h1 : 40 < b.length
  · rw [if_pos h1] at h; omega
  rw [if_neg h1] at h
  cases hg : optsG b with
  | none => rw [hg] at h; simp at h
  | some l =>
    have hk := optsG_ok b.length b (Nat.le_refl _) (by omega) hb l hg
    have e : optL b = l := by unfold optL; rw [if_neg h1, hg]; rfl
    rw [e]
    have hp : putOk l = true := putOk_yes hk.1 (by omega)
    refine ⟨hp, ?_, by omega⟩
    unfold putL
    rw [if_pos hp]
    have := pad4_len (optsB l)
    omega
theorem optB4_len {b : List Int} (h : hdN b ≤ b.length) : (optB4 b).length = hdN b - 20 := by
  unfold optB4; rw [List.length_take, List.length_drop]; omega
theorem hdN_four (b : List Int) : hdN b % 4 = 0 := by unfold hdN; omega
theorem parG_data {b : List Int} (h1 : hdN b ≤ totN b) (h2 : totN b ≤ b.length) : (parG b).data.length = totN b - hdN b := by
  show ((b.drop (hdN b)).take (totN b - hdN b)).length = _
  rw [List.length_take, List.length_drop]; omega
theorem putL_par {b : List Int} (hb : byt b) (hp : parE b = 0) : 20 + (putL (parG b).opts).length ≤ hdN b := by
  obtain ⟨_, _, _, h1, h2, _, _, _, ho, _⟩ := par_facts hp
  have h3 := (optL_ok (b := optB4 b) (byt_take (byt_drop hb _) _) ho).2.1
  have h4 := optB4_len h2
  have h5 := hdN_four b
  show 20 + (putL (optL (optB4 b))).length ≤ _
  omega
theorem ipOf_four (b : List Int) (i : Nat) : fourB (ipOf b i) = true := by
  unfold fourB ipOf ip4of
  rw [Bool.and_eq_true]
  refine ⟨by simp, ?_⟩
  rw [List.all_eq_true]
  intro j hj
  simp only [Bool.or_eq_true, decide_eq_true_eq]
  rcases Nat.lt_or_ge j 4 with h | h
  · exact .inl h
  · right
    rw [if_neg (by omega), if_neg (by omega), if_neg (by omega), if_neg (by omega)]
/-- what is read may be a datagram -/
theorem chk_par {b : List Int} (hb : byt b) (hp : parE b = 0) : chkE (parH b) = 0 := by
  have hf := par_facts hp
  obtain ⟨h20, hmx, hv, hh, hhb, hht, htb, hs, ho, hfr⟩ := hf
  have hB := byt_getD hb
  have B1 := hB 1
  have B4 := hB 4
  have B5 := hB 5
  have B6 := hB 6
  have B7 := hB 7
  have B8 := hB 8
  have B9 := hB 9
  have hpl := putL_par hb hp
  have hd := parG_data hht htb
  have hpo := (optL_ok (b := optB4 b) (byt_take (byt_drop hb _) _) ho).1
  have hw : 0 ≤ offW b ∧ offW b < 8192 := by unfold offW; omega
  unfold parH
  rw [if_pos hp]
  have hbad : badF (parG b) = false := by
    unfold badF outN parG
    rw [ipOf_four, ipOf_four]
    simp only [Bool.or_eq_false_iff, decide_eq_false_iff_not, Bool.not_true]
    have : (8 * offW b) % 8 = 0 := by omega
    refine ⟨⟨⟨⟨⟨⟨⟨⟨?_, ?_⟩, ?_, ?_⟩, ?_, ?_⟩, ?_⟩, ?_, ?_⟩, ?_, ?_⟩, ?_⟩, ?_⟩ <;> first | rfl | trivial | omega
  unfold chkE
  rw [if_neg (by rw [hbad]; simp), if_neg (by show ¬ putE (optL (optB4 b)) ≠ 0; unfold putE; rw [if_pos hpo]; omega), if_neg (by omega)]
  rw [show ((parG b).data.length : Int) = (totN b : Int) - hdN b from by omega]
  exact hfr
theorem parH_bytes {b : List Int} (hb : byt b) : (∀ o ∈ (parH b).opts, byt o.data) → byt (parH b).data := by
  intro _
  unfold parH
  split
  · exact byt_take (byt_drop hb _) _
  · exact byt_nil
theorem ser_le {b : List Int} (hb : byt b) (hp : parE b = 0) : (serL (parH b)).length ≤ b.length := by
  have hc := chk_par hb hp
  obtain ⟨_, _, _, _, _, hht, htb, _⟩ := par_facts hp
  have h1 := putL_par hb hp
  have h2 := parG_data hht htb
  rw [ser_len hc]
  unfold parH
  rw [if_pos hp]
  omega
end Go.Proofs.YtkahmepenjhcpaaDoor.W

/- Contracts: Hop. No statement of the seat is proved here. -/
namespace Go.Proofs.YtkahmepenjhcpaaDoor.W
open Go
set_option linter.unusedSimpArgs false
set_option linter.unusedVariables false


theorem St.bsV {N0 : List Nat} {w0 w : World} {L : List Own} {i j : Nat} {v : Value} {l : List Int} {o : Own} (S : St N0 w0 L w) (hk : getN L i = some (oB v l)) (hj : getN L j = some o) (hn : i ≠ j) (hb : byt l) {n mx : Nat} (hc : n ≤ l.length ∧ n ≤ mx ∧ mx ≤ capV v) : BS o.ids w (cut v 0 n mx) (l.take n) :=
  (S.bsN hk hj hn hb).cut0 hc
theorem or_bytes {a c : Int} (ha : 0 ≤ a ∧ a < 256) (hc : 0 ≤ c ∧ c < 256) : IntKind.i64.wrap (((a * 256 % 2 ^ IntKind.i64.bits).toNat ||| (c % 2 ^ IntKind.i64.bits).toNat : Nat) : Int) = a * 256 + c := or8 (by omega) (by omega)
theorem twelve {b : List Int} (h : 12 ≤ b.length) : ∃ x0 x1 x2 x3 x4 x5 x6 x7 x8 x9 x10 x11 r, b = x0 :: x1 :: x2 :: x3 :: x4 :: x5 :: x6 :: x7 :: x8 :: x9 :: x10 :: x11 :: r := by
  rcases b with _ | ⟨x0, _ | ⟨x1, _ | ⟨x2, _ | ⟨x3, _ | ⟨x4, _ | ⟨x5, _ | ⟨x6, _ | ⟨x7, _ | ⟨x8, _ | ⟨x9, _ | ⟨x10, _ | ⟨x11, r⟩⟩⟩⟩⟩⟩⟩⟩⟩⟩⟩⟩ <;> first
    | (simp at h; done)
    | exact ⟨_, _, _, _, _, _, _, _, _, _, _, _, _, rfl⟩
theorem foldS_cong {a b : Int} (ha : 0 < a) (hb : 0 < b) (h : a % 65535 = b % 65535) : foldS a = foldS b := by
  unfold foldS
  rw [if_neg (by omega), if_neg (by omega)]
  omega
theorem foldS_full {a : Int} (ha : 0 ≤ a) (h : foldS a = 65535) : a % 65535 = 0 := by
  unfold foldS at h
  split at h <;> omega
theorem hop_fix {b : List Int} (hb : byt b) (hp : parE b = 0) (h8 : 2 ≤ b.getD 8 0) :
    65535 - foldS (65535 - (b.getD 10 0 * 256 + b.getD 11 0) + 65535 - (b.getD 8 0 * 256 + b.getD 9 0) + (b.getD 8 0 * 256 + b.getD 9 0 - 256)) = hopC b := by
  have hf := par_facts hp
  obtain ⟨h20, _, h4, hh20, hhb, _, _, hs, _⟩ := hf
  have hB := byt_getD hb
  have B0 := hB 0
  have B1 := hB 1
  have B2 := hB 2
  have B3 := hB 3
  have B4 := hB 4
  have B5 := hB 5
  have B6 := hB 6
  have B7 := hB 7
  have B8 := hB 8
  have B9 := hB 9
  have B10 := hB 10
  have B11 := hB 11
  have hbr : byt (b.drop 12) := byt_drop hb 12
  generalize hm : hdN b = m at *
  obtain ⟨x0, x1, x2, x3, x4, x5, x6, x7, x8, x9, x10, x11, r, rfl⟩ := twelve (b := b) (by omega)
  obtain ⟨m', rfl⟩ : ∃ m', m = m' + 12 := ⟨m - 12, by omega⟩
  simp only [List.getD_cons_zero, List.getD_cons_succ] at *
  simp only [List.drop_succ_cons, List.drop_zero] at hbr
  have hw := wsum_bd (r.take m') true (byt_take hbr m')
  have e1 : sumS ((x0 :: x1 :: x2 :: x3 :: x4 :: x5 :: x6 :: x7 :: x8 :: x9 :: x10 :: x11 :: r).take (m' + 12)) = foldS (x0 * 256 + x1 + x2 * 256 + x3 + x4 * 256 + x5 + x6 * 256 + x7 + x8 * 256 + x9 + x10 * 256 + x11 + wsum true (r.take m')) := by
    simp only [List.take_succ_cons, sumS, wsum]
    congr 1
    omega
  have e2 : hopC (x0 :: x1 :: x2 :: x3 :: x4 :: x5 :: x6 :: x7 :: x8 :: x9 :: x10 :: x11 :: r) = 65535 - foldS (x0 * 256 + x1 + x2 * 256 + x3 + x4 * 256 + x5 + x6 * 256 + x7 + (x8 - 1) * 256 + x9 + wsum true (r.take m')) := by
    unfold hopC hopM
    rw [hm]
    simp only [List.getD_cons_zero, List.getD_cons_succ, List.set_cons_succ, List.set_cons_zero, List.take_succ_cons, List.take_zero, List.drop_succ_cons, List.drop_zero, Nat.add_sub_cancel, List.cons_append, List.nil_append, sumS, wsum]
    congr 2
    omega
  rw [e1] at hs
  have h0 := foldS_full (by omega) hs
  rw [e2]
  congr 1
  exact foldS_cong (by omega) (by omega) (by omega)
theorem hop_row {bs : List Int} {n : Nat} {c : Int} (hn : n ≤ bs.length) (h12 : 12 ≤ n) (he : hopE (bs.take n) = 0) (hc : c = hopC (bs.take n)) :
    ((bs.set 8 ((bs.take n).getD 8 0 - 1)).set 10 (c / 256)).set 11 (c % 256) = hopB (bs.take n) ++ bs.drop n := by
  have hl : (bs.take n).length = n := by rw [List.length_take]; omega
  unfold hopB
  rw [if_pos he]
  unfold hopW hopM
  rw [hc]
  conv => lhs; rw [← List.take_append_drop n bs]
  rw [List.set_append_left _ _ (by omega), List.set_append_left _ _ (by simp; omega), List.set_append_left _ _ (by simp; omega)]
  simp

set_option maxHeartbeats 1000000 in
theorem c108 (v : Value) (b : List Int) (i bx : Nat) (w : World) (hv : (Own.var bx 26 [v]).holds w) (hb : BS [bx] w v b) (hi : i + 1 < b.length) (hl : b.length ≤ 1099511627776) :
    CallsV Tryd.prog 108 #[.int .i64 i, .pointer (some ⟨bx, 0, none⟩)] w (fun r w' => r = .int .i64 (b.getD i 0 * 256 + b.getD (i + 1) 0) ∧ Tn w w' (.var bx 26 [v]) (.var bx 26 [v])) := by
  refine enter Tryd.func108 rfl Tryd.ntmps108 (l := [(0, [], _), (1, [], _)]) rfl rfl ?_
  have S := St.own0 hv
  refine Run.seq ?_
  refine Run.region ?_
  refine asg1 rfl rfl ?_
  refine Ro.nil ?_
  refine Nrm.code ?_
  refine Run.seq ?_
  refine Run.draw (by kernel_rfl) (by kernel_rfl) S ?_
  refine qld1 rfl T26 (fun _ S => S) (i := 0) rfl rfl rfl rfl rfl ?_
  refine qmv rfl rfl rfl rfl ?_
  refine qixa rfl rfl hb.2 e26 rfl rfl rfl rfl (fun _ => by first | omega | (simp only [List.length_cons, List.length_nil]; omega)) ?_
  refine qldB rfl hb (fun _ S => S) T5 rfl rfl rfl (fun _ => by omega) ?_
  intro q7 hq7 hbq7
  try simp only [Int.toNat_natCast, Nat.mul_one, Int.reduceToNat] at hq7
  refine qcvi rfl rfl rfl rfl Tryd.underlying5 Tryd.underlying3 (fun _ => w64 (by omega)) ?_
  refine qshl rfl rfl rfl rfl rfl rfl (fun _ => by decide) (fun _ => sl8 (by omega)) ?_
  refine qld1 rfl T26 (fun _ S => S) (i := 0) rfl rfl rfl rfl rfl ?_
  refine qmv rfl rfl rfl rfl ?_
  refine qadd rfl rfl rfl rfl rfl rfl (fun _ => w64 (by omega)) ?_
  refine qixa rfl rfl hb.2 e26 rfl rfl rfl rfl (fun _ => by first | omega | (simp only [List.length_cons, List.length_nil]; omega)) ?_
  refine qldB rfl hb (fun _ S => S) T5 rfl rfl rfl (fun _ => by omega) ?_
  intro q14 hq14 hbq14
  try simp only [Int.toNat_natCast, Nat.mul_one, Int.reduceToNat] at hq14
  refine qcvi rfl rfl rfl rfl Tryd.underlying5 Tryd.underlying3 (fun _ => w64 (by omega)) ?_
  refine qbor rfl rfl rfl rfl rfl rfl (fun _ => or8 (by omega) (by omega)) ?_
  refine qasg rfl rfl rfl rfl ?_
  refine Qo.nil (fun w1 S => ?_)
  refine Nrm.code ?_
  refine Run.ret ?_
  refine Rt.one rfl rfl ?_
  have e1 : q7 = b.getD i 0 := hq7
  have e2 : q14 = b.getD (i + 1) 0 := hq14
  exact ⟨by rw [← e1, ← e2], S.toTn (i := 0) rfl⟩

set_option maxHeartbeats 1000000 in
theorem c40 (v : Value) (bs : List Int) (n mx : Nat) (w : World) (hv : (oB v bs).holds w) (hb : byt bs) (hc : n ≤ bs.length ∧ n ≤ mx ∧ mx ≤ capV v) (hl : bs.length ≤ 1099511627776) (hg : GV (oB v bs).ids w 0 130 (W4.map i64)) :
    CallsV Tryd.prog 40 #[cut v 0 n mx] w (fun r w' => r = .int .i64 (hopE (bs.take n)) ∧ Tn w w' (oB v bs) (oB v (hopB (bs.take n) ++ bs.drop n))) := by
  refine enter Tryd.func40 rfl Tryd.ntmps40 (l := [(0, [], _)]) rfl rfl ?_
  have S := St.own0 hv
  have hbt : byt (bs.take n) := byt_take hb n
  have hB := byt_getD hbt
  have hlt : (bs.take n).length = n := by rw [List.length_take]; omega
  refine Run.seq ?_
  refine Run.region ?_
  refine boxS rfl ((S.bsI (i := 0) rfl hb).cut0 hc).one S rfl ?_
  intro b1 w1 hb1 S B_
  refine asg1 rfl rfl ?_
  refine Ro.nil ?_
  refine Nrm.code ?_
  refine Run.seq ?_
  refine Run.seq ?_
  refine Run.region ?_
  refine ld1 rfl T26 S (i := 0) rfl rfl rfl rfl rfl ?_
  refine call (vs := [_]) ⟨⟨_, _, rfl, rfl⟩, trivial⟩ k33 rfl (c33 _ _ _ ((S.bsI (i := 1) rfl hb).cut0 hc) (hg.now S)) ?_
  rintro _ w2 ⟨o3, d3, vs3, rfl, hF, hw3⟩
  have S := S.fo hF
  have hd3 := (hw3 _ _ ((S.bsI (i := 2) rfl hb).cut0 hc)).2
  have ho3 := (hw3 _ _ ((S.bsI (i := 2) rfl hb).cut0 hc)).1
  refine mv1 rfl rfl ?_
  refine extr1 rfl rfl rfl ?_
  refine extr1 rfl rfl rfl ?_
  refine alc T28 S rfl ?_
  intro b3 w3 hb3 S B_
  refine stW rfl rfl T28 rfl rfl (one_cons rfl (one_cons rfl (one_cons rfl (one_cons rfl (one_cons rfl (one_cons rfl (one_cons rfl (one_cons rfl (one_cons rfl (one_cons rfl (one_cons rfl (one_cons rfl (one_cons rfl (one_cons rfl (one_cons rfl (one_cons rfl (one_cons rfl (one_cons rfl (one_cons rfl (one_cons rfl (one_cons rfl (one_cons rfl (one_cons rfl (one_cons rfl (one_cons rfl (one_cons rfl (one_cons rfl (one_cons rfl (one_cons rfl (one_cons rfl (one_cons rfl (one_cons rfl (one_cons rfl (one_cons rfl (one_cons rfl (one_cons rfl (one_cons rfl (one_cons rfl (one_cons rfl (one_cons rfl (one_cons rfl (one_cons (S.slI (i := 1) rfl).one (one_cons hd3.one one_nil))))))))))))))))))))))))))))))))))))))))))) S (i := 0) rfl rfl ?_
  intro w4 S
  refine asg1 rfl rfl ?_
  refine Ro.nil ?_
  refine Nrm.code ?_
  refine Run.seq ?_
  refine Run.region ?_
  refine mv1 rfl rfl ?_
  refine neq1 rfl rfl rfl ?_
  refine Ro.nil ?_
  refine Nrm.code ?_
  refine Run.cond rfl (fun hc2 => ?_) (fun hc2 => ?_)
  ·
    try simp only [Bool.or_eq_true, Bool.and_eq_true, Bool.or_eq_false_iff, Bool.and_eq_false_iff, decide_eq_true_eq, decide_eq_false_iff_not, Bool.not_eq_true', Bool.not_eq_false', Bool.not_eq_true, Bool.not_eq_false] at hc2
    refine Run.seq ?_
    refine Run.region ?_
    refine mv1 rfl rfl ?_
    refine asg1 rfl rfl ?_
    refine Ro.nil ?_
    refine Nrm.code ?_
    refine Run.ret ?_
    refine Rt.one rfl rfl ?_
    have he : hopE (bs.take n) = parE (bs.take n) := by unfold hopE; rw [if_pos hc2]
    exact ⟨by first | (rw [he]; done) | (rw [he]; rfl), by rw [show hopB (bs.take n) ++ bs.drop n = bs from by unfold hopB; rw [if_neg (by omega), List.take_append_drop]]; exact S.toTn (i := 3) rfl⟩
  ·
    try simp only [Bool.or_eq_true, Bool.and_eq_true, Bool.or_eq_false_iff, Bool.and_eq_false_iff, decide_eq_true_eq, decide_eq_false_iff_not, Bool.not_eq_true', Bool.not_eq_false', Bool.not_eq_true, Bool.not_eq_false] at hc2
    replace hc2 : parE (bs.take n) = 0 := by omega
    have hpf := par_facts hc2
    have heP : eP (cut v 0 n mx) = eP v := eP_cut0 hv (by intro e; rw [e] at hpf; simp at hpf)
    refine Run.skip ?_
    refine Nrm.code ?_
    refine Run.seq ?_
    refine Run.seq ?_
    refine Run.region ?_
    refine ld1 rfl T26 S (i := 2) rfl rfl rfl rfl rfl ?_
    refine ixa rfl rfl ((S.bsI (i := 3) rfl hb).cut0 hc).2 e26 rfl rfl rfl rfl (fun _ => by first | omega | (simp only [List.length_cons, List.length_nil]; omega)) ?_
    refine ldB rfl ((S.bsI (i := 3) rfl hb).cut0 hc) (St.refl [] _) T5 rfl rfl rfl (fun _ => by omega) ?_
    intro q19 hq19 hbq19
    try simp only [Int.toNat_natCast, Nat.mul_one, Int.reduceToNat] at hq19
    refine lss1 rfl rfl rfl ?_
    refine Ro.nil ?_
    refine Nrm.code ?_
    refine Run.cond rfl (fun hc4 => ?_) (fun hc4 => ?_)
    ·
      try simp only [Bool.or_eq_true, Bool.and_eq_true, Bool.or_eq_false_iff, Bool.and_eq_false_iff, decide_eq_true_eq, decide_eq_false_iff_not, Bool.not_eq_true', Bool.not_eq_false', Bool.not_eq_true, Bool.not_eq_false] at hc4
      refine Run.seq ?_
      refine Run.region ?_
      refine asg1 rfl rfl ?_
      refine Ro.nil ?_
      refine Nrm.code ?_
      refine Run.ret ?_
      refine Rt.one rfl rfl ?_
      have he : hopE (bs.take n) = 67 := by unfold hopE; rw [if_neg (by omega), if_pos (by omega)]
      exact ⟨by first | (rw [he]; done) | (rw [he]; rfl), by rw [show hopB (bs.take n) ++ bs.drop n = bs from by unfold hopB; rw [if_neg (by omega), List.take_append_drop]]; exact S.toTn (i := 3) rfl⟩
    ·
      try simp only [Bool.or_eq_true, Bool.and_eq_true, Bool.or_eq_false_iff, Bool.and_eq_false_iff, decide_eq_true_eq, decide_eq_false_iff_not, Bool.not_eq_true', Bool.not_eq_false', Bool.not_eq_true, Bool.not_eq_false] at hc4
      have hb8 : 2 ≤ (bs.take n).getD 8 0 := by omega
      refine Run.skip ?_
      refine Nrm.code ?_
      refine Run.seq ?_
      refine Run.region ?_
      refine mkf (vs := [_]) ⟨⟨_, _, rfl, rfl⟩, trivial⟩ rfl ?_
      refine asg1 rfl rfl ?_
      refine Ro.nil ?_
      refine Nrm.code ?_
      refine Run.seq ?_
      refine Run.region ?_
      refine mv1 rfl rfl ?_
      refine callC (vs := [_]) (caps := [_]) rfl ⟨⟨_, _, rfl, rfl⟩, trivial⟩ k108 rfl (c108 _ (bs.take n) 8 b1 _ (S.hold_at (i := 2) rfl) (S.bsV (i := 3) (j := 2) rfl rfl (by decide) hb hc) (by omega) (by omega)) ?_
      rintro _ w5 ⟨rfl, hT⟩
      have S := S.tn (i := 2) rfl rfl hT
      refine asg1 rfl rfl ?_
      refine Ro.nil ?_
      refine Nrm.code ?_
      refine Run.seq ?_
      refine Run.region ?_
      refine mv1 rfl rfl ?_
      have B8 := hB 8
      have B9 : 0 ≤ (bs.take n).getD (8 + 1) 0 ∧ (bs.take n).getD (8 + 1) 0 < 256 := hB 9
      have B10 := hB 10
      have B11 : 0 ≤ (bs.take n).getD (10 + 1) 0 ∧ (bs.take n).getD (10 + 1) 0 < 256 := hB 11
      refine callC (vs := [_]) (caps := [_]) rfl ⟨⟨_, _, rfl, rfl⟩, trivial⟩ k108 rfl (c108 _ (bs.take n) 10 b1 _ (S.hold_at (i := 2) rfl) (S.bsV (i := 3) (j := 2) rfl rfl (by decide) hb hc) (by omega) (by omega)) ?_
      rintro _ w6 ⟨rfl, hT⟩
      have S := S.tn (i := 2) rfl rfl hT
      refine mv1 rfl rfl ?_
      refine mv1 rfl rfl ?_
      refine sub1 rfl rfl rfl (w64 (by omega)) ?_
      refine calg (vs := [_, _, _]) rfl ⟨⟨_, _, rfl, rfl⟩, ⟨_, _, rfl, rfl⟩, ⟨_, _, rfl, rfl⟩, trivial⟩ k109 rfl (fun hG => c109 _ _ _ _ (by omega) (by omega) (by omega)) ?_
      intro w7 B_; have S := S.call B_
      refine mv1 rfl rfl ?_
      refine extr1 rfl rfl rfl ?_
      have hfb := foldS_bd (n := 65535 - ((bs.take n).getD 10 0 * 256 + (bs.take n).getD (10 + 1) 0) + 65535 - ((bs.take n).getD 8 0 * 256 + (bs.take n).getD (8 + 1) 0) + ((bs.take n).getD 8 0 * 256 + (bs.take n).getD (8 + 1) 0 - 256)) (by omega)
      refine extr1 rfl rfl rfl ?_
      refine asg1 rfl rfl ?_
      refine asg1 rfl rfl ?_
      refine Ro.nil ?_
      refine Nrm.code ?_
      refine Run.seq ?_
      refine Run.seq ?_
      refine Run.region ?_
      refine mv1 rfl rfl ?_
      refine neq1 rfl rfl rfl ?_
      refine Ro.nil ?_
      refine Nrm.code ?_
      refine Run.cond rfl (fun hc9 => ?_) (fun hc9 => ?_)
      ·
        try simp only [Bool.or_eq_true, Bool.and_eq_true, Bool.or_eq_false_iff, Bool.and_eq_false_iff, decide_eq_true_eq, decide_eq_false_iff_not, Bool.not_eq_true', Bool.not_eq_false', Bool.not_eq_true, Bool.not_eq_false] at hc9
        exfalso; omega
      ·
        try simp only [Bool.or_eq_true, Bool.and_eq_true, Bool.or_eq_false_iff, Bool.and_eq_false_iff, decide_eq_true_eq, decide_eq_false_iff_not, Bool.not_eq_true', Bool.not_eq_false', Bool.not_eq_true, Bool.not_eq_false] at hc9
        refine Run.skip ?_
        refine Nrm.code ?_
        refine Run.seq ?_
        refine Run.region ?_
        refine ld1 rfl T26 S (i := 2) rfl rfl rfl rfl rfl ?_
        refine ixa rfl rfl ((S.bsI (i := 3) rfl hb).cut0 hc).2 e26 rfl rfl rfl rfl (fun _ => by first | omega | (simp only [List.length_cons, List.length_nil]; omega)) ?_
        refine ldB rfl ((S.bsI (i := 3) rfl hb).cut0 hc) (St.refl [] _) T5 rfl rfl rfl (fun _ => by omega) ?_
        intro q38 hq38 hbq38
        try simp only [Int.toNat_natCast, Nat.mul_one, Int.reduceToNat] at hq38
        refine sub1 rfl rfl rfl (w8 (by omega)) ?_
        refine ixa rfl rfl ((S.bsI (i := 3) rfl hb).cut0 hc).2 e26 rfl rfl rfl rfl (fun _ => by first | omega | (simp only [List.length_cons, List.length_nil]; omega)) ?_
        refine stB (j := 8) (by rw [← heP]; rfl) rfl T5 S (i := 3) rfl (by (try simp only [List.length_set]); omega) rfl ?_
        intro w8 S
        subst hq38
        have hb8 : byt (bs.set 8 ((bs.take n).getD 8 0 - 1)) := byt_set hb _ (by omega)
        have hc8 : n ≤ (bs.set 8 ((bs.take n).getD 8 0 - 1)).length ∧ n ≤ mx ∧ mx ≤ capV v := by rw [List.length_set]; exact hc
        have hcutS := ((S.bsI (i := 3) (l := bs.set 8 ((bs.take n).getD 8 0 - 1)) rfl hb8).cut0 hc8)
        refine Ro.nil ?_
        refine Nrm.code ?_
        refine Run.seq ?_
        refine Run.heldB (by kernel_rfl) S [true, true, true, false] rfl rfl rfl ?_
        intro w9 BD S SC
        refine Hb.take (i := 0) SC (fun _ _ S B => S.call B) Pp.body rfl (by kernel_rfl) (by kernel_rfl) (by kernel_rfl) rfl rfl ?_
        refine qld1 rfl T26 (fun _ S => S) (i := 2) rfl rfl rfl rfl rfl ?_
        refine Hb.back ?_
        refine Hb.take (i := 1) SC (fun _ _ S B => S.call B) Pp.body rfl (by kernel_rfl) (by kernel_rfl) (by kernel_rfl) rfl rfl ?_
        refine qld1 rfl T26 (fun _ S => S) (i := 2) rfl rfl rfl rfl rfl ?_
        refine Hb.back ?_
        refine Hb.take (i := 2) SC (fun _ _ S B => S.call B) Pp.body rfl (by kernel_rfl) (by kernel_rfl) (by kernel_rfl) rfl rfl ?_
        refine qmv rfl rfl rfl rfl ?_
        refine Hb.back ?_
        refine Hb.take (i := 3) SC (fun _ _ S B => S.call B) Pp.body rfl (by kernel_rfl) (by kernel_rfl) (by kernel_rfl) rfl rfl ?_
        refine qshr rfl rfl rfl rfl rfl rfl (fun _ => by decide) (fun _ => sh8 _) ?_
        refine Hb.back ?_
        refine Hb.take (i := 4) SC (fun _ _ S B => S.call B) Pp.body rfl (by kernel_rfl) (by kernel_rfl) (by kernel_rfl) rfl rfl ?_
        refine qcvi rfl rfl rfl rfl Tryd.underlying3 Tryd.underlying5 (fun _ => w8of rfl (by omega)) ?_
        refine Hb.back ?_
        refine Hb.take (i := 5) SC (fun _ _ S B => S.call B) Pp.body rfl (by kernel_rfl) (by kernel_rfl) (by kernel_rfl) rfl rfl ?_
        refine qmv rfl rfl rfl rfl ?_
        refine Hb.back ?_
        refine Hb.take (i := 6) SC (fun _ _ S B => S.call B) Pp.body rfl (by kernel_rfl) (by kernel_rfl) (by kernel_rfl) rfl rfl ?_
        refine qcvi rfl rfl rfl rfl Tryd.underlying3 Tryd.underlying5 (fun _ => w8m _) ?_
        refine Hb.back ?_
        refine Hb.take (i := 7) SC (fun _ _ S B => S.call B) Pp.body rfl (by kernel_rfl) (by kernel_rfl) (by kernel_rfl) rfl rfl ?_
        refine qixa rfl rfl hcutS.2 e26 rfl rfl rfl rfl (fun _ => by rw [List.length_take, List.length_set]; omega) ?_
        refine Hb.back ?_
        refine Hb.one (i := 8) (by kernel_rfl) rfl rfl ?_
        intro w10 BD; have S := S.call BD
        refine stB (j := 10) (by rw [← heP]; rfl) rfl T5 S (i := 3) rfl (by (try simp only [List.length_set]); omega) rfl ?_
        intro w11 S
        have SC := S.pick [true, true, true, false] rfl
        refine Hb.on SC ?_
        refine Hb.take (i := 9) SC (fun _ _ S B => S.call B) Pp.body rfl (by kernel_rfl) (by kernel_rfl) (by kernel_rfl) rfl rfl ?_
        refine qixa rfl rfl hcutS.2 e26 rfl rfl rfl rfl (fun _ => by rw [List.length_take, List.length_set]; omega) ?_
        refine Hb.back ?_
        refine Hb.one (i := 10) (by kernel_rfl) rfl rfl ?_
        intro w12 BD; have S := S.call BD
        refine stB (j := 11) (by rw [← heP]; rfl) rfl T5 S (i := 3) rfl (by (try simp only [List.length_set]); omega) rfl ?_
        intro w13 S
        have SC := S.pick [true, true, true, false] rfl
        refine Hb.on SC ?_
        refine Hb.done (by kernel_rfl) ?_
        intro w14 BD; have S := S.call BD
        refine Nrm.code ?_
        refine Run.seq ?_
        refine Run.region ?_
        refine asg1 rfl rfl ?_
        refine Ro.nil ?_
        refine Nrm.code ?_
        refine Run.ret ?_
        refine Rt.one rfl rfl ?_
        have he : hopE (bs.take n) = 0 := by unfold hopE; rw [if_neg (by omega), if_neg (by omega)]
        have hrow := hop_row (bs := bs) (n := n) hc.1 (by omega) he (hop_fix hbt hc2 (by omega))
        exact ⟨by first | (rw [he]; done) | (rw [he]; rfl), by rw [← hrow]; exact S.toTn (i := 3) rfl⟩

end Go.Proofs.YtkahmepenjhcpaaDoor.W

/- Contracts: options laid apart. No statement of the seat is proved here. -/
namespace Go.Proofs.YtkahmepenjhcpaaDoor.W
open Go
set_option linter.unusedSimpArgs false
set_option linter.unusedVariables false


abbrev oM (o : Opt) : List Int := o.data ++ marks
theorem BSs.snoc' {N : List Nat} {w : World} {vs : List Value} {ls : List (List Int)} {q : Value} {l : List Int} (h : BSs N w vs ls) (h2 : BS N w q l) : BSs N w (vs ++ [q]) (ls ++ [l]) := BSs.snoc h h2
theorem BS.cutM {N : List Nat} {w : World} {q : Value} {l : List Int} (h : BS N w q (l ++ marks)) : BS N w (W.cut q 0 l.length (capV q)) l := by
  have h2 := h.cut0 (n := l.length) (mx := capV q) (by have := h.cap; rw [List.length_append] at *; omega)
  rwa [take_marks'] at h2
theorem sub_base {N1 : List Nat} {L : List Own} {N : List Nat} (h : idsL L = N1) : ∀ i ∈ N1, i ∈ idsL L ++ N := fun i hi => List.mem_append_left _ (by rw [h]; exact hi)

set_option maxHeartbeats 1000000 in
theorem c146 (v : Value) (os : List Opt) (w : World) (hO : OS [] w v os) (hl : os.length ≤ 1099511627776) (hdl : ∀ o ∈ os, o.data.length ≤ 1099511627776) :
    CallsV Tryd.prog 146 #[v] w (fun r w' => ∃ u vw, r = .tuple #[u, vw] ∧ Bl w w' ∧ ∀ N, (∀ i ∈ N, i < w.heap.size) → OS N w' u (os ++ [⟨99, []⟩]) ∧ SS N w' vw (os.map oM)) := by
  refine enter Tryd.func146 rfl Tryd.ntmps146 (l := [(0, [], _)]) rfl rfl ?_
  have S := St.refl [] w
  obtain ⟨ds, hOS, hOB⟩ := hO
  refine Run.seq ?_
  refine Run.region ?_
  refine asg1 rfl rfl ?_
  refine asg1 rfl rfl ?_
  refine Ro.nil ?_
  refine Nrm.code ?_
  refine Run.seq ?_
  refine Run.region ?_
  refine asg1 rfl rfl ?_
  have S := S.nilO
  refine Ro.nil ?_
  refine Nrm.code ?_
  refine Run.seq ?_
  refine Run.region ?_
  refine asg1 rfl rfl ?_
  have S := S.nilS
  refine Ro.nil ?_
  refine Nrm.code ?_
  refine Run.seq ?_
  refine Run.seq ?_
  refine Run.region ?_
  refine asg1 rfl rfl ?_
  refine Ro.nil ?_
  refine Nrm.code ?_
  refine Run.block ?_
  refine Run.loop6 (fun (i : Nat) (u : Value) (acc : List Opt) (vs : List Value) (vw : Value) (vws : List Value) w_ => i ≤ os.length ∧ vs.length = acc.length ∧ acc = os.take i ∧ vws.length = i ∧ (∀ N, (∀ j ∈ N, j < w.heap.size) → OSs (idsL [oS vw vws, oO u acc vs] ++ N) w_ vs acc ∧ BSs (idsL [oS vw vws, oO u acc vs] ++ N) w_ vws ((os.take i).map oM)) ∧ St [] w [oS vw vws, oO u acc vs] w_) (fun (i : Nat) (u : Value) (acc : List Opt) (vs : List Value) (vw : Value) (vws : List Value) => [(0, [], v), (4, [], u), (5, [], vw), (6, [], .int .i64 i)]) (fun (i : Nat) (u : Value) (acc : List Opt) (vs : List Value) (vw : Value) (vws : List Value) => os.length - i) (0) (_) ([]) ([]) (_) ([]) ⟨Nat.zero_le _, rfl, rfl, rfl, fun _ _ => ⟨trivial, trivial⟩, S⟩ ⟨rfl, rfl, rfl, rfl, trivial⟩ ?_
  rintro i u acc vs vw vws w1 ⟨hi, hvl, hacc, hvwl, hvs, S⟩
  have hal : acc.length = i := by rw [hacc, List.length_take]; omega
  refine Run.seq ?_
  refine Run.seq ?_
  refine Run.region ?_
  refine mv1 rfl rfl ?_
  refine mv1 rfl rfl ?_
  refine lenS rfl hOS Tryd.underlying25 rfl rfl rfl ?_
  refine lss1 rfl rfl rfl ?_
  refine Ro.nil ?_
  refine Nrm.code ?_
  refine Run.cond rfl (fun hc4 => ?_) (fun hc4 => ?_)
  ·
    try simp only [Bool.or_eq_true, Bool.and_eq_true, Bool.or_eq_false_iff, Bool.and_eq_false_iff, decide_eq_true_eq, decide_eq_false_iff_not, Bool.not_eq_true', Bool.not_eq_false', Bool.not_eq_true, Bool.not_eq_false] at hc4
    refine Run.skip ?_
    refine Nrm.code ?_
    refine Run.seq ?_
    refine Run.block ?_
    refine Run.seq ?_
    refine Run.region ?_
    obtain ⟨p1, hp1, hb1⟩ := hOB.at (i := i) (by omega)
    have hil : i < os.length := by omega
    refine mv1 rfl rfl ?_
    refine mv1 rfl rfl ?_
    refine ixa rfl rfl hOS e25 rfl rfl rfl rfl (fun _ => by first | omega | (simp only [List.length_cons, List.length_nil]; omega)) ?_
    refine flE rfl hOS fo93_1 rfl rfl rfl (fun _ => hOB.lt (by omega)) ?_
    refine ldE rfl hOS S T26 rfl rfl rfl (fun _ => hOB.k1 (by omega) hp1) ?_
    have S0 := S
    refine call (vs := [_]) ⟨⟨_, _, rfl, rfl⟩, trivial⟩ k145 rfl (c145 _ _ _ (hb1.now S) (by have := hdl _ (getD_mem' (d := o0) (show i < os.length by omega)); omega)) ?_
    rintro q w2 hF
    have hqby : byt (oM (os.getD i o0)) := byt_app hb1.1 marks_byt
    have S := S.call hF.1
    have hq := hF.bs hqby S0.lt
    have hqN : ∀ N, (∀ j ∈ N, j < w.heap.size) → BS (idsL [oS vw vws, oO u acc vs] ++ N) w2 q (oM (os.getD i o0)) := fun N hN => hF.bs hqby (below_app S0 hN)
    have hvs := fun N hN => And.intro ((hvs N hN).1.bl hF.1) (BSs.bl hF.1 (hvs N hN).2)
    obtain ⟨N1, hN1, S_1⟩ := S.reb
    have hOS := hOS.st S; rw [hN1] at hOS
    have hOB := hOB.st S; rw [hN1] at hOB
    rw [hN1] at hq
    have SS := S
    have SL := S
    have S := S_1
    have hqc := hq.cutM
    refine asg1 rfl rfl ?_
    refine Ro.nil ?_
    refine Nrm.code ?_
    refine Run.seq ?_
    refine Run.region ?_
    refine mv1 rfl rfl ?_
    refine mv1 rfl rfl ?_
    refine apSF rfl e102 (qs := [(_, _)]) ⟨⟨_, _, _, rfl, rfl, cells1 hq.one, rfl, List.cons_ne_nil _ _⟩, trivial⟩ rfl hq.one S (i := 0) rfl rfl rfl (fun t e => by cases e; rfl) (fun _ => rfl) (by first | omega | (simp only [List.length_nil, List.length_append, List.length_cons]; omega)) ?_
    intro u_ vw2 w3 S B_
    refine asg1 rfl rfl ?_
    refine Ro.nil ?_
    refine Nrm.code ?_
    refine Run.held (by kernel_rfl) S [true, false] rfl rfl rfl ?_
    intro w4 BD S SC
    refine Ho.take (i := 0) SC Pp.body rfl (by kernel_rfl) (by kernel_rfl) (by kernel_rfl) rfl rfl ?_
    refine qmv rfl rfl rfl rfl ?_
    refine Ho.back ?_
    refine Ho.take (i := 1) SC Pp.body rfl (by kernel_rfl) (by kernel_rfl) (by kernel_rfl) rfl rfl ?_
    refine qmv rfl rfl rfl rfl ?_
    refine Ho.back ?_
    refine Ho.take (i := 2) SC Pp.body rfl (by kernel_rfl) (by kernel_rfl) (by kernel_rfl) rfl rfl ?_
    refine qmv rfl rfl rfl rfl ?_
    refine Ho.back ?_
    refine Ho.take (i := 3) SC Pp.body rfl (by kernel_rfl) (by kernel_rfl) (by kernel_rfl) rfl rfl ?_
    refine qixa rfl rfl hOS e25 rfl rfl rfl rfl (fun _ => by first | omega | (simp only [List.length_cons, List.length_nil]; omega)) ?_
    refine Ho.back ?_
    refine Ho.take (i := 4) SC Pp.body rfl (by kernel_rfl) (by kernel_rfl) (by kernel_rfl) rfl rfl ?_
    refine qflE rfl hOS fo93_0 rfl rfl rfl (fun _ => hOB.lt (by omega)) ?_
    refine Ho.back ?_
    refine Ho.take (i := 5) SC Pp.body rfl (by kernel_rfl) (by kernel_rfl) (by kernel_rfl) rfl rfl ?_
    refine qldE rfl hOS (fun _ S => S) T3 rfl rfl rfl (fun _ => hOB.k0 (by omega) hp1) ?_
    refine Ho.back ?_
    refine Ho.take (i := 6) SC Pp.body rfl (by kernel_rfl) (by kernel_rfl) (by kernel_rfl) rfl rfl ?_
    refine qmv rfl rfl rfl rfl ?_
    refine Ho.back ?_
    refine Ho.take (i := 7) SC Pp.body rfl (by kernel_rfl) (by kernel_rfl) (by kernel_rfl) rfl rfl ?_
    refine qmv rfl rfl rfl rfl ?_
    refine Ho.back ?_
    refine Ho.take (i := 8) SC Pp.body rfl (by kernel_rfl) (by kernel_rfl) (by kernel_rfl) rfl rfl ?_
    refine qmv rfl rfl rfl rfl ?_
    refine Ho.back ?_
    refine Ho.take (i := 9) SC Pp.body rfl (by kernel_rfl) (by kernel_rfl) (by kernel_rfl) rfl rfl ?_
    refine qixa rfl rfl hOS e25 rfl rfl rfl rfl (fun _ => by first | omega | (simp only [List.length_cons, List.length_nil]; omega)) ?_
    refine Ho.back ?_
    refine Ho.take (i := 10) SC Pp.body rfl (by kernel_rfl) (by kernel_rfl) (by kernel_rfl) rfl rfl ?_
    refine qflE rfl hOS fo93_1 rfl rfl rfl (fun _ => hOB.lt (by omega)) ?_
    refine Ho.back ?_
    refine Ho.take (i := 11) SC Pp.body rfl (by kernel_rfl) (by kernel_rfl) (by kernel_rfl) rfl rfl ?_
    refine qldE rfl hOS (fun _ S => S) T26 rfl rfl rfl (fun _ => hOB.k1 (by omega) hp1) ?_
    refine Ho.back ?_
    refine Ho.take (i := 12) SC Pp.body rfl (by kernel_rfl) (by kernel_rfl) (by kernel_rfl) rfl rfl ?_
    refine qlenS rfl hb1.2 Tryd.underlying26 rfl rfl rfl ?_
    refine Ho.back ?_
    refine Ho.take (i := 13) SC Pp.body rfl (by kernel_rfl) (by kernel_rfl) (by kernel_rfl) rfl rfl ?_
    refine qslC (lo := 0) (hi := (os.getD i o0).data.length) (mx := capV q) rfl hq e26 rfl rfl rfl (i1 := none) (i2 := some ((os.getD i o0).data.length)) (i3 := none) trivial ⟨_, _, _, rfl, rfl⟩ trivial rfl rfl rfl (fun h => by first | rfl | cases h) (fun _ => by have := hq.cap; rw [List.length_append] at *; omega) ?_
    refine Ho.back ?_
    refine Ho.take (i := 14) SC Pp.body rfl (by kernel_rfl) (by kernel_rfl) (by kernel_rfl) rfl rfl ?_
    refine qbld B93 (qs := [(_, _), (_, _)]) ⟨⟨_, _, _, rfl, rfl, rfl, rfl, by first | (simp [Value.cells]; done) | simp [Value.cells, encIP]⟩, ⟨_, _, _, rfl, rfl, cells1 hq.cutOne, rfl, List.cons_ne_nil _ _⟩, trivial⟩ rfl rfl rfl ?_
    refine Ho.back ?_
    refine Ho.one (i := 15) (by kernel_rfl) rfl rfl ?_
    refine bsl e25 (qs := [(_, _)]) ⟨⟨_, _, _, rfl, rfl, rfl, rfl, by first | (simp [Value.cells]; done) | simp [Value.cells, encIP]⟩, trivial⟩ rfl rfl rfl rfl S ?_
    intro u39 w5 S B_
    have SC := S.pick [false, true, false] rfl
    refine Ho.on SC ?_
    refine Ho.one (i := 16) (by kernel_rfl) rfl rfl ?_
    refine apO (i := 2) ((os.getD i o0).data) rfl rfl e25 (S.slI (i := 0) rfl) hqc.one hvl S rfl rfl (fun v' => rfl) (by omega) ?_
    intro u2 w6 S B_
    have SC := S.pick [false, true, false] rfl
    refine Ho.on SC ?_
    refine Ho.take (i := 17) SC Pp.body rfl (by kernel_rfl) (by kernel_rfl) (by kernel_rfl) rfl rfl ?_
    refine qasg rfl rfl rfl rfl ?_
    refine Ho.back ?_
    refine Ho.done (by kernel_rfl) ?_
    refine Nrm.blk ?_
    refine Nrm.code ?_
    refine Run.region ?_
    refine mv1 rfl rfl ?_
    refine add1 rfl rfl rfl (w64 (by omega)) ?_
    refine asg1 rfl rfl ?_
    refine Ro.nil ?_
    refine Nrm.loop6 (i + 1) (_) (_) (_) (_) (_) ⟨by omega, by simp [hvl], by rw [take_succ_getD (show i < os.length by omega) (d := o0), hacc], by simp [hvwl],
            fun N hN => ⟨((OSs.stN (sub_base hN1) S.drop0 (hvs N hN).1).snoc ((hqN N hN).cutM.stN (sub_base hN1) S.drop0)).weak mid_drop', by rw [take_succ_getD (show i < os.length by omega) (d := o0), List.map_append]; exact ((BSs.stN (sub_base hN1) S.drop0 (hvs N hN).2).snoc' ((hqN N hN).stN (sub_base hN1) S.drop0)).weak mid_drop'⟩, SL.tran hN1 S.drop0⟩ (by omega) ⟨rfl, rfl, rfl, rfl, trivial⟩
  ·
    try simp only [Bool.or_eq_true, Bool.and_eq_true, Bool.or_eq_false_iff, Bool.and_eq_false_iff, decide_eq_true_eq, decide_eq_false_iff_not, Bool.not_eq_true', Bool.not_eq_false', Bool.not_eq_true, Bool.not_eq_false] at hc4
    refine Run.exit ?_
    refine Lv.code ?_
    refine Lv.back ?_
    refine Lv.hit ?_
    refine Nrm.code ?_
    refine Run.seq ?_
    refine Run.region ?_
    have e : i = os.length := by omega
    subst e
    rw [List.take_length] at hacc
    rw [List.take_length] at hvs
    subst hacc
    obtain ⟨N2, hN2, S_2⟩ := S.reb
    have hOS := hOS.st S; rw [hN2] at hOS
    have hOB := hOB.st S; rw [hN2] at hOB
    have SS := S
    have S := S_2
    refine mv1 rfl rfl ?_
    refine bld B93 (qs := [(_, _)]) ⟨⟨_, _, _, rfl, rfl, rfl, rfl, by first | (simp [Value.cells]; done) | simp [Value.cells, encIP]⟩, trivial⟩ rfl rfl rfl ?_
    refine apOF (dt := []) rfl e25 (qs := [(_, _)]) ⟨⟨_, _, _, rfl, rfl, rfl, rfl, by first | (simp [Value.cells]; done) | simp [Value.cells, encIP]⟩, trivial⟩ rfl rfl hvl S (i := 1) rfl rfl rfl (fun t e => by cases e; rfl) (fun _ => rfl) (by first | omega | (simp only [List.length_nil, List.length_append, List.length_cons]; omega)) ?_
    intro u_ u9 w2 S B_
    refine asg1 rfl rfl ?_
    refine Ro.nil ?_
    refine Nrm.code ?_
    refine Run.seq ?_
    refine Run.region ?_
    refine mv1 rfl rfl ?_
    refine mv1 rfl rfl ?_
    refine asg1 rfl rfl ?_
    refine asg1 rfl rfl ?_
    refine Ro.nil ?_
    refine Nrm.code ?_
    refine Run.ret ?_
    refine Rt.two rfl rfl rfl ?_
    exact ⟨u9, vw, rfl, (SS.tran hN2 S).bl, fun N hN => ⟨⟨vs ++ [.slice none 0 0], Own.sl (S.hold_at (i := 1) rfl) N (fun j hj hn => by have h1 := (SS.tran hN2 S).fresh (i := 1) rfl j hj; have h2 := hN j hn; omega), OSs.snoc (o := ⟨99, []⟩) (BSs.weak (fun j hj => List.mem_append_right _ (List.mem_append_right _ hj)) (OSs.stN (sub_base hN2) S (hvs N hN).1)) (BS.nil _ _)⟩, ⟨vws, by rw [List.length_map, ← hvwl]; exact Own.sl (S.hold_at (i := 0) rfl) N (fun j hj hn => by have h1 := (SS.tran hN2 S).fresh (i := 0) rfl j hj; have h2 := hN j hn; omega), BSs.weak (fun j hj => List.mem_append_right _ (List.mem_append_right _ hj)) (BSs.stN (sub_base hN2) S (hvs N hN).2)⟩⟩⟩

set_option maxHeartbeats 1000000 in
theorem c149 (v vw u : Value) (ls : List Opt) (w : World) (hM : OS [] w v (ls ++ [⟨99, []⟩])) (hW : SS [] w vw (ls.map oM)) (hO : OS [] w u ls) (hl : ls.length ≤ 1099511627776) (hdl : ∀ o ∈ ls, o.data.length ≤ 1099511627776) :
    CallsD Tryd.prog 149 #[v, vw, u] w (.bool true) := by
  refine enter Tryd.func149 rfl Tryd.ntmps149 (l := [(0, [], _), (1, [], _), (2, [], _)]) rfl rfl ?_
  have S := St.refl [] w
  obtain ⟨ms, hMS, hMB⟩ := hM
  obtain ⟨ws, hWS, hWB⟩ := hW
  obtain ⟨ds, hOS, hOB⟩ := hO
  obtain ⟨pm, hpm, hbm⟩ := hMB.at (i := ls.length) (by simp)
  have hk : ((ls ++ [(⟨99, []⟩ : Opt)]).getD ls.length o0).kind = 99 := by simp [List.getD_eq_getElem?_getD]
  have hml : (ls ++ [(⟨99, []⟩ : Opt)]).length = ls.length + 1 := by simp
  have htk : (ls ++ [(⟨99, []⟩ : Opt)]).take ls.length = ls := by simp
  refine Run.seq ?_
  refine Run.region ?_
  refine asg1 rfl rfl ?_
  refine Ro.nil ?_
  refine Nrm.code ?_
  refine Run.seq ?_
  refine Run.region ?_
  refine mv1 rfl rfl ?_
  refine lenS rfl hOS Tryd.underlying25 rfl rfl rfl ?_
  refine asg1 rfl rfl ?_
  refine Ro.nil ?_
  refine Nrm.code ?_
  refine Run.seq ?_
  refine Run.seq ?_
  refine Run.region ?_
  refine mv1 rfl rfl ?_
  refine lenS rfl hMS Tryd.underlying25 rfl rfl rfl ?_
  refine mv1 rfl rfl ?_
  refine add1 rfl rfl rfl (w64 (by omega)) ?_
  refine neq1 rfl rfl rfl ?_
  refine mv1 rfl rfl ?_
  refine mv rfl rfl rfl rfl ?_
  refine mv rfl rfl rfl rfl ?_
  refine ixa rfl rfl hMS e25 rfl rfl rfl rfl (fun _ => by rw [hml]; omega) ?_
  refine flE rfl hMS fo93_0 rfl rfl rfl (fun hG => by first | exact hMB.lt (by simp) | (simp [allT] at hG; exact hMB.lt (by simp))) ?_
  refine ldE rfl hMS S T3 rfl rfl rfl (fun hG => by first | exact hMB.k0 (by simp) hpm | (simp [allT] at hG; exact hMB.k0 (by simp) hpm)) ?_
  refine neq rfl rfl rfl rfl rfl rfl ?_
  refine pkO rfl rfl rfl rfl rfl rfl ?_
  refine mv1 rfl rfl ?_
  refine mv rfl rfl rfl rfl ?_
  refine mv rfl rfl rfl rfl ?_
  refine slS (lo := 0) (hi := ls.length) (mx := capV v) rfl hMS e25 rfl rfl rfl (i1 := none) (i2 := some ls.length) (i3 := none) trivial ⟨_, _, _, rfl, rfl⟩ trivial rfl rfl rfl (fun h => by first | rfl | cases h) (fun _ => by have := hMS.cap; rw [List.length_append] at *; omega) ?_
  intro vc hvc
  refine mv rfl rfl rfl rfl ?_
  refine calg (vs := [_, _]) rfl ⟨⟨_, _, rfl, rfl⟩, ⟨_, _, rfl, rfl⟩, trivial⟩ k46 rfl (fun hG => by have h46 := c46 _ _ _ _ _ ((OS.take hMB hMB.len (by rw [hml]; omega) (hvc hG).1).now S) (OS.now ⟨ds, hOS, hOB⟩ S) (by rw [htk]; exact hl); rw [htk, sameOs_iff.2 rfl] at h46; exact h46) ?_
  intro w1 B_; have S := S.call B_
  refine nt rfl rfl rfl rfl ?_
  refine pkO rfl rfl rfl rfl rfl rfl ?_
  refine Ro.nil ?_
  refine Nrm.code ?_
  refine Run.cond rfl (fun hc2 => ?_) (fun hc2 => ?_)
  ·
    try simp only [Bool.or_eq_true, Bool.and_eq_true, Bool.or_eq_false_iff, Bool.and_eq_false_iff, decide_eq_true_eq, decide_eq_false_iff_not, Bool.not_eq_true', Bool.not_eq_false', Bool.not_eq_true, Bool.not_eq_false] at hc2
    exfalso; (rcases hc2 with (h | h) | h <;> first | (exact h (by rw [hml]; omega)) | (exact h hk) | (simp at h))
  ·
    try simp only [Bool.or_eq_true, Bool.and_eq_true, Bool.or_eq_false_iff, Bool.and_eq_false_iff, decide_eq_true_eq, decide_eq_false_iff_not, Bool.not_eq_true', Bool.not_eq_false', Bool.not_eq_true, Bool.not_eq_false] at hc2
    refine Run.skip ?_
    refine Nrm.code ?_
    refine Run.seq ?_
    refine Run.seq ?_
    refine Run.region ?_
    refine asg1 rfl rfl ?_
    refine Ro.nil ?_
    refine Nrm.code ?_
    refine Run.block ?_
    refine Run.loop1 (fun (i : Nat) w_ => i ≤ ls.length ∧ St [] w [] w_) (fun (i : Nat) => [(1, [], vw), (2, [], u), (7, [], .int .i64 ls.length), (8, [], .int .i64 i)]) (fun (i : Nat) => ls.length - i) (0) ⟨Nat.zero_le _, S⟩ ⟨rfl, rfl, rfl, rfl, trivial⟩ ?_
    rintro i w2 ⟨hi, S⟩
    refine Run.seq ?_
    refine Run.seq ?_
    refine Run.region ?_
    refine mv1 rfl rfl ?_
    refine mv1 rfl rfl ?_
    refine lss1 rfl rfl rfl ?_
    refine Ro.nil ?_
    refine Nrm.code ?_
    refine Run.cond rfl (fun hc5 => ?_) (fun hc5 => ?_)
    ·
      try simp only [Bool.or_eq_true, Bool.and_eq_true, Bool.or_eq_false_iff, Bool.and_eq_false_iff, decide_eq_true_eq, decide_eq_false_iff_not, Bool.not_eq_true', Bool.not_eq_false', Bool.not_eq_true, Bool.not_eq_false] at hc5
      refine Run.skip ?_
      refine Nrm.code ?_
      refine Run.seq ?_
      refine Run.block ?_
      refine Run.seq ?_
      refine Run.draw (by kernel_rfl) (by kernel_rfl) S ?_
      obtain ⟨pw, hpw, hbw⟩ := hWB.at (i := i) (by rw [List.length_map]; omega)
      obtain ⟨pl, hpl, hbl⟩ := hOB.at (i := i) (by omega)
      rw [show (ls.map oM).getD i [] = (ls.getD i o0).data ++ marks from by simp [List.getD_eq_getElem?_getD, List.getElem?_map, List.getElem?_eq_getElem (show i < ls.length by omega)]] at hbw
      refine qmv rfl rfl rfl rfl ?_
      refine qmv rfl rfl rfl rfl ?_
      refine qixa rfl rfl hWS e102 rfl rfl rfl rfl (fun _ => by rw [List.length_map]; omega) ?_
      refine qldE rfl hWS (fun _ S => S) T26 rfl rfl rfl (fun _ => by simpa using hpw) ?_
      refine qmv rfl rfl rfl rfl ?_
      refine qmv rfl rfl rfl rfl ?_
      refine qixa rfl rfl hOS e25 rfl rfl rfl rfl (fun _ => by first | omega | (simp only [List.length_cons, List.length_nil]; omega)) ?_
      refine qflE rfl hOS fo93_1 rfl rfl rfl (fun _ => hOB.lt (by omega)) ?_
      refine qldE rfl hOS (fun _ S => S) T26 rfl rfl rfl (fun _ => hOB.k1 (by omega) hpl) ?_
      refine qcal (vs := [_, _]) rfl ⟨⟨_, _, rfl, rfl⟩, ⟨_, _, rfl, rfl⟩, trivial⟩ k148 rfl (fun _ _ S B => S.call B) (fun hG w_ S => c148 _ _ _ _ _ (hbw.now S) (hbl.now S) (by have := hdl _ (getD_mem' (d := o0) (show i < ls.length by omega)); omega)) ?_
      refine qasg rfl rfl rfl rfl ?_
      refine Qo.nil (fun w3 S => ?_)
      refine Nrm.code ?_
      refine Run.seq ?_
      refine Run.region ?_
      refine mv1 rfl rfl ?_
      refine nt1 rfl rfl ?_
      refine Ro.nil ?_
      refine Nrm.code ?_
      refine Run.cond rfl (fun hc8 => ?_) (fun hc8 => ?_)
      ·
        try simp only [Bool.or_eq_true, Bool.and_eq_true, Bool.or_eq_false_iff, Bool.and_eq_false_iff, decide_eq_true_eq, decide_eq_false_iff_not, Bool.not_eq_true', Bool.not_eq_false', Bool.not_eq_true, Bool.not_eq_false] at hc8
        exfalso; simp at hc8
      ·
        try simp only [Bool.or_eq_true, Bool.and_eq_true, Bool.or_eq_false_iff, Bool.and_eq_false_iff, decide_eq_true_eq, decide_eq_false_iff_not, Bool.not_eq_true', Bool.not_eq_false', Bool.not_eq_true, Bool.not_eq_false] at hc8
        refine Run.skip ?_
        refine Nrm.blk ?_
        refine Nrm.code ?_
        refine Run.region ?_
        refine mv1 rfl rfl ?_
        refine add1 rfl rfl rfl (w64 (by omega)) ?_
        refine asg1 rfl rfl ?_
        refine Ro.nil ?_
        refine Nrm.loop1 (i + 1) ⟨by omega, S⟩ (by omega) ⟨rfl, rfl, rfl, rfl, trivial⟩
    ·
      try simp only [Bool.or_eq_true, Bool.and_eq_true, Bool.or_eq_false_iff, Bool.and_eq_false_iff, decide_eq_true_eq, decide_eq_false_iff_not, Bool.not_eq_true', Bool.not_eq_false', Bool.not_eq_true, Bool.not_eq_false] at hc5
      refine Run.exit ?_
      refine Lv.code ?_
      refine Lv.back ?_
      refine Lv.hit ?_
      refine Nrm.code ?_
      refine Run.seq ?_
      refine Run.region ?_
      refine asg1 rfl rfl ?_
      refine Ro.nil ?_
      refine Nrm.code ?_
      refine Run.ret ?_
      refine Rt.one rfl rfl ?_
      exact ⟨rfl, S.bl⟩

end Go.Proofs.YtkahmepenjhcpaaDoor.W

/- Contracts: the calls of layer 6 over bytes. No statement of the seat is proved here. -/
namespace Go.Proofs.YtkahmepenjhcpaaDoor.W
open Go
set_option linter.unusedSimpArgs false
set_option linter.unusedVariables false


theorem GV.stI {N0 : List Nat} {w0 w : World} {L : List Own} {o : Own} {i g : Nat} {T : TypeId} {c : List Value} (h : GV N0 w0 g T c) (S : St N0 w0 L w) (hk : getN L i = some o) : GV o.ids w g T c := Rd.weak (h.st S) (ids_sub hk)
theorem sameB_refl (x : IP) : sameB x x = true := sameB_iff.2 ⟨rfl, fun _ _ => rfl⟩
theorem sameOs_refl (l : List Opt) : sameOs l l = true := sameOs_iff.2 rfl
theorem sameH_refl (h : Ip4) : sameH h h = true := by simp [sameH, diffH, sameB_refl, sameOs_refl]
theorem hopE_zero {b : List Int} (h : hopE b = 0) : parE b = 0 ∧ 2 ≤ b.getD 8 0 := by
  unfold hopE at h
  by_cases h1 : parE b ≠ 0
  · rw [if_pos h1] at h; omega
  rw [if_neg h1] at h
  by_cases h2 : b.getD 8 0 < 2
  · rw [if_pos h2] at h; omega
  exact ⟨by omega, by omega⟩
theorem hopE_bd (b : List Int) : 0 ≤ hopE b ∧ hopE b ≤ 67 := by
  have := parE_bd b
  unfold hopE; (repeat' split) <;> omega
theorem hopB_byt {b : List Int} (h : byt b) : byt (hopB b) := by
  unfold hopB
  split
  · rename_i he
    have h2 := hopM_byt h (hopE_zero he).2
    have h3 := hopC_bd h2
    exact byt_set (byt_set h2 _ (by omega)) _ (by omega)
  · exact h
theorem hopB_len (b : List Int) : (hopB b).length = b.length := by
  unfold hopB; split
  · simp [hopW, hopM]
  · rfl
theorem c40w (v : Value) (b : List Int) (w : World) (hv : (oB v (b ++ marks)).holds w) (hb : byt b) (hl : b.length ≤ 1099511627000) (hg : GV (oB v (b ++ marks)).ids w 0 130 (W4.map i64)) :
    CallsV Tryd.prog 40 #[cut v 0 b.length (capV v)] w (fun r w' => r = .int .i64 (hopE b) ∧ Tn w w' (oB v (b ++ marks)) (oB v (hopB b ++ marks))) := by
  have hc := own_cap hv
  have h1 := c40 v (b ++ marks) b.length (capV v) w hv (byt_app hb marks_byt) ⟨by simp, by simp at hc; omega, Nat.le_refl _⟩ (by simp; omega) hg
  rw [take_marks', List.drop_left] at h1
  exact h1
structure Op6 where
  kind : Int
  b : List Int
  h : Ip4
  l : List Opt
def encOp6 (p : Op6) (vB o d vL : Value) : List Value := [i64 p.kind, vB] ++ (encIp4 p.h o d ++ [vL])

set_option maxHeartbeats 1000000 in
theorem c107 (p : Op6) (vB o d vL : Value) (w : World) (hB : BS [] w vB p.b) (hl : p.b.length ≤ 1099511627000) (hg : GV [] w 0 130 (W4.map i64)) :
    CallsD Tryd.prog 107 #[.agg (encOp6 p vB o d vL).toArray] w (.bool true) := by
  refine enter Tryd.func107 rfl Tryd.ntmps107 (l := [(0, [], _)]) rfl rfl ?_
  have S := St.refl [] w
  have hpk := parH_ok hB.1
  have hpe := parE_bd p.b
  have hoe := optE_le p.b
  have hhe := hopE_bd p.b
  refine Run.seq ?_
  refine Run.region ?_
  refine boxA rfl S rfl ?_
  intro b1 w1 hb1 S B_
  refine asg1 rfl rfl ?_
  refine Ro.nil ?_
  refine Nrm.code ?_
  refine Run.seq ?_
  refine Run.region ?_
  refine fld (o' := 1) rfl fo144_1 rfl rfl rfl rfl ?_
  refine ld1 rfl T26 S (i := 0) rfl rfl rfl rfl rfl ?_
  refine call (vs := [_]) ⟨⟨_, _, rfl, rfl⟩, trivial⟩ k145 rfl (c145 _ _ _ (hB.now S) (by omega)) ?_
  rintro u3 w2 hF
  have S := S.fb hF
  have hby_u3 : byt (p.b ++ marks) := byt_app hB.1 marks_byt
  refine asg1 rfl rfl ?_
  refine Ro.nil ?_
  refine Nrm.code ?_
  refine Run.seq ?_
  refine Run.region ?_
  refine mv1 rfl rfl ?_
  refine fld (o' := 1) rfl fo144_1 rfl rfl rfl rfl ?_
  refine ld1 rfl T26 S (i := 1) rfl rfl rfl rfl rfl ?_
  refine lenS rfl hB.2 Tryd.underlying26 rfl rfl rfl ?_
  have hr3 := S.bsI (i := 0) rfl hby_u3
  refine slC (lo := 0) (hi := p.b.length) (mx := capV u3) rfl hr3 e26 rfl rfl rfl (i1 := none) (i2 := some p.b.length) (i3 := none) trivial ⟨_, _, _, rfl, rfl⟩ trivial rfl rfl rfl (fun h => by first | rfl | cases h) (fun _ => by have := hr3.cap; rw [List.length_append] at *; omega) ?_
  refine asg1 rfl rfl ?_
  refine Ro.nil ?_
  refine Nrm.code ?_
  refine Run.seq ?_
  refine Run.region ?_
  refine asg1 rfl rfl ?_
  refine Ro.nil ?_
  refine Nrm.code ?_
  refine Run.seq ?_
  refine Run.seq ?_
  refine Run.region ?_
  refine fld (o' := 0) rfl fo144_0 rfl rfl rfl rfl ?_
  refine ld1 rfl T3 S (i := 1) rfl rfl rfl rfl rfl ?_
  refine Ro.nil ?_
  refine Nrm.code ?_
  refine Run.block ?_
  refine Run.seq ?_
  refine Run.region ?_
  refine eql1 rfl rfl rfl ?_
  refine asg1 rfl rfl ?_
  refine Ro.nil ?_
  refine Nrm.code ?_
  refine Run.cond rfl (fun hc5 => ?_) (fun hc5 => ?_)
  ·
    try simp only [Bool.or_eq_true, Bool.and_eq_true, Bool.or_eq_false_iff, Bool.and_eq_false_iff, decide_eq_true_eq, decide_eq_false_iff_not, Bool.not_eq_true', Bool.not_eq_false', Bool.not_eq_true, Bool.not_eq_false] at hc5
    obtain ⟨hu3, S⟩ := S.layBI (i := 0) rfl rfl hby_u3
    obtain ⟨N1, hN1, S_1⟩ := S.reb
    have hB := hB.st S; rw [hN1] at hB
    have hg := hg.st S; rw [hN1] at hg
    rw [hN1] at hu3
    have SS := S
    have S := S_1
    have hc4 := hu3.cutM
    refine Run.seq ?_
    refine Run.region ?_
    refine mv1 rfl rfl ?_
    refine call (vs := [_]) ⟨⟨_, _, rfl, rfl⟩, trivial⟩ k33 rfl (c33 _ _ _ (hc4.now S) (hg.now S)) ?_
    rintro _ w3 ⟨o6, d6, vs6, rfl, hF, hw6⟩
    have S := S.fo hF
    have hd6 := (hw6 _ _ hc4).2
    have ho6 := (hw6 _ _ hc4).1
    refine mv1 rfl rfl ?_
    refine extr1 rfl rfl rfl ?_
    refine extr1 rfl rfl rfl ?_
    refine alc T28 S rfl ?_
    intro b6 w4 hb6 S B_
    refine stW rfl rfl T28 rfl rfl (one_cons rfl (one_cons rfl (one_cons rfl (one_cons rfl (one_cons rfl (one_cons rfl (one_cons rfl (one_cons rfl (one_cons rfl (one_cons rfl (one_cons rfl (one_cons rfl (one_cons rfl (one_cons rfl (one_cons rfl (one_cons rfl (one_cons rfl (one_cons rfl (one_cons rfl (one_cons rfl (one_cons rfl (one_cons rfl (one_cons rfl (one_cons rfl (one_cons rfl (one_cons rfl (one_cons rfl (one_cons rfl (one_cons rfl (one_cons rfl (one_cons rfl (one_cons rfl (one_cons rfl (one_cons rfl (one_cons rfl (one_cons rfl (one_cons rfl (one_cons rfl (one_cons rfl (one_cons rfl (one_cons rfl (one_cons (S.slI (i := 1) rfl).one (one_cons hd6.one one_nil))))))))))))))))))))))))))))))))))))))))))) S (i := 0) rfl rfl ?_
    intro w5 S
    refine asg1 rfl rfl ?_
    refine Ro.nil ?_
    refine Nrm.code ?_
    refine Run.seq ?_
    refine Run.region ?_
    refine fld (o' := 1) rfl fo144_1 rfl rfl rfl rfl ?_
    refine ld1 rfl T26 S (i := 2) rfl rfl rfl rfl rfl ?_
    have S0 := S
    refine call (vs := [_]) ⟨⟨_, _, rfl, rfl⟩, trivial⟩ k42 rfl (c42 _ _ _ (hB.now S)) ?_
    rintro _ w6 ⟨o8, d8, rfl, hFH⟩
    have S := S.call hFH.1
    have ho8 := (hFH.2 _ S0.lt).1
    have hd8 := (hFH.2 _ S0.lt).2
    obtain ⟨N2, hN2, S_2⟩ := S.reb
    have hB := hB.st S; rw [hN2] at hB
    have hg := hg.st S; rw [hN2] at hg
    have hu3 := hu3.st S; rw [hN2] at hu3
    have hc4 := hc4.st S; rw [hN2] at hc4
    have hd6 := hd6.st S; rw [hN2] at hd6
    have ho6 := ho6.st S; rw [hN2] at ho6
    rw [hN2] at ho8
    rw [hN2] at hd8
    have SS := SS.tran hN1 S
    have S := S_2
    refine mv1 rfl rfl ?_
    refine extr1 rfl rfl rfl ?_
    refine extr1 rfl rfl rfl ?_
    refine alc T28 S rfl ?_
    intro b8 w7 hb8 S B_
    refine stW rfl rfl T28 rfl rfl (one_cons rfl (one_cons rfl (one_cons rfl (one_cons rfl (one_cons rfl (one_cons rfl (one_cons rfl (one_cons rfl (one_cons rfl (one_cons rfl (one_cons rfl (one_cons rfl (one_cons rfl (one_cons rfl (one_cons rfl (one_cons rfl (one_cons rfl (one_cons rfl (one_cons rfl (one_cons rfl (one_cons rfl (one_cons rfl (one_cons rfl (one_cons rfl (one_cons rfl (one_cons rfl (one_cons rfl (one_cons rfl (one_cons rfl (one_cons rfl (one_cons rfl (one_cons rfl (one_cons rfl (one_cons rfl (one_cons rfl (one_cons rfl (one_cons rfl (one_cons rfl (one_cons rfl (one_cons rfl (one_cons rfl (one_cons ho8.one (one_cons hd8.one one_nil))))))))))))))))))))))))))))))))))))))))))) S (i := 0) rfl rfl ?_
    intro w8 S
    refine asg1 rfl rfl ?_
    refine Ro.nil ?_
    refine Nrm.code ?_
    refine Run.region ?_
    refine mv1 rfl rfl ?_
    refine calg (vs := [_]) rfl ⟨⟨_, _, rfl, rfl⟩, trivial⟩ k31 rfl (fun hG => c31 _ _ (by omega)) ?_
    intro w9 B_; have S := S.call B_
    refine mv1 rfl rfl ?_
    refine eql1 rfl rfl rfl ?_
    refine mv1 rfl rfl ?_
    refine ldW rfl T28 S (i := 1) rfl rfl rfl rfl rfl ?_
    refine ldW rfl T28 S (i := 0) rfl rfl rfl rfl rfl ?_
    refine calg (vs := [_, _]) rfl ⟨⟨_, _, rfl, rfl⟩, ⟨_, _, rfl, rfl⟩, trivial⟩ k34 rfl (fun hG => c34 _ _ _ _ _ _ _ (S.osI (i := 2) rfl (ho6.now S)) (hd6.now S) (ho8.now S) (hd8.now S) (by have := hpk.2.2.1; omega)) ?_
    intro w10 B_; have S := S.call B_
    refine pkA rfl rfl rfl rfl rfl rfl ?_
    refine asg1 rfl rfl ?_
    refine Ro.nil ?_
    refine Nrm.blk ?_
    refine Nrm.code ?_
    refine Run.seq ?_
    refine Run.region ?_
    refine mv1 rfl rfl ?_
    refine mv1 rfl rfl ?_
    refine mv rfl rfl rfl rfl ?_
    refine fld (o' := 1) rfl fo144_1 rfl rfl rfl rfl ?_
    refine ld1 rfl T26 S (i := 3) rfl rfl rfl rfl rfl ?_
    refine calg (vs := [_, _]) rfl ⟨⟨_, _, rfl, rfl⟩, ⟨_, _, rfl, rfl⟩, trivial⟩ k148 rfl (fun hG => c148 _ _ _ _ _ (hu3.now S) (hB.now S) (by omega)) ?_
    intro w11 B_; have S := S.call B_
    refine pkA rfl rfl rfl rfl rfl rfl ?_
    refine asg1 rfl rfl ?_
    refine Ro.nil ?_
    refine Nrm.code ?_
    refine Run.ret ?_
    refine Rt.one rfl rfl ?_
    exact ⟨by simp [sameH_refl, sameOs_refl], (SS.tran hN2 S).bl⟩
  ·
    try simp only [Bool.or_eq_true, Bool.and_eq_true, Bool.or_eq_false_iff, Bool.and_eq_false_iff, decide_eq_true_eq, decide_eq_false_iff_not, Bool.not_eq_true', Bool.not_eq_false', Bool.not_eq_true, Bool.not_eq_false] at hc5
    refine Run.seq ?_
    refine Run.region ?_
    refine eql1 rfl rfl rfl ?_
    refine asg1 rfl rfl ?_
    refine Ro.nil ?_
    refine Nrm.code ?_
    refine Run.cond rfl (fun hc9 => ?_) (fun hc9 => ?_)
    ·
      try simp only [Bool.or_eq_true, Bool.and_eq_true, Bool.or_eq_false_iff, Bool.and_eq_false_iff, decide_eq_true_eq, decide_eq_false_iff_not, Bool.not_eq_true', Bool.not_eq_false', Bool.not_eq_true, Bool.not_eq_false] at hc9
      obtain ⟨hu3, S⟩ := S.layBI (i := 0) rfl rfl hby_u3
      obtain ⟨N3, hN3, S_3⟩ := S.reb
      have hB := hB.st S; rw [hN3] at hB
      have hg := hg.st S; rw [hN3] at hg
      rw [hN3] at hu3
      have SS := S
      have S := S_3
      have hc4 := hu3.cutM
      refine Run.draw (by kernel_rfl) (by kernel_rfl) S ?_
      refine qmv rfl rfl rfl rfl ?_
      refine qcal (vs := [_]) rfl ⟨⟨_, _, rfl, rfl⟩, trivial⟩ k35 rfl (fun _ _ S B => S.call B) (fun hG w_ S => c35 _ _ _ (hc4.now S) (hg.now S)) ?_
      refine qfld (o' := 1) rfl fo144_1 rfl rfl rfl rfl ?_
      refine qld1 rfl T26 (fun _ S => S) (i := 0) rfl rfl rfl rfl rfl ?_
      refine qcal (vs := [_]) rfl ⟨⟨_, _, rfl, rfl⟩, trivial⟩ k43 rfl (fun _ _ S B => S.call B) (fun hG w_ S => c43 _ _ _ (hB.now S)) ?_
      refine qeqB rfl rfl Tryd.underlying4 rfl rfl rfl rfl ?_
      refine qasg rfl rfl rfl rfl ?_
      refine Qo.nil (fun w3 S => ?_)
      refine Nrm.blk ?_
      refine Nrm.code ?_
      refine Run.seq ?_
      refine Run.region ?_
      refine mv1 rfl rfl ?_
      refine mv1 rfl rfl ?_
      refine mv rfl rfl rfl rfl ?_
      refine fld (o' := 1) rfl fo144_1 rfl rfl rfl rfl ?_
      refine ld1 rfl T26 S (i := 0) rfl rfl rfl rfl rfl ?_
      refine calg (vs := [_, _]) rfl ⟨⟨_, _, rfl, rfl⟩, ⟨_, _, rfl, rfl⟩, trivial⟩ k148 rfl (fun hG => c148 _ _ _ _ _ (hu3.now S) (hB.now S) (by omega)) ?_
      intro w4 B_; have S := S.call B_
      refine pkA rfl rfl rfl rfl rfl rfl ?_
      refine asg1 rfl rfl ?_
      refine Ro.nil ?_
      refine Nrm.code ?_
      refine Run.ret ?_
      refine Rt.one rfl rfl ?_
      exact ⟨by simp [sameH_refl, sameOs_refl], (SS.tran hN3 S).bl⟩
    ·
      try simp only [Bool.or_eq_true, Bool.and_eq_true, Bool.or_eq_false_iff, Bool.and_eq_false_iff, decide_eq_true_eq, decide_eq_false_iff_not, Bool.not_eq_true', Bool.not_eq_false', Bool.not_eq_true, Bool.not_eq_false] at hc9
      refine Run.seq ?_
      refine Run.region ?_
      refine eql1 rfl rfl rfl ?_
      refine asg1 rfl rfl ?_
      refine Ro.nil ?_
      refine Nrm.code ?_
      refine Run.cond rfl (fun hc11 => ?_) (fun hc11 => ?_)
      ·
        try simp only [Bool.or_eq_true, Bool.and_eq_true, Bool.or_eq_false_iff, Bool.and_eq_false_iff, decide_eq_true_eq, decide_eq_false_iff_not, Bool.not_eq_true', Bool.not_eq_false', Bool.not_eq_true, Bool.not_eq_false] at hc11
        obtain ⟨hu3, S⟩ := S.layBI (i := 0) rfl rfl hby_u3
        obtain ⟨N4, hN4, S_4⟩ := S.reb
        have hB := hB.st S; rw [hN4] at hB
        have hg := hg.st S; rw [hN4] at hg
        rw [hN4] at hu3
        have SS := S
        have S := S_4
        have hc4 := hu3.cutM
        refine Run.seq ?_
        refine Run.region ?_
        refine mv1 rfl rfl ?_
        refine call (vs := [_]) ⟨⟨_, _, rfl, rfl⟩, trivial⟩ k44 rfl (c44 _ _ _ (hc4.now S)) ?_
        rintro _ w3 ⟨u10, vs, rfl, hF, hwin⟩
        have S := S.fo hF
        have ho10 := hwin _ _ hc4
        refine mv1 rfl rfl ?_
        refine extr1 rfl rfl rfl ?_
        refine extr1 rfl rfl rfl ?_
        refine asg1 rfl rfl ?_
        refine asg1 rfl rfl ?_
        refine Ro.nil ?_
        refine Nrm.code ?_
        refine Run.seq ?_
        refine Run.region ?_
        refine fld (o' := 1) rfl fo144_1 rfl rfl rfl rfl ?_
        refine ld1 rfl T26 S (i := 1) rfl rfl rfl rfl rfl ?_
        have S0 := S
        have SS0 := (SS.tran hN4 S)
        refine call (vs := [_]) ⟨⟨_, _, rfl, rfl⟩, trivial⟩ k45 rfl (c45 _ _ _ (hB.now S)) ?_
        rintro _ w4 ⟨o12, rfl, hFO⟩
        have S := S.call hFO.1
        have ho12 := hFO.2 _ S0.lt
        have ho12F := hFO.2 _ SS0.ltR
        obtain ⟨N5, hN5, S_5⟩ := S.reb
        have hB := hB.st S; rw [hN5] at hB
        have hg := hg.st S; rw [hN5] at hg
        have hu3 := hu3.st S; rw [hN5] at hu3
        have hc4 := hc4.st S; rw [hN5] at hc4
        have ho10 := ho10.st S; rw [hN5] at ho10
        rw [hN5] at ho12
        rw [hN5] at ho12F
        have SS := SS.tran hN4 S
        have S := S_5
        refine mv1 rfl rfl ?_
        refine extr1 rfl rfl rfl ?_
        refine extr1 rfl rfl rfl ?_
        refine asg1 rfl rfl ?_
        refine asg1 rfl rfl ?_
        refine Ro.nil ?_
        refine Nrm.code ?_
        refine Run.region ?_
        refine mv1 rfl rfl ?_
        refine calg (vs := [_]) rfl ⟨⟨_, _, rfl, rfl⟩, trivial⟩ k31 rfl (fun hG => c31 _ _ (by omega)) ?_
        intro w5 B_; have S := S.call B_
        refine mv1 rfl rfl ?_
        refine eql1 rfl rfl rfl ?_
        refine mv1 rfl rfl ?_
        refine mv rfl rfl rfl rfl ?_
        refine mv rfl rfl rfl rfl ?_
        refine calg (vs := [_, _]) rfl ⟨⟨_, _, rfl, rfl⟩, ⟨_, _, rfl, rfl⟩, trivial⟩ k46 rfl (fun hG => c46 _ _ _ _ _ (S.osI (i := 0) rfl (ho10.now S)) (ho12.now S) (by have := optL_len p.b; omega)) ?_
        intro w6 B_; have S := S.call B_
        refine pkA rfl rfl rfl rfl rfl rfl ?_
        refine asg1 rfl rfl ?_
        refine Ro.nil ?_
        refine Nrm.blk ?_
        refine Nrm.code ?_
        refine Run.seq ?_
        refine Run.region ?_
        refine mv1 rfl rfl ?_
        refine mv1 rfl rfl ?_
        refine mv rfl rfl rfl rfl ?_
        refine fld (o' := 1) rfl fo144_1 rfl rfl rfl rfl ?_
        refine ld1 rfl T26 S (i := 1) rfl rfl rfl rfl rfl ?_
        refine calg (vs := [_, _]) rfl ⟨⟨_, _, rfl, rfl⟩, ⟨_, _, rfl, rfl⟩, trivial⟩ k148 rfl (fun hG => c148 _ _ _ _ _ (hu3.now S) (hB.now S) (by omega)) ?_
        intro w7 B_; have S := S.call B_
        refine pkA rfl rfl rfl rfl rfl rfl ?_
        refine asg1 rfl rfl ?_
        refine Ro.nil ?_
        refine Nrm.code ?_
        refine Run.ret ?_
        refine Rt.one rfl rfl ?_
        exact ⟨by simp [sameH_refl, sameOs_refl], (SS.tran hN5 S).bl⟩
      ·
        try simp only [Bool.or_eq_true, Bool.and_eq_true, Bool.or_eq_false_iff, Bool.and_eq_false_iff, decide_eq_true_eq, decide_eq_false_iff_not, Bool.not_eq_true', Bool.not_eq_false', Bool.not_eq_true, Bool.not_eq_false] at hc11
        refine Run.seq ?_
        refine Run.region ?_
        refine eql1 rfl rfl rfl ?_
        refine asg1 rfl rfl ?_
        refine Ro.nil ?_
        refine Nrm.code ?_
        refine Run.cond rfl (fun hc15 => ?_) (fun hc15 => ?_)
        ·
          try simp only [Bool.or_eq_true, Bool.and_eq_true, Bool.or_eq_false_iff, Bool.and_eq_false_iff, decide_eq_true_eq, decide_eq_false_iff_not, Bool.not_eq_true', Bool.not_eq_false', Bool.not_eq_true, Bool.not_eq_false] at hc15
          refine Run.seq ?_
          refine Run.region ?_
          refine mv1 rfl rfl ?_
          refine call (vs := [_]) ⟨⟨_, _, rfl, rfl⟩, trivial⟩ k40 rfl (c40w _ _ _ (S.hold_at (i := 0) rfl) hB.1 (by omega) (hg.stI S (i := 0) rfl)) ?_
          rintro _ w3 ⟨rfl, hT⟩
          have S := S.tn (i := 0) rfl rfl hT
          refine asg1 rfl rfl ?_
          refine Ro.nil ?_
          refine Nrm.code ?_
          refine Run.seq ?_
          refine Run.region ?_
          refine fld (o' := 1) rfl fo144_1 rfl rfl rfl rfl ?_
          refine ld1 rfl T26 S (i := 1) rfl rfl rfl rfl rfl ?_
          refine call (vs := [_]) ⟨⟨_, _, rfl, rfl⟩, trivial⟩ k49 rfl (c49 _ _ _ (hB.now S) (by omega)) ?_
          rintro _ w4 ⟨u15, rfl, hF⟩
          have S := S.fb hF
          have hby_u15 := hopB_byt hB.1
          have hby_u3 := byt_app hby_u15 marks_byt
          refine mv1 rfl rfl ?_
          refine extr1 rfl rfl rfl ?_
          refine extr1 rfl rfl rfl ?_
          refine asg1 rfl rfl ?_
          refine asg1 rfl rfl ?_
          refine Ro.nil ?_
          refine Nrm.code ?_
          refine Run.seq ?_
          refine Run.region ?_
          refine mv1 rfl rfl ?_
          refine calg (vs := [_]) rfl ⟨⟨_, _, rfl, rfl⟩, trivial⟩ k31 rfl (fun hG => c31 _ _ (by omega)) ?_
          intro w5 B_; have S := S.call B_
          refine mv1 rfl rfl ?_
          refine eql1 rfl rfl rfl ?_
          refine mv1 rfl rfl ?_
          refine mv rfl rfl rfl rfl ?_
          refine mv rfl rfl rfl rfl ?_
          refine calg (vs := [_, _]) rfl ⟨⟨_, _, rfl, rfl⟩, ⟨_, _, rfl, rfl⟩, trivial⟩ k148 rfl (fun hG => c148 _ _ _ _ _ (S.bsI (i := 1) rfl hby_u3) (S.bsI (i := 0) rfl hby_u15) (by rw [hopB_len]; omega)) ?_
          intro w6 B_; have S := S.call B_
          refine pkA rfl rfl rfl rfl rfl rfl ?_
          refine asg1 rfl rfl ?_
          refine Ro.nil ?_
          refine Nrm.code ?_
          refine Run.ret ?_
          refine Rt.one rfl rfl ?_
          exact ⟨by simp [sameH_refl, sameOs_refl], S.bl⟩
        ·
          try simp only [Bool.or_eq_true, Bool.and_eq_true, Bool.or_eq_false_iff, Bool.and_eq_false_iff, decide_eq_true_eq, decide_eq_false_iff_not, Bool.not_eq_true', Bool.not_eq_false', Bool.not_eq_true, Bool.not_eq_false] at hc15
          obtain ⟨hu3, S⟩ := S.layBI (i := 0) rfl rfl hby_u3
          obtain ⟨N6, hN6, S_6⟩ := S.reb
          have hB := hB.st S; rw [hN6] at hB
          have hg := hg.st S; rw [hN6] at hg
          rw [hN6] at hu3
          have SS := S
          have S := S_6
          have hc4 := hu3.cutM
          refine Run.skip ?_
          refine Nrm.blk ?_
          refine Nrm.code ?_
          refine Run.seq ?_
          refine Run.region ?_
          refine mv1 rfl rfl ?_
          refine mv1 rfl rfl ?_
          refine mv rfl rfl rfl rfl ?_
          refine fld (o' := 1) rfl fo144_1 rfl rfl rfl rfl ?_
          refine ld1 rfl T26 S (i := 0) rfl rfl rfl rfl rfl ?_
          refine calg (vs := [_, _]) rfl ⟨⟨_, _, rfl, rfl⟩, ⟨_, _, rfl, rfl⟩, trivial⟩ k148 rfl (fun hG => c148 _ _ _ _ _ (hu3.now S) (hB.now S) (by omega)) ?_
          intro w3 B_; have S := S.call B_
          refine pkA rfl rfl rfl rfl rfl rfl ?_
          refine asg1 rfl rfl ?_
          refine Ro.nil ?_
          refine Nrm.code ?_
          refine Run.ret ?_
          refine Rt.one rfl rfl ?_
          exact ⟨by simp [sameH_refl, sameOs_refl], (SS.tran hN6 S).bl⟩

end Go.Proofs.YtkahmepenjhcpaaDoor.W

/- The walk of weirlaw6.Ip4OneForm. No statement of the seat is proved here. -/
namespace Go.Proofs.YtkahmepenjhcpaaDoor.W
open Go
set_option linter.unusedSimpArgs false
set_option linter.unusedVariables false

set_option maxHeartbeats 1000000 in
theorem c4 (v : Value) (b : List Int) (w : World) (hb : BS [] w v b) (hl : b.length ≤ 1099511627000) (hg : GV [] w 0 130 (W4.map i64)) :
    CallsD Tryd.prog 4 #[v] w (.bool true) := by
  refine enter Tryd.func4 rfl Tryd.ntmps4 (l := [(0, [], _)]) rfl rfl ?_
  have S := St.refl [] w
  have hpk := parH_ok hb.1
  have hpe := parE_bd b
  refine Run.seq ?_
  refine Run.region ?_
  refine asg1 rfl rfl ?_
  refine Ro.nil ?_
  refine Nrm.code ?_
  refine Run.seq ?_
  refine Run.region ?_
  refine calg (vs := []) rfl trivial k28 rfl (fun hG => c28 _ (hg.now S)) ?_
  intro w1 B_; have S := S.call B_
  refine asg1 rfl rfl ?_
  refine Ro.nil ?_
  refine Nrm.code ?_
  refine Run.seq ?_
  refine Run.region ?_
  refine mv1 rfl rfl ?_
  refine call (vs := [_]) ⟨⟨_, _, rfl, rfl⟩, trivial⟩ k33 rfl (c33 _ _ _ (hb.now S) (hg.now S)) ?_
  rintro _ w2 ⟨o4, d4, vs4, rfl, hF, hw4⟩
  have S := S.fo hF
  have hd4 := (hw4 _ _ hb).2
  have ho4 := (hw4 _ _ hb).1
  refine mv1 rfl rfl ?_
  refine extr1 rfl rfl rfl ?_
  refine extr1 rfl rfl rfl ?_
  refine alc T28 S rfl ?_
  intro b4 w3 hb4 S B_
  refine stW rfl rfl T28 rfl rfl (one_cons rfl (one_cons rfl (one_cons rfl (one_cons rfl (one_cons rfl (one_cons rfl (one_cons rfl (one_cons rfl (one_cons rfl (one_cons rfl (one_cons rfl (one_cons rfl (one_cons rfl (one_cons rfl (one_cons rfl (one_cons rfl (one_cons rfl (one_cons rfl (one_cons rfl (one_cons rfl (one_cons rfl (one_cons rfl (one_cons rfl (one_cons rfl (one_cons rfl (one_cons rfl (one_cons rfl (one_cons rfl (one_cons rfl (one_cons rfl (one_cons rfl (one_cons rfl (one_cons rfl (one_cons rfl (one_cons rfl (one_cons rfl (one_cons rfl (one_cons rfl (one_cons rfl (one_cons rfl (one_cons rfl (one_cons (S.slI (i := 1) rfl).one (one_cons hd4.one one_nil))))))))))))))))))))))))))))))))))))))))))) S (i := 0) rfl rfl ?_
  intro w4 S
  refine asg1 rfl rfl ?_
  refine Ro.nil ?_
  refine Nrm.code ?_
  refine Run.seq ?_
  refine Run.seq ?_
  refine Run.region ?_
  refine mv1 rfl rfl ?_
  refine nt1 rfl rfl ?_
  refine mv1 rfl rfl ?_
  refine mv rfl rfl rfl rfl ?_
  refine calg (vs := [_]) rfl ⟨⟨_, _, rfl, rfl⟩, trivial⟩ k31 rfl (fun hG => c31 _ _ (by omega)) ?_
  intro w5 B_; have S := S.call B_
  refine neq rfl rfl rfl rfl rfl rfl ?_
  refine pkO rfl rfl rfl rfl rfl rfl ?_
  refine Ro.nil ?_
  refine Nrm.code ?_
  refine Run.cond rfl (fun hc3 => ?_) (fun hc3 => ?_)
  ·
    try simp only [Bool.or_eq_true, Bool.and_eq_true, Bool.or_eq_false_iff, Bool.and_eq_false_iff, decide_eq_true_eq, decide_eq_false_iff_not, Bool.not_eq_true', Bool.not_eq_false', Bool.not_eq_true, Bool.not_eq_false] at hc3
    refine Run.seq ?_
    refine Run.region ?_
    refine mv1 rfl rfl ?_
    refine mv1 rfl rfl ?_
    refine ldW rfl T28 S (i := 0) rfl rfl rfl rfl rfl ?_
    refine bld B28 (qs := []) trivial rfl rfl rfl ?_
    refine calg (vs := [_, _]) rfl ⟨⟨_, _, rfl, rfl⟩, ⟨_, _, rfl, rfl⟩, trivial⟩ k34 rfl (fun hG => c34 (parH b) h00 _ _ (.slice none 0 0) (.slice none 0 0) _ (S.osI (i := 1) rfl (ho4.now S)) (hd4.now S) (OS.nil _ _) (BS.nil _ _) (by have := hpk.2.2.1; omega)) ?_
    intro w6 B_; have S := S.call B_
    refine pkA rfl rfl rfl rfl rfl rfl ?_
    refine mv1 rfl rfl ?_
    refine mv rfl rfl rfl rfl ?_
    refine calg (vs := [_]) rfl ⟨⟨_, _, rfl, rfl⟩, trivial⟩ k35 rfl (fun hG => c35 _ _ _ (hb.now S) (hg.now S)) ?_
    intro w7 B_; have S := S.call B_
    refine nt rfl rfl rfl rfl ?_
    refine pkA rfl rfl rfl rfl rfl rfl ?_
    refine asg1 rfl rfl ?_
    refine Ro.nil ?_
    refine Nrm.code ?_
    refine Run.ret ?_
    refine Rt.one rfl rfl ?_
    have hE : parE b ≠ 0 := by simpa using hc3
    have hh0 : parH b = h00 := by unfold parH; rw [if_neg hE]
    have hcn : canB b = false := by unfold canB; rw [decide_eq_false hE]; rfl
    exact ⟨by rw [hh0, hcn, sameH_refl]; rfl, S.bl⟩
  ·
    try simp only [Bool.or_eq_true, Bool.and_eq_true, Bool.or_eq_false_iff, Bool.and_eq_false_iff, decide_eq_true_eq, decide_eq_false_iff_not, Bool.not_eq_true', Bool.not_eq_false', Bool.not_eq_true, Bool.not_eq_false] at hc3
    replace hc3 : parE b = 0 := by omega
    have hbl := parE_len hc3
    have hck := chk_par hb.1 hc3
    have hodt : ∀ o ∈ (parH b).opts, byt o.data := fun o ho => BSs.byts ho4 _ (List.mem_map_of_mem ho)
    have hbk := ser_back hck hpk.1 hpk.2.1 hodt
    have hse : serL (parH b) = serB (parH b) := by unfold serL; rw [if_pos hck]
    rw [← hse] at hbk
    have hA := hbk.1
    have hS2 : sameH (parH (serL (parH b))) (parH b) = true := by rw [hbk.2]; exact normH_same (chkE_zero hck).1
    have hC := ser_canon hck hpk.1 hpk.2.1 hodt
    have hle := ser_le hb.1 hc3
    have hby6 := serL_byt hpk.1 hpk.2.1 hodt hd4.1
    have hpk6 := parH_ok hby6
    refine Run.skip ?_
    refine Nrm.code ?_
    refine Run.seq ?_
    refine Run.region ?_
    refine ldW rfl T28 S (i := 0) rfl rfl rfl rfl rfl ?_
    refine call (vs := [_]) ⟨⟨_, _, rfl, rfl⟩, trivial⟩ k30 rfl (c30 (parH b) _ _ _ (S.osI (i := 1) rfl (ho4.now S)) (hd4.now S) (by have := hpk.2.2.1; omega) (by have := hpk.2.2.2.2; omega) hpk.1 hpk.2.1 (hg.now S)) ?_
    rintro _ w6 ⟨u6, rfl, hF⟩
    have S := S.fb hF
    obtain ⟨hu6, S⟩ := S.layBI (i := 0) rfl rfl hby6
    obtain ⟨N1, hN1, S_1⟩ := S.reb
    have hb := hb.st S; rw [hN1] at hb
    have hg := hg.st S; rw [hN1] at hg
    have hd4 := hd4.st S; rw [hN1] at hd4
    have ho4 := ho4.st S; rw [hN1] at ho4
    rw [hN1] at hu6
    have SS := S
    have S := S_1
    refine mv1 rfl rfl ?_
    refine extr1 rfl rfl rfl ?_
    refine extr1 rfl rfl rfl ?_
    refine asg1 rfl rfl ?_
    refine asg1 rfl rfl ?_
    refine Ro.nil ?_
    refine Nrm.code ?_
    refine Run.seq ?_
    refine Run.region ?_
    refine mv1 rfl rfl ?_
    refine call (vs := [_]) ⟨⟨_, _, rfl, rfl⟩, trivial⟩ k33 rfl (c33 _ _ _ (hu6.now S) (hg.now S)) ?_
    rintro _ w7 ⟨o8, d8, vs8, rfl, hF, hw8⟩
    have S := S.fo hF
    have hd8 := (hw8 _ _ hu6).2
    have ho8 := (hw8 _ _ hu6).1
    refine mv1 rfl rfl ?_
    refine extr1 rfl rfl rfl ?_
    refine extr1 rfl rfl rfl ?_
    refine alc T28 S rfl ?_
    intro b8 w8 hb8 S B_
    refine stW rfl rfl T28 rfl rfl (one_cons rfl (one_cons rfl (one_cons rfl (one_cons rfl (one_cons rfl (one_cons rfl (one_cons rfl (one_cons rfl (one_cons rfl (one_cons rfl (one_cons rfl (one_cons rfl (one_cons rfl (one_cons rfl (one_cons rfl (one_cons rfl (one_cons rfl (one_cons rfl (one_cons rfl (one_cons rfl (one_cons rfl (one_cons rfl (one_cons rfl (one_cons rfl (one_cons rfl (one_cons rfl (one_cons rfl (one_cons rfl (one_cons rfl (one_cons rfl (one_cons rfl (one_cons rfl (one_cons rfl (one_cons rfl (one_cons rfl (one_cons rfl (one_cons rfl (one_cons rfl (one_cons rfl (one_cons rfl (one_cons rfl (one_cons (S.slI (i := 1) rfl).one (one_cons hd8.one one_nil))))))))))))))))))))))))))))))))))))))))))) S (i := 0) rfl rfl ?_
    intro w9 S
    refine asg1 rfl rfl ?_
    refine Ro.nil ?_
    refine Nrm.code ?_
    refine Run.seq ?_
    refine Run.seq ?_
    refine Run.region ?_
    refine ldW rfl T28 S (i := 2) rfl rfl rfl rfl rfl ?_
    refine calg (vs := [_]) rfl ⟨⟨_, _, rfl, rfl⟩, trivial⟩ k32 rfl (fun hG => c32 (parH b) _ _ _ (S.osI (i := 3) rfl (ho4.now S)) (hd4.now S) (by have := hpk.2.2.1; omega) (by have := hpk.2.2.2.2; omega)) ?_
    intro w10 B_; have S := S.call B_
    refine calg (vs := [_]) rfl ⟨⟨_, _, rfl, rfl⟩, trivial⟩ k31 rfl (fun hG => c31 _ _ (by rw [hck]; decide)) ?_
    intro w11 B_; have S := S.call B_
    refine neq1 rfl rfl rfl ?_
    refine mv1 rfl rfl ?_
    refine mv rfl rfl rfl rfl ?_
    refine calg (vs := [_]) rfl ⟨⟨_, _, rfl, rfl⟩, trivial⟩ k31 rfl (fun hG => c31 _ _ (by rw [hck]; decide)) ?_
    intro w12 B_; have S := S.call B_
    refine neq rfl rfl rfl rfl rfl rfl ?_
    refine pkO rfl rfl rfl rfl rfl rfl ?_
    refine mv1 rfl rfl ?_
    refine mv rfl rfl rfl rfl ?_
    refine calg (vs := [_]) rfl ⟨⟨_, _, rfl, rfl⟩, trivial⟩ k31 rfl (fun hG => c31 _ _ (by rw [hA]; decide)) ?_
    intro w13 B_; have S := S.call B_
    refine neq rfl rfl rfl rfl rfl rfl ?_
    refine pkO rfl rfl rfl rfl rfl rfl ?_
    refine mv1 rfl rfl ?_
    refine ldW rfl T28 S (i := 0) rfl rfl rfl rfl rfl ?_
    refine ldW rfl T28 S (i := 2) rfl rfl rfl rfl rfl ?_
    refine calg (vs := [_, _]) rfl ⟨⟨_, _, rfl, rfl⟩, ⟨_, _, rfl, rfl⟩, trivial⟩ k34 rfl (fun hG => c34 _ _ _ _ _ _ _ (S.osI (i := 1) rfl (ho8.now S)) (hd8.now S) (S.osI (i := 3) rfl (ho4.now S)) (hd4.now S) (by have := hpk6.2.2.1; omega)) ?_
    intro w14 B_; have S := S.call B_
    refine nt rfl rfl rfl rfl ?_
    refine pkO rfl rfl rfl rfl rfl rfl ?_
    refine mv1 rfl rfl ?_
    refine mv rfl rfl rfl rfl ?_
    refine calg (vs := [_]) rfl ⟨⟨_, _, rfl, rfl⟩, trivial⟩ k35 rfl (fun hG => c35 _ _ _ (hu6.now S) (hg.now S)) ?_
    intro w15 B_; have S := S.call B_
    refine nt rfl rfl rfl rfl ?_
    refine pkO rfl rfl rfl rfl rfl rfl ?_
    refine Ro.nil ?_
    refine Nrm.code ?_
    refine Run.cond rfl (fun hc7 => ?_) (fun hc7 => ?_)
    ·
      try simp only [Bool.or_eq_true, Bool.and_eq_true, Bool.or_eq_false_iff, Bool.and_eq_false_iff, decide_eq_true_eq, decide_eq_false_iff_not, Bool.not_eq_true', Bool.not_eq_false', Bool.not_eq_true, Bool.not_eq_false] at hc7
      exfalso; (simp [hck, hA, hS2, hC] at hc7)
    ·
      try simp only [Bool.or_eq_true, Bool.and_eq_true, Bool.or_eq_false_iff, Bool.and_eq_false_iff, decide_eq_true_eq, decide_eq_false_iff_not, Bool.not_eq_true', Bool.not_eq_false', Bool.not_eq_true, Bool.not_eq_false] at hc7
      refine Run.skip ?_
      refine Nrm.code ?_
      refine Run.seq ?_
      refine Run.region ?_
      refine mv1 rfl rfl ?_
      refine lenS rfl hu6.2 Tryd.underlying26 rfl rfl rfl ?_
      refine mv1 rfl rfl ?_
      refine lenS rfl hb.2 Tryd.underlying26 rfl rfl rfl ?_
      refine leq1 rfl rfl rfl ?_
      refine mv1 rfl rfl ?_
      refine mv rfl rfl rfl rfl ?_
      refine calg (vs := [_]) rfl ⟨⟨_, _, rfl, rfl⟩, trivial⟩ k35 rfl (fun hG => c35 _ _ _ (hb.now S) (hg.now S)) ?_
      intro w16 B_; have S := S.call B_
      refine mv rfl rfl rfl rfl ?_
      refine mv rfl rfl rfl rfl ?_
      refine calg (vs := [_, _]) rfl ⟨⟨_, _, rfl, rfl⟩, ⟨_, _, rfl, rfl⟩, trivial⟩ k37 rfl (fun hG => c37 _ _ _ _ _ (hb.now S) (hu6.now S)) ?_
      intro w17 B_; have S := S.call B_
      refine eqB rfl rfl Tryd.underlying4 rfl rfl rfl rfl ?_
      refine pkA rfl rfl rfl rfl rfl rfl ?_
      refine asg1 rfl rfl ?_
      refine Ro.nil ?_
      refine Nrm.code ?_
      refine Run.ret ?_
      refine Rt.one rfl rfl ?_
      have hcb : canB b = decide (b = serL (parH b)) := by unfold canB; rw [hc3, hck]; rfl
      exact ⟨by rw [hcb]; simp; omega, (SS.tran hN1 S).bl⟩

end Go.Proofs.YtkahmepenjhcpaaDoor.W

/- What the reading of an argument gives: numbers, bytes, options, addresses, datagrams. No statement of the seat is proved here. -/
namespace Go.Proofs.YtkahmepenjhcpaaDoor.W
open Go
set_option linter.unusedVariables false
set_option linter.unusedSimpArgs false

section
variable {H : Type} {enc : TypeId × Value → H} {W : World} {hd : Bool} {n : Nat} {cs : List Value} {x : DataW H × List MemPlace}

theorem wf_i64 {k : Int} (h : (Lit.int .i64 k).wf = true) : inI k := by
  have := h
  simp [Lit.wf, IntKind.min, IntKind.max, IntKind.signed, IntKind.bits] at this
  unfold inI; omega
theorem wf_u8 {k : Int} (h : (Lit.int .u8 k).wf = true) : 0 ≤ k ∧ k < 256 := by
  have := h
  simp [Lit.wf, IntKind.min, IntKind.max, IntKind.signed, IntKind.bits] at this
  omega

theorem rd_int (h : DataW.trod enc Tryd.prog W 0 (fun _ => true) hd n 3 cs = some x) : ∃ k, cs = [i64 k] ∧ inI k := by
  obtain ⟨k, h1, _, h2⟩ := DataW.trod_int Tryd.underlying3 h
  exact ⟨k, h1, wf_i64 h2⟩
theorem rd_u8 (h : DataW.trod enc Tryd.prog W 0 (fun _ => true) hd n 5 cs = some x) : ∃ k, cs = [u8 k] ∧ 0 ≤ k ∧ k < 256 := by
  obtain ⟨k, h1, _, h2⟩ := DataW.trod_int Tryd.underlying5 h
  exact ⟨k, h1, wf_u8 h2⟩
theorem rd_bool (h : DataW.trod enc Tryd.prog W 0 (fun _ => true) hd n 4 cs = some x) : ∃ b, cs = [.bool b] := by
  obtain ⟨b, h1, _⟩ := DataW.trod_bool Tryd.underlying4 h
  exact ⟨b, h1⟩

theorem cell_spot {w : World} {a : Addr} {v : Value} (h : w.cell? a = some v) : a.spot = none := by
  cases hs : a.spot with
  | none => rfl
  | some s =>
    obtain ⟨b, o, sp⟩ := a
    simp only at hs
    subst hs
    simp only [World.cell?] at h
    split at h <;> simp at h

theorem cells_get {w : World} {a : Addr} {m : Nat} {cs : List Value} (h : w.cells? 0 a m = some cs) : cs.length = m ∧ ∀ i, i < m → w.cell? (a.add i) = cs[i]? := by
  unfold World.cells? at h
  rw [if_pos (Nat.zero_le _)] at h
  refine ⟨by simpa using mapM_some_length h, fun i hi => ?_⟩
  exact mapM_some_get h i i (by simp [hi])

theorem bulk1 (d : DataW H) : 1 ≤ Rows.uptoBulk d := by
  cases d with
  | lit l => cases l <;> simp [Rows.uptoBulk]
  | _ => simp [Rows.uptoBulk]
theorem bulk_len : ∀ l : List (DataW H), l.length ≤ Rows.uptoBulkAll l
  | [] => by simp [Rows.uptoBulkAll]
  | d :: l => by have := bulk1 d; have := bulk_len l; simp only [Rows.uptoBulkAll, List.length_cons]; omega
theorem bulk_mem {d : DataW H} : ∀ {l : List (DataW H)}, d ∈ l → Rows.uptoBulk d ≤ Rows.uptoBulkAll l
  | [], h => by simp at h
  | x :: l, h => by
    simp only [Rows.uptoBulkAll]
    rcases List.mem_cons.1 h with e | e
    · rw [e]; omega
    · have := bulk_mem e; omega
theorem bulk_slice (a b : List (DataW H)) : Rows.uptoBulkAll a + 1 ≤ Rows.uptoBulk (.slice a b) := by simp only [Rows.uptoBulk]; omega
theorem bulk_agg (a : List (DataW H)) : Rows.uptoBulkAll a ≤ Rows.uptoBulk (.agg a) := by simp only [Rows.uptoBulk]; omega

/-- bytes, read -/
theorem rd_bytes {v : Value} (h : DataW.trod enc Tryd.prog W 0 (fun _ => true) hd n 26 [v] = some x) : ∃ l, BS [] W v l ∧ l.length ≤ Rows.uptoBulk x.1 := by
  rcases Go.Deep.open_slice Tryd.underlying26 h with ⟨h1, _⟩ | ⟨a, len, cap, m, k, D, Pl, h1, _, hlc, hcm, hm, hxe, hel⟩
  · simp only [List.cons.injEq, and_true] at h1
    subst h1
    exact ⟨[], BS.nil _ _, by simp⟩
  · simp only [List.cons.injEq, and_true] at h1
    subst h1
    simp only [if_true] at hm
    subst hm
    have hx : ∀ i, ∃ b, i < m → W.cell? (a.add i) = some (u8 b) ∧ 0 ≤ b ∧ b < 256 := by
      intro i
      by_cases hi : i < m
      · obtain ⟨cs', g1, g2⟩ := hel i hi
        rw [cells5, Nat.mul_one] at g1
        obtain ⟨b, rfl, hb⟩ := rd_u8 g2
        have h0 := (cells_get g1).2 0 (by omega)
        have hz : (a.add i).add 0 = a.add i := by simp [Addr.add]
        rw [hz] at h0
        exact ⟨b, fun _ => ⟨h0, hb⟩⟩
      · exact ⟨0, fun h => absurd h hi⟩
    obtain ⟨f, hf⟩ := Classical.axiomOfChoice hx
    refine ⟨(List.range len).map f, ⟨?_, by simp, some a, m, by simp, by simpa using hlc, (fun e => nomatch e), ?_⟩, by rw [hxe]; have h1 := bulk_slice ((List.range len).map D) ((List.range (m - len)).map fun j => D (len + j)); have h2 := bulk_len ((List.range len).map D); simp only [List.length_map, List.length_range] at h2 ⊢; omega⟩
    · intro b hb
      obtain ⟨i, hi, rfl⟩ := List.mem_map.1 hb
      have := (hf i (by have := List.mem_range.1 hi; omega)).2
      exact this
    · intro i hi
      simp only [List.length_map, List.length_range] at hi
      have h1 := (hf i (by omega)).1
      have hs2 : a.spot = none := by
        have h0 := (hf 0 (by omega)).1
        rw [show a.add 0 = a from by simp [Addr.add]] at h0
        exact cell_spot h0
      refine ⟨a, rfl, hs2, by simp, ?_⟩
      have e : (⟨a.block, a.off + i, none⟩ : Addr) = a.add i := by
        obtain ⟨b, o, sp⟩ := a
        simp only at hs2
        subst hs2; exact (add_new b o i).symm
      rw [e, h1]
      simp

theorem rd_field {t : TypeId} {fs : Array Field} (ht : Tryd.prog.underlying t = some (.struct fs)) (h : DataW.trod enc Tryd.prog W 0 (fun _ => true) hd n t cs = some x) (i : Nat) {ft : TypeId} {off sz : Nat}
    (hf : (fs[i]?).map (fun f => (f.type, f.offset)) = some (ft, off)) (hc : Tryd.prog.cellsOf ft = sz) :
    ∃ y k, DataW.trod enc Tryd.prog W 0 (fun _ => true) hd k ft ((cs.drop off).take sz) = some y ∧ Rows.uptoBulk y.1 ≤ Rows.uptoBulk x.1 := by
  obtain ⟨xs, k, _, hx, _, hl, hg⟩ := DataW.trod_struct ht h
  cases hff : fs[i]? with
  | none => rw [hff] at hf; simp at hf
  | some f =>
    rw [hff] at hf
    simp only [Option.map_some, Option.some.injEq, Prod.mk.injEq] at hf
    obtain ⟨rfl, rfl⟩ := hf
    subst hc
    have hi : i < xs.length := by rw [hl]; exact (Array.getElem?_eq_some_iff.1 hff).1
    have h1 := hg i f hff
    rw [List.getElem?_eq_getElem hi] at h1
    refine ⟨xs[i], k, h1, ?_⟩
    rw [hx]
    have h2 := bulk_agg (xs.map (·.1))
    have h3 := bulk_mem (d := xs[i].1) (l := xs.map (·.1)) (List.mem_map_of_mem (List.getElem_mem hi))
    exact Nat.le_trans h3 h2
theorem rd_len {t : TypeId} {fs : Array Field} (ht : Tryd.prog.underlying t = some (.struct fs)) (h : DataW.trod enc Tryd.prog W 0 (fun _ => true) hd n t cs = some x) : cs.length = Tryd.prog.cellsOf t := by
  obtain ⟨xs, k, _, hx, hl, _⟩ := DataW.trod_struct ht h; exact hl

theorem cells93 : Tryd.prog.cellsOf 93 = 2 := by kernel_rfl
theorem cells22 : Tryd.prog.cellsOf 22 = 16 := by kernel_rfl
theorem cells24 : Tryd.prog.cellsOf 24 = 17 := by kernel_rfl
theorem cells28 : Tryd.prog.cellsOf 28 = 43 := by kernel_rfl
theorem cells3 : Tryd.prog.cellsOf 3 = 1 := by kernel_rfl
theorem cells4 : Tryd.prog.cellsOf 4 = 1 := by kernel_rfl
theorem cells26 : Tryd.prog.cellsOf 26 = 1 := by kernel_rfl
theorem cells25 : Tryd.prog.cellsOf 25 = 1 := by kernel_rfl

theorem take1 {l : List Value} {i : Nat} {v : Value} (h : (l.drop i).take 1 = [v]) : l[i]? = some v := by
  have := congrArg (fun l : List Value => l[0]?) h
  simpa [List.getElem?_take, List.getElem?_drop] using this

/-- an address, read -/
theorem rd_ip (h : DataW.trod enc Tryd.prog W 0 (fun _ => true) hd n 24 cs = some x) : ∃ X : IP, cs = encIP X ∧ X.ok := by
  have hl := rd_len Tryd.underlying24 h
  rw [cells24] at hl
  obtain ⟨y0, k0, g0, _⟩ := rd_field Tryd.underlying24 h 0 (ft := 3) (off := 0) rfl cells3
  obtain ⟨y1, k1, g1, _⟩ := rd_field Tryd.underlying24 h 1 (ft := 22) (off := 1) rfl cells22
  obtain ⟨v, e0, hv⟩ := rd_int g0
  obtain ⟨xs, m, _, _, hl1, hl2, hg⟩ := DataW.trod_array Tryd.underlying22 g1
  have hx : ∀ i, ∃ b, i < 16 → cs[1 + i]? = some (u8 b) ∧ 0 ≤ b ∧ b < 256 := by
    intro i
    by_cases hi : i < 16
    · have g := hg i hi
      rw [List.getElem?_eq_getElem (by omega), cells5, Nat.mul_one] at g
      obtain ⟨b, e, hb⟩ := rd_u8 g
      refine ⟨b, fun _ => ⟨?_, hb⟩⟩
      have e2 := take1 e
      rw [List.getElem?_take_of_lt hi, List.getElem?_drop] at e2
      exact e2
    · exact ⟨0, fun h => absurd h hi⟩
  obtain ⟨f, hf⟩ := Classical.axiomOfChoice hx
  refine ⟨⟨v, f⟩, ?_, fun i hi => (hf i hi).2, hv⟩
  apply List.ext_getElem?
  intro i
  rcases Nat.lt_or_ge i 17 with hi | hi
  · cases i with
    | zero => rw [take1 e0]; rfl
    | succ i =>
      have h1 := encIP_at ⟨v, f⟩ i (by omega)
      rw [show i + 1 = 1 + i from by omega, h1]
      exact (hf i (by omega)).1
  · rw [List.getElem?_eq_none (by omega), List.getElem?_eq_none (by simp [encIP]; omega)]

/-- an option, read -/
theorem rd_opt (h : DataW.trod enc Tryd.prog W 0 (fun _ => true) hd n 93 cs = some x) : ∃ k v l, cs = [i64 k, v] ∧ BS [] W v l ∧ inI k ∧ l.length ≤ Rows.uptoBulk x.1 := by
  have hl := rd_len Tryd.underlying93 h
  rw [cells93] at hl
  obtain ⟨y0, k0, g0, _⟩ := rd_field Tryd.underlying93 h 0 (ft := 3) (off := 0) rfl cells3
  obtain ⟨y1, k1, g1, hb⟩ := rd_field Tryd.underlying93 h 1 (ft := 26) (off := 1) rfl cells26
  rcases cs with _ | ⟨a, _ | ⟨b, _ | ⟨c, cs⟩⟩⟩ <;> simp at hl
  obtain ⟨k, e0, hk⟩ := rd_int g0
  simp only [List.drop_zero, List.take_succ_cons, List.take_zero, List.cons.injEq, and_true] at e0
  simp only [List.drop_succ_cons, List.drop_zero, List.take_succ_cons, List.take_zero] at g1
  obtain ⟨l, hB, hl2⟩ := rd_bytes g1
  exact ⟨k, b, l, by rw [e0], hB, hk, by omega⟩

theorem BSs.mk {N : List Nat} {w : World} (F : Nat → Value) (G : Nat → List Int) : ∀ (l : List Nat), (∀ i ∈ l, BS N w (F i) (G i)) → BSs N w (l.map F) (l.map G)
  | [], _ => trivial
  | i :: l, h => ⟨h i (by simp), BSs.mk F G l (fun j hj => h j (by simp [hj]))⟩

/-- options, read -/
theorem rd_opts {v : Value} (h : DataW.trod enc Tryd.prog W 0 (fun _ => true) hd n 25 [v] = some x) : ∃ os, OS [] W v os ∧ os.length ≤ Rows.uptoBulk x.1 ∧ ∀ o ∈ os, inI o.kind ∧ o.data.length ≤ Rows.uptoBulk x.1 := by
  rcases Go.Deep.open_slice Tryd.underlying25 h with ⟨h1, _⟩ | ⟨a, len, cap, m, k, D, Pl, h1, _, hlc, hcm, hm, hxe, hel⟩
  · simp only [List.cons.injEq, and_true] at h1
    subst h1
    exact ⟨[], OS.nil _ _, by simp, by simp⟩
  · simp only [List.cons.injEq, and_true] at h1
    subst h1
    simp only [if_true] at hm
    subst hm
    have hx : ∀ i, ∃ q : Int × Value × List Int, i < m → W.cell? (a.add (i * 2)) = some (i64 q.1) ∧ W.cell? (a.add (i * 2 + 1)) = some q.2.1 ∧ BS [] W q.2.1 q.2.2 ∧ inI q.1 ∧ q.2.2.length ≤ Rows.uptoBulk (D i) := by
      intro i
      by_cases hi : i < m
      · obtain ⟨cs', g1, g2⟩ := hel i hi
        rw [cells93] at g1
        obtain ⟨k, v, l, rfl, hB, hk, hl⟩ := rd_opt g2
        have h0 := (cells_get g1).2 0 (by omega)
        have h1 := (cells_get g1).2 1 (by omega)
        have e0 : (a.add (i * 2)).add 0 = a.add (i * 2) := by simp [Addr.add]
        have e1 : (a.add (i * 2)).add 1 = a.add (i * 2 + 1) := by
          unfold Addr.add
          by_cases hz : i * 2 = 0
          · simp [hz]
          · simp [hz]; omega
        rw [e0] at h0
        rw [e1] at h1
        exact ⟨(k, v, l), fun _ => ⟨h0, h1, hB, hk, hl⟩⟩
      · exact ⟨(0, undef, []), fun h => absurd h hi⟩
    obtain ⟨f, hf⟩ := Classical.axiomOfChoice hx
    have hbulk : ∀ i, i < len → Rows.uptoBulk (D i) ≤ Rows.uptoBulk x.1 := by
      intro i hi
      rw [hxe]
      have h1 := bulk_slice ((List.range len).map D) ((List.range (m - len)).map fun j => D (len + j))
      have h2 := bulk_mem (d := D i) (l := (List.range len).map D) (List.mem_map_of_mem (List.mem_range.2 hi))
      exact Nat.le_trans h2 (Nat.le_trans (Nat.le_succ _) h1)
    have hC : ∀ (r : List Nat), optC (r.map fun i => (⟨(f i).1, (f i).2.2⟩ : Opt)) (r.map fun i => (f i).2.1) = (r.map fun i => [i64 (f i).1, (f i).2.1]).flatten := by
      intro r
      induction r with
      | nil => rfl
      | cons i r ih => simp only [List.map_cons, optC, List.flatten_cons, ih]; rfl
    have hlenC : ∀ (r : List Nat), ((r.map fun i => [i64 (f i).1, (f i).2.1]).flatten).length = r.length * 2 := by
      intro r
      induction r with
      | nil => rfl
      | cons i r ih => simp only [List.map_cons, List.flatten_cons, List.length_append, ih, List.length_cons, List.length_nil]; omega
    refine ⟨(List.range len).map fun i => ⟨(f i).1, (f i).2.2⟩, ⟨(List.range len).map fun i => (f i).2.1, ?_, ?_⟩, ?_, ?_⟩
    · rw [hC]
      refine ⟨by rw [hlenC]; simp, some a, m, by simp, by simpa using hlc, (fun e => nomatch e), ?_⟩
      intro j hj
      rw [hlenC, List.length_range] at hj
      have hs2 : a.spot = none := by
        have h0 := (hf 0 (by omega)).1
        rw [show a.add (0 * 2) = a from by simp [Addr.add]] at h0
        exact cell_spot h0
      refine ⟨a, rfl, hs2, by simp, ?_⟩
      have e : (⟨a.block, a.off + j, none⟩ : Addr) = a.add j := by
        obtain ⟨b, o, sp⟩ := a
        simp only at hs2
        subst hs2; exact (add_new b o j).symm
      have hget : ∀ (r : List Nat) (j : Nat), j < r.length * 2 → ((r.map fun i => [i64 (f i).1, (f i).2.1]).flatten)[j]? = if j % 2 = 0 then (r[j / 2]?).map (fun i => i64 (f i).1) else (r[j / 2]?).map (fun i => (f i).2.1) := by
        intro r
        induction r with
        | nil => intro j hj; simp at hj
        | cons i r ih =>
          intro j hj
          match j with
          | 0 => simp
          | 1 => simp
          | j + 2 =>
            have e1 : (j + 2) % 2 = j % 2 := by omega
            have e2 : (j + 2) / 2 = j / 2 + 1 := by omega
            simp only [List.map_cons, List.flatten_cons, List.cons_append, List.nil_append, List.getElem?_cons_succ, e1, e2]
            exact ih j (by simp only [List.length_cons] at hj; omega)
      have hg := hget (List.range len) j (by simpa using hj)
      have hr : (List.range len)[j / 2]? = some (j / 2) := by rw [List.getElem?_range (by omega)]
      rw [hr] at hg
      rw [e, ← List.getElem?_eq_getElem, hg]
      have hq := hf (j / 2) (by omega)
      rcases Nat.mod_two_eq_zero_or_one j with h0 | h0
      · rw [if_pos h0, show j = j / 2 * 2 from by omega, hq.1]
        simp
      · rw [if_neg (by omega)]
        have : a.add j = a.add (j / 2 * 2 + 1) := by congr 1; omega
        rw [this, hq.2.1]
        rfl
    · unfold OSs
      rw [List.map_map]
      exact BSs.mk _ _ _ (fun i hi => (hf i (by have := List.mem_range.1 hi; omega)).2.2.1)
    · rw [hxe]
      have h1 := bulk_slice ((List.range len).map D) ((List.range (m - len)).map fun j => D (len + j))
      have h2 := bulk_len ((List.range len).map D)
      simp only [List.length_map, List.length_range] at h2 ⊢; omega
    · intro o ho
      obtain ⟨i, hi, rfl⟩ := List.mem_map.1 ho
      have hi' := List.mem_range.1 hi
      have hq := hf i (by omega)
      exact ⟨hq.2.2.2.1, Nat.le_trans hq.2.2.2.2 (hbulk i hi')⟩
end
end Go.Proofs.YtkahmepenjhcpaaDoor.W

/- What the reading of a datagram gives. No statement of the seat is proved here. -/
namespace Go.Proofs.YtkahmepenjhcpaaDoor.W
open Go
set_option linter.unusedVariables false
set_option linter.unusedSimpArgs false

section
variable {H : Type} {enc : TypeId × Value → H} {W : World} {hd : Bool} {n : Nat} {cs : List Value} {x : DataW H × List MemPlace}

theorem cut_at {l : List Value} {a k : Nat} {p : List Value} (h : (l.drop a).take k = p) : l.drop a = p ++ l.drop (a + k) := by
  rw [← h, ← List.drop_drop, List.take_append_drop]

/-- a datagram, read -/
theorem rd_ip4 (h : DataW.trod enc Tryd.prog W 0 (fun _ => true) hd n 28 cs = some x) : ∃ (a : Ip4) (o d : Value), cs = encIp4 a o d ∧ OS [] W o a.opts ∧ BS [] W d a.data ∧ a.ok ∧ a.opts.length ≤ Rows.uptoBulk x.1 ∧ (∀ p ∈ a.opts, p.data.length ≤ Rows.uptoBulk x.1) ∧ a.data.length ≤ Rows.uptoBulk x.1 := by
  have hl := rd_len Tryd.underlying28 h
  rw [cells28] at hl
  obtain ⟨y0, k0, g0, b0⟩ := rd_field Tryd.underlying28 h 0 (ft := 3) (off := 0) rfl cells3
  obtain ⟨y1, k1, g1, b1⟩ := rd_field Tryd.underlying28 h 1 (ft := 3) (off := 1) rfl cells3
  obtain ⟨y2, k2, g2, b2⟩ := rd_field Tryd.underlying28 h 2 (ft := 4) (off := 2) rfl cells4
  obtain ⟨y3, k3, g3, b3⟩ := rd_field Tryd.underlying28 h 3 (ft := 4) (off := 3) rfl cells4
  obtain ⟨y4, k4, g4, b4⟩ := rd_field Tryd.underlying28 h 4 (ft := 3) (off := 4) rfl cells3
  obtain ⟨y5, k5, g5, b5⟩ := rd_field Tryd.underlying28 h 5 (ft := 3) (off := 5) rfl cells3
  obtain ⟨y6, k6, g6, b6⟩ := rd_field Tryd.underlying28 h 6 (ft := 3) (off := 6) rfl cells3
  obtain ⟨y7, k7, g7, b7⟩ := rd_field Tryd.underlying28 h 7 (ft := 24) (off := 7) rfl cells24
  obtain ⟨y8, k8, g8, b8⟩ := rd_field Tryd.underlying28 h 8 (ft := 24) (off := 24) rfl cells24
  obtain ⟨y9, k9, g9, b9⟩ := rd_field Tryd.underlying28 h 9 (ft := 25) (off := 41) rfl cells25
  obtain ⟨ya, ka, ga, ba⟩ := rd_field Tryd.underlying28 h 10 (ft := 26) (off := 42) rfl cells26
  obtain ⟨v0, e0, i0⟩ := rd_int g0
  obtain ⟨v1, e1, i1⟩ := rd_int g1
  obtain ⟨v2, e2⟩ := rd_bool g2
  obtain ⟨v3, e3⟩ := rd_bool g3
  obtain ⟨v4, e4, i4⟩ := rd_int g4
  obtain ⟨v5, e5, i5⟩ := rd_int g5
  obtain ⟨v6, e6, i6⟩ := rd_int g6
  obtain ⟨v7, e7, i7⟩ := rd_ip g7
  obtain ⟨v8, e8, i8⟩ := rd_ip g8
  have h9 : ∃ o, (cs.drop 41).take 1 = [o] := by
    rcases hc : cs.drop 41 with _ | ⟨o, r⟩
    · have := congrArg List.length hc; simp at this; omega
    · exact ⟨o, rfl⟩
  have ha : ∃ o, (cs.drop 42).take 1 = [o] := by
    rcases hc : cs.drop 42 with _ | ⟨o, r⟩
    · have := congrArg List.length hc; simp at this; omega
    · exact ⟨o, rfl⟩
  obtain ⟨o, e9⟩ := h9
  obtain ⟨d, ea⟩ := ha
  rw [e9] at g9
  rw [ea] at ga
  obtain ⟨os, hO, ho1, ho2⟩ := rd_opts g9
  obtain ⟨l, hB, hl2⟩ := rd_bytes ga
  refine ⟨⟨v0, v1, v2, v3, v4, v5, v6, v7, v8, os, l⟩, o, d, ?_, hO, hB, ⟨i0, i1, i4, i5, i6, i7, i8, fun p hp => (ho2 p hp).1⟩, by show os.length ≤ _; omega, fun p hp => by have := (ho2 p hp).2; omega, by show l.length ≤ _; omega⟩
  have c0 := cut_at e0
  rw [List.drop_zero] at c0
  rw [c0, cut_at e1, cut_at e2, cut_at e3, cut_at e4, cut_at e5, cut_at e6, cut_at e7, cut_at e8, cut_at e9, cut_at ea, List.drop_eq_nil_of_le (by omega)]
  simp [encIp4]
end
end Go.Proofs.YtkahmepenjhcpaaDoor.W

/- What the reading of lists of parts, of UDP datagrams and of segments gives. No statement of the seat is proved here. -/
namespace Go.Proofs.YtkahmepenjhcpaaDoor.W
open Go
set_option linter.unusedVariables false
set_option linter.unusedSimpArgs false

theorem cells_slice {P : Program} {w : World} {r : Reach} {base : Nat} {t e : TypeId} {v : Value} (ht : P.underlying t = some (.slice e)) (h : Value.okWide P w r base t v) : v.cells.toList = [v] := by
  obtain ⟨a, l, c, h1⟩ := Go.WideShapes.okWide_slice ht h
  rw [h1]; rfl
theorem cells_int {P : Program} {w : World} {r : Reach} {base : Nat} {t : TypeId} {k : IntKind} {v : Value} (ht : P.underlying t = some (.int k)) (h : Value.okWide P w r base t v) : v.cells.toList = [v] := by
  obtain ⟨n, h1⟩ := Go.WideShapes.okWide_int ht h
  rw [h1]; rfl
theorem agg_of {v : Value} {l : List Value} (h : v.cells.toList = l) (hl : 2 ≤ l.length) : v = .agg l.toArray := by
  cases v <;> first
    | (exfalso; subst h; simp [Value.cells] at hl; done)
    | (simp only [Value.cells] at h; rw [← h])
theorem flat_all {α : Type} {sz : Nat} : ∀ {cs : List (List α)}, (∀ c ∈ cs, c.length = sz) → cs.flatten.length = cs.length * sz
  | [], _ => by simp
  | c :: cs, h => by
    have hc := h c (by simp)
    have ih := flat_all (cs := cs) (sz := sz) (fun x hx => h x (by simp [hx]))
    simp only [List.flatten_cons, List.length_append, List.length_cons, ih, hc, Nat.add_mul, Nat.one_mul]
    omega
theorem flat_get {α : Type} {sz : Nat} : ∀ {cs : List (List α)} {i r : Nat}, (∀ c ∈ cs, c.length = sz) → i < cs.length → r < sz → cs.flatten[i * sz + r]? = (cs.getD i [])[r]?
  | [], i, _, _, h, _ => by simp at h
  | c :: cs, 0, r, h, _, hr => by
    have hc := h c (by simp)
    simp only [List.flatten_cons, Nat.zero_mul, Nat.zero_add, List.getD_cons_zero]
    rw [List.getElem?_append_left (by omega)]
  | c :: cs, i + 1, r, h, hi, hr => by
    have hc := h c (by simp)
    have e : (i + 1) * sz + r = c.length + (i * sz + r) := by rw [Nat.add_mul, Nat.one_mul, hc]; omega
    simp only [List.flatten_cons, List.getD_cons_succ]
    rw [e, List.getElem?_append_right (by omega), Nat.add_sub_cancel_left]
    exact flat_get (fun x hx => h x (by simp [hx])) (by simpa using hi) hr
section
variable {H : Type} {enc : TypeId × Value → H} {W : World} {hd : Bool} {n : Nat} {cs : List Value} {x : DataW H × List MemPlace}

theorem rd_slice {T E sz : Nat} (hu : Tryd.prog.underlying T = some (.slice E)) (hc : Tryd.prog.cellsOf E = sz) (hsz : 0 < sz) {v : Value} (h : DataW.trod enc Tryd.prog W 0 (fun _ => true) hd n T [v] = some x) :
    ∃ (cs : List (List Value)), Sl [] W sz v cs.length cs.flatten ∧ (∀ c ∈ cs, c.length = sz) ∧ cs.length ≤ Rows.uptoBulk x.1 ∧ ∀ i, i < cs.length → ∃ y k, DataW.trod enc Tryd.prog W 0 (fun _ => true) hd k E (cs.getD i []) = some y ∧ Rows.uptoBulk y.1 ≤ Rows.uptoBulk x.1 := by
  rcases Go.Deep.open_slice hu h with ⟨h1, _⟩ | ⟨a, len, cap, m, k, D, Pl, h1, _, hlc, hcm, hm, hxe, hel⟩
  · simp only [List.cons.injEq, and_true] at h1
    subst h1
    exact ⟨[], ⟨by simp, none, 0, rfl, Nat.le_refl _, fun _ => rfl, Rd.self rfl⟩, by simp, by simp, fun i hi => by simp at hi⟩
  · simp only [List.cons.injEq, and_true] at h1
    subst h1
    simp only [if_true] at hm
    subst hm
    rw [hc] at hel
    have hx : ∀ i, ∃ q : List Value, i < m → W.cells? 0 (a.add (i * sz)) sz = some q ∧ DataW.trod enc Tryd.prog W 0 (fun _ => true) hd k E q = some (D i, Pl i) := by
      intro i
      by_cases hi : i < m
      · obtain ⟨q, g1, g2⟩ := hel i hi; exact ⟨q, fun _ => ⟨g1, g2⟩⟩
      · exact ⟨[], fun h => absurd h hi⟩
    obtain ⟨f, hf⟩ := Classical.axiomOfChoice hx
    have hall : ∀ c ∈ (List.range len).map f, c.length = sz := by
      intro c hcm
      obtain ⟨i, hi, rfl⟩ := List.mem_map.1 hcm
      have hi' := List.mem_range.1 hi
      exact (cells_get (hf i (by omega)).1).1
    have hlen : ((List.range len).map f).length = len := by simp
    refine ⟨(List.range len).map f, ⟨flat_all hall, some a, m, by rw [hlen], by rw [hlen]; exact hlc, (fun e => nomatch e), ?_⟩, hall, ?_, ?_⟩
    · intro j hj
      rw [flat_all hall, hlen] at hj
      have hlp : 0 < len := by rcases Nat.eq_zero_or_pos len with h0 | h0; (rw [h0, Nat.zero_mul] at hj; omega); exact h0
      have hs2 : a.spot = none := by
        have h0 := (cells_get (hf 0 (by omega)).1).2 0 hsz
        rw [Nat.zero_mul, show (a.add 0).add 0 = a from by simp [Addr.add]] at h0
        have hl0 := (cells_get (hf 0 (by omega)).1).1
        rw [List.getElem?_eq_getElem (by omega)] at h0
        exact cell_spot h0
      refine ⟨a, rfl, hs2, by simp, ?_⟩
      have hq : j / sz < len := by rw [Nat.div_lt_iff_lt_mul hsz]; exact hj
      have hr : j % sz < sz := Nat.mod_lt _ hsz
      have hc1 := (cells_get (hf (j / sz) (by omega)).1).2 (j % sz) hr
      have ej : j / sz * sz + j % sz = j := Nat.div_add_mod' j sz
      have e : (⟨a.block, a.off + j, none⟩ : Addr) = (a.add (j / sz * sz)).add (j % sz) := by
        rw [add_addr hs2, add_new, Nat.add_assoc, ej]
      have hfg := flat_get (cs := (List.range len).map f) (i := j / sz) (r := j % sz) hall (by rw [hlen]; exact hq) hr
      rw [ej] at hfg
      rw [e, hc1, ← List.getElem?_eq_getElem, hfg]
      simp [List.getD_eq_getElem?_getD, List.getElem?_map, List.getElem?_range hq]
    · rw [hxe, hlen]
      have h1 := bulk_slice ((List.range len).map D) ((List.range (m - len)).map fun j => D (len + j))
      have h2 := bulk_len ((List.range len).map D)
      simp only [List.length_map, List.length_range] at h2 ⊢; omega
    · intro i hi
      rw [hlen] at hi
      refine ⟨(D i, Pl i), k, ?_, ?_⟩
      · have := (hf i (by omega)).2
        rw [← this]
        simp [List.getD_eq_getElem?_getD, List.getElem?_map, List.getElem?_range hi]
      · rw [hxe]
        have h1 := bulk_slice ((List.range len).map D) ((List.range (m - len)).map fun j => D (len + j))
        have h2 := bulk_mem (d := D i) (l := (List.range len).map D) (List.mem_map_of_mem (List.mem_range.2 hi))
        exact Nat.le_trans h2 (Nat.le_trans (Nat.le_succ _) h1)

theorem take_one {a : Nat} (h : a < cs.length) : ∃ o, (cs.drop a).take 1 = [o] := by
  rcases hc : cs.drop a with _ | ⟨o, r⟩
  · have := congrArg List.length hc; simp at this; omega
  · exact ⟨o, rfl⟩
theorem cells73 : Tryd.prog.cellsOf 73 = 4 := by kernel_rfl
theorem cells82 : Tryd.prog.cellsOf 82 = 9 := by kernel_rfl
theorem cells67 : Tryd.prog.cellsOf 67 = 2 := by kernel_rfl
def Udp.ok (u : Udp) : Prop := inI u.sport ∧ inI u.dport
def Tcp.ok (t : Tcp) : Prop := inI t.sport ∧ inI t.dport ∧ inI t.seq ∧ inI t.ack ∧ inI t.flags ∧ inI t.win ∧ inI t.urg ∧ ∀ o ∈ t.opts, inI o.kind
/-- a UDP datagram, read -/
theorem rd_udp (h : DataW.trod enc Tryd.prog W 0 (fun _ => true) hd n 73 cs = some x) : ∃ (u : Udp) (d : Value), cs = encUdp u d ∧ BS [] W d u.data ∧ u.ok ∧ u.data.length ≤ Rows.uptoBulk x.1 := by
  have hl := rd_len Tryd.underlying73 h
  rw [cells73] at hl
  obtain ⟨y0, k0, g0, b0⟩ := rd_field Tryd.underlying73 h 0 (ft := 3) (off := 0) rfl cells3
  obtain ⟨y1, k1, g1, b1⟩ := rd_field Tryd.underlying73 h 1 (ft := 3) (off := 1) rfl cells3
  obtain ⟨y2, k2, g2, b2⟩ := rd_field Tryd.underlying73 h 2 (ft := 4) (off := 2) rfl cells4
  obtain ⟨y3, k3, g3, b3⟩ := rd_field Tryd.underlying73 h 3 (ft := 26) (off := 3) rfl cells26
  obtain ⟨v0, e0, i0⟩ := rd_int g0
  obtain ⟨v1, e1, i1⟩ := rd_int g1
  obtain ⟨v2, e2⟩ := rd_bool g2
  obtain ⟨d, ed⟩ := take_one (cs := cs) (a := 3) (by omega)
  rw [ed] at g3
  obtain ⟨l, hB, hl2⟩ := rd_bytes g3
  refine ⟨⟨v0, v1, v2, l⟩, d, ?_, hB, ⟨i0, i1⟩, by show l.length ≤ _; omega⟩
  have c0 := cut_at e0
  rw [List.drop_zero] at c0
  rw [c0, cut_at e1, cut_at e2, cut_at ed, List.drop_eq_nil_of_le (by omega)]
  simp [encUdp]
/-- a segment, read -/
theorem rd_tcp (h : DataW.trod enc Tryd.prog W 0 (fun _ => true) hd n 82 cs = some x) : ∃ (t : Tcp) (o d : Value), cs = encTcp t o d ∧ OS [] W o t.opts ∧ BS [] W d t.data ∧ t.ok ∧ t.opts.length ≤ Rows.uptoBulk x.1 ∧ (∀ p ∈ t.opts, p.data.length ≤ Rows.uptoBulk x.1) ∧ t.data.length ≤ Rows.uptoBulk x.1 := by
  have hl := rd_len Tryd.underlying82 h
  rw [cells82] at hl
  obtain ⟨y0, k0, g0, b0⟩ := rd_field Tryd.underlying82 h 0 (ft := 3) (off := 0) rfl cells3
  obtain ⟨y1, k1, g1, b1⟩ := rd_field Tryd.underlying82 h 1 (ft := 3) (off := 1) rfl cells3
  obtain ⟨y2, k2, g2, b2⟩ := rd_field Tryd.underlying82 h 2 (ft := 3) (off := 2) rfl cells3
  obtain ⟨y3, k3, g3, b3⟩ := rd_field Tryd.underlying82 h 3 (ft := 3) (off := 3) rfl cells3
  obtain ⟨y4, k4, g4, b4⟩ := rd_field Tryd.underlying82 h 4 (ft := 3) (off := 4) rfl cells3
  obtain ⟨y5, k5, g5, b5⟩ := rd_field Tryd.underlying82 h 5 (ft := 3) (off := 5) rfl cells3
  obtain ⟨y6, k6, g6, b6⟩ := rd_field Tryd.underlying82 h 6 (ft := 3) (off := 6) rfl cells3
  obtain ⟨y7, k7, g7, b7⟩ := rd_field Tryd.underlying82 h 7 (ft := 25) (off := 7) rfl cells25
  obtain ⟨y8, k8, g8, b8⟩ := rd_field Tryd.underlying82 h 8 (ft := 26) (off := 8) rfl cells26
  obtain ⟨v0, e0, i0⟩ := rd_int g0
  obtain ⟨v1, e1, i1⟩ := rd_int g1
  obtain ⟨v2, e2, i2⟩ := rd_int g2
  obtain ⟨v3, e3, i3⟩ := rd_int g3
  obtain ⟨v4, e4, i4⟩ := rd_int g4
  obtain ⟨v5, e5, i5⟩ := rd_int g5
  obtain ⟨v6, e6, i6⟩ := rd_int g6
  obtain ⟨o, e7⟩ := take_one (cs := cs) (a := 7) (by omega)
  obtain ⟨d, e8⟩ := take_one (cs := cs) (a := 8) (by omega)
  rw [e7] at g7
  rw [e8] at g8
  obtain ⟨os, hO, ho1, ho2⟩ := rd_opts g7
  obtain ⟨l, hB, hl2⟩ := rd_bytes g8
  refine ⟨⟨v0, v1, v2, v3, v4, v5, v6, os, l⟩, o, d, ?_, hO, hB, ⟨i0, i1, i2, i3, i4, i5, i6, fun p hp => (ho2 p hp).1⟩, by show os.length ≤ _; omega, fun p hp => by have := (ho2 p hp).2; omega, by show l.length ≤ _; omega⟩
  have c0 := cut_at e0
  rw [List.drop_zero] at c0
  rw [c0, cut_at e1, cut_at e2, cut_at e3, cut_at e4, cut_at e5, cut_at e6, cut_at e7, cut_at e8, List.drop_eq_nil_of_le (by omega)]
  simp [encTcp]
/-- two numbers, read -/
theorem rd_pair (h : DataW.trod enc Tryd.prog W 0 (fun _ => true) hd n 67 cs = some x) : ∃ a b : Int, cs = [i64 a, i64 b] ∧ inI a ∧ inI b := by
  obtain ⟨xs, m, _, _, hl1, hl2, hg⟩ := DataW.trod_array Tryd.underlying67 h
  have hx0 : 0 < xs.length := by rw [hl2]; decide
  have hx1 : 1 < xs.length := by rw [hl2]; decide
  have hg' : ∀ i, i < 2 → DataW.trod enc Tryd.prog W 0 (fun _ => true) hd m 3 ((cs.drop i).take 1) = xs[i]? := fun i hi => by
    have h1 := hg i hi
    rw [cells3, Nat.mul_one] at h1
    exact h1
  have g0 := hg' 0 (by decide)
  have g1 := hg' 1 (by decide)
  rw [List.getElem?_eq_getElem hx0] at g0
  rw [List.getElem?_eq_getElem hx1] at g1
  obtain ⟨a, e0, ha⟩ := rd_int g0
  obtain ⟨b, e1, hb⟩ := rd_int g1
  refine ⟨a, b, ?_, ha, hb⟩
  have hl : cs.length = 2 := by
    rw [hl1, cells67]
  have c0 := cut_at e0
  rw [List.drop_zero] at c0
  rw [c0, cut_at e1, List.drop_eq_nil_of_le (by omega)]
  rfl
end
end Go.Proofs.YtkahmepenjhcpaaDoor.W

/- A reading of the arguments stands behind a call that leaves what was there. No statement of the seat is proved here. -/
namespace Go.Proofs.YtkahmepenjhcpaaDoor.W
open Go
set_option linter.unusedVariables false

theorem laidOut : laidOutB Tryd.prog = true := by kernel_rfl
theorem mapsR : mapsRowed Tryd.prog = true := by kernel_rfl
def sizedB (P : Program) : Bool := (List.range P.types.size).all fun t => match P.underlying t with
  | some (.slice e) => decide (0 < P.cellsOf e)
  | _ => true
theorem sizedAll : sizedB Tryd.prog = true := by kernel_rfl
theorem sized {t e : TypeId} (ht : t < Tryd.prog.types.size) (hu : Tryd.prog.underlying t = some (.slice e)) : 0 < Tryd.prog.cellsOf e := by
  have h := sizedAll
  unfold sizedB at h
  rw [List.all_eq_true] at h
  have := h t (List.mem_range.2 ht)
  rw [hu] at this
  simpa using this

theorem stays {H : Type} {enc : TypeId × Value → H} {W W' : World} {t : TypeId} {v : Value} {d : DataW H} {p : List MemPlace} (B : Bl W W') (ht : t < Tryd.prog.types.size)
    (h : DataW.Trod enc Tryd.prog W 0 (fun _ => true) true t v d p) (sp : Nat → Bool) (hs : ∀ q ∈ p, sp q.block = true) : DataW.Trod enc Tryd.prog W' 0 sp true t v d p := by
  obtain ⟨n, h⟩ := h
  exact ⟨n, DataW.trod_stays (T := (· < Tryd.prog.types.size)) (kids_rows laidOut mapsR) (fun ht hu => sized ht hu) (fun h => by cases h) ht h
    (fun q hq => Go.RowKit.Below.same B (DataW.trod_lt n t _ _ h q hq)) hs⟩
/-- what a call that only reads leaves: the row's own answer -/
theorem post_kept {H : Type} {enc : TypeId × Value → H} {P : Program} {s : ChangeSpec} {f : Func} {apart fresh handsOn again : Bool} {W W' : World} {args : Array Value} {v : Value} {ds gs : List (DataW H)} {before pa : List MemPlace}
    (hW : DataW.Whole enc P f.params.toList s.vars apart W args.toList ds gs before)
    (hres : ∀ (b : Nat) (sp : Nat → Bool) (hd : Bool), DataW.TrodAll enc P W' b sp hd f.resultTypes.toList (v.resultList f.resultTypes.size) (s.fn H (ds ++ gs)).results [])
    (hargs : ∀ sp : Nat → Bool, (∀ p ∈ before, sp p.block = true) → DataW.TrodAll enc P W' 0 sp true f.params.toList args.toList (s.fn H (ds ++ gs)).args pa)
    (hvars : ∀ sp : Nat → Bool, DataW.TrodVars enc P W' sp s.vars (s.fn H (ds ++ gs)).vars [])
    (hps : before = pa) (B : Bl W W')
    (hok : ∀ (j : Nat) (t : TypeId) (r : Value), f.resultTypes[j]? = some t → (v.resultList f.resultTypes.size)[j]? = some r → Value.okWide P W' .any 0 t r) :
    s.post enc P f apart fresh handsOn again W args v W' := by
  have hlt := fun p hp => hW.lt p hp
  have hold : ∀ p ∈ before, (fun b => decide (b < W.heap.size)) p.block = true := fun p hp => by simpa using hlt p hp
  subst hps
  refine ⟨ds, gs, before, [], before, [], hW, hres _ _ _, hargs _ hold, hvars _, Go.RowKit.Below.frame B _, fun _ => ?_⟩
  obtain ⟨_, _, _, _, _, hz, hn⟩ := hW
  refine ⟨hok, _, _, ([] ++ before) ++ [], ⟨[] ++ before, [], Go.ChangeShapes.trodAll_append (hargs _ (fun _ _ => rfl)) (hres _ _ _), hvars _, rfl, ?_, ?_⟩, ?_⟩
  · intro b off hp
    have hp' : MemPlace.cell b off ∈ before := by simpa using hp
    rw [Go.RowKit.Below.frozen B (hlt _ hp')]
    exact hz b off hp'
  · intro ha
    have := hn ha
    simpa using this
  · intro p hp _
    simpa using hp
end Go.Proofs.YtkahmepenjhcpaaDoor.W

/- Contracts: the calls of layer 6 over values. No statement of the seat is proved here. -/
namespace Go.Proofs.YtkahmepenjhcpaaDoor.W
open Go
set_option linter.unusedSimpArgs false
set_option linter.unusedVariables false


theorem SS.one {N : List Nat} {w : World} {v : Value} {ls : List (List Int)} (h : SS N w v ls) : v.oneCell' = true := let ⟨_, h1, _⟩ := h; h1.one
theorem putE_bd (l : List Opt) : putE l = 0 ∨ putE l = 65 := by unfold putE; split <;> simp
theorem OS.parts {N : List Nat} {w : World} {v : Value} {os : List Opt} (h : OS N w v os) : ∃ ds, Sl N w 2 v os.length (optC os ds) ∧ OSs N w ds os := h

set_option maxHeartbeats 1000000 in
theorem c106 (p : Op6) (vB o d vL : Value) (w : World) (hvB : vB.oneCell' = true) (hO : OS [] w o p.h.opts) (hd : BS [] w d p.h.data) (hL : OS [] w vL p.l) (hol : p.h.opts.length ≤ 1099511627000) (hdl : p.h.data.length ≤ 1099511627000) (hdo : ∀ o ∈ p.h.opts, o.data.length ≤ 1099511627000) (hll : p.l.length ≤ 1099511627000) (hld : ∀ o ∈ p.l, o.data.length ≤ 1099511627000) (hs : p.h.src.ok) (ht : p.h.dst.ok) (hg : GV [] w 0 130 (W4.map i64)) :
    CallsD Tryd.prog 106 #[.agg (encOp6 p vB o d vL).toArray] w (.bool true) := by
  refine enter Tryd.func106 rfl Tryd.ntmps106 (l := [(0, [], _)]) rfl rfl ?_
  have S := St.refl [] w
  obtain ⟨dsO, hOS, hOB⟩ := hO.parts
  obtain ⟨dsL, hLS, hLB⟩ := hL.parts
  have hol' : p.h.opts.length ≤ 1099511627776 := by omega
  have hdl' : p.h.data.length ≤ 1099511627776 := by omega
  have hdo' : ∀ o ∈ p.h.opts, o.data.length ≤ 1099511627776 := fun o h => by have := hdo o h; omega
  have hll' : p.l.length ≤ 1099511627776 := by omega
  have hld' : ∀ o ∈ p.l, o.data.length ≤ 1099511627776 := fun o h => by have := hld o h; omega
  have hce := chkE_bd p.h
  have hpe := putE_bd p.l
  have hodt := hO.byt
  refine Run.seq ?_
  refine Run.region ?_
  refine boxA rfl S rfl ?_
  intro b1 w1 hb1 S B_
  refine asg1 rfl rfl ?_
  refine Ro.nil ?_
  refine Nrm.code ?_
  refine Run.seq ?_
  refine Run.region ?_
  refine fld (o' := 2) rfl fo144_2 rfl rfl rfl rfl ?_
  refine ldA (cs := encIp4 p.h o d) rfl T28 S (i := 0) rfl rfl rfl (by decide) rfl rfl rfl ?_
  refine alc T28 S rfl ?_
  intro b3 w2 hb3 S B_
  refine stW rfl rfl T28 rfl rfl (one_cons rfl (one_cons rfl (one_cons rfl (one_cons rfl (one_cons rfl (one_cons rfl (one_cons rfl (one_cons rfl (one_cons rfl (one_cons rfl (one_cons rfl (one_cons rfl (one_cons rfl (one_cons rfl (one_cons rfl (one_cons rfl (one_cons rfl (one_cons rfl (one_cons rfl (one_cons rfl (one_cons rfl (one_cons rfl (one_cons rfl (one_cons rfl (one_cons rfl (one_cons rfl (one_cons rfl (one_cons rfl (one_cons rfl (one_cons rfl (one_cons rfl (one_cons rfl (one_cons rfl (one_cons rfl (one_cons rfl (one_cons rfl (one_cons rfl (one_cons rfl (one_cons rfl (one_cons rfl (one_cons rfl (one_cons hO.one (one_cons hd.one one_nil))))))))))))))))))))))))))))))))))))))))))) S (i := 0) rfl rfl ?_
  intro w3 S
  refine Ro.nil ?_
  refine Nrm.code ?_
  refine Run.seq ?_
  refine Run.region ?_
  refine fld (o' := 42) rfl fo28_10 rfl rfl rfl rfl ?_
  refine ld1 rfl T26 S (i := 0) rfl rfl rfl rfl rfl ?_
  refine call (vs := [_]) ⟨⟨_, _, rfl, rfl⟩, trivial⟩ k145 rfl (c145 _ _ _ (hd.now S) (by omega)) ?_
  rintro u4 w4 hF
  have S := S.fb hF
  have hby_u4 : byt (_ ++ marks) := byt_app hd.1 marks_byt
  obtain ⟨hu4, S⟩ := S.layBI (i := 0) rfl rfl hby_u4
  obtain ⟨N1, hN1, S_1⟩ := S.reb
  have hO := hO.st S; rw [hN1] at hO
  have hd := hd.st S; rw [hN1] at hd
  have hL := hL.st S; rw [hN1] at hL
  have hg := hg.st S; rw [hN1] at hg
  have hOS := hOS.st S; rw [hN1] at hOS
  have hLS := hLS.st S; rw [hN1] at hLS
  rw [hN1] at hu4
  have SS := S
  have S := S_1
  refine asg1 rfl rfl ?_
  refine Ro.nil ?_
  refine Nrm.code ?_
  refine Run.seq ?_
  refine Run.region ?_
  refine fld (o' := 41) rfl fo28_9 rfl rfl rfl rfl ?_
  refine ld1 rfl T25 S (i := 0) rfl rfl rfl rfl rfl ?_
  have S0 := S
  refine call (vs := [_]) ⟨⟨_, _, rfl, rfl⟩, trivial⟩ k146 rfl (c146 _ _ _ (hO.now S) hol' hdo') ?_
  rintro _ w5 ⟨m5, w6, rfl, B1, hq⟩
  have S := S.call B1
  have hm5 := (hq _ S0.lt).1
  have hw6 := (hq _ S0.lt).2
  obtain ⟨N2, hN2, S_2⟩ := S.reb
  have hO := hO.st S; rw [hN2] at hO
  have hd := hd.st S; rw [hN2] at hd
  have hL := hL.st S; rw [hN2] at hL
  have hg := hg.st S; rw [hN2] at hg
  have hOS := hOS.st S; rw [hN2] at hOS
  have hLS := hLS.st S; rw [hN2] at hLS
  have hu4 := hu4.st S; rw [hN2] at hu4
  rw [hN2] at hm5
  rw [hN2] at hw6
  have SS := SS.tran hN1 S
  have S := S_2
  refine mv1 rfl rfl ?_
  refine extr1 rfl rfl rfl ?_
  refine extr1 rfl rfl rfl ?_
  refine asg1 rfl rfl ?_
  refine asg1 rfl rfl ?_
  refine Ro.nil ?_
  refine Nrm.code ?_
  refine Run.seq ?_
  refine Run.region ?_
  refine mv1 rfl rfl ?_
  refine fld (o' := 2) rfl fo144_2 rfl rfl rfl rfl ?_
  refine fld (o' := 44) rfl fo28_10 rfl rfl rfl rfl ?_
  refine ld1 rfl T26 S (i := 1) rfl rfl rfl rfl rfl ?_
  refine lenS rfl hd.2 Tryd.underlying26 rfl rfl rfl ?_
  refine slC (lo := 0) (hi := p.h.data.length) (mx := capV u4) rfl hu4 e26 rfl rfl rfl (i1 := none) (i2 := some (p.h.data.length)) (i3 := none) trivial ⟨_, _, _, rfl, rfl⟩ trivial rfl rfl rfl (fun h => by first | rfl | cases h) (fun _ => by have := hu4.cap; rw [List.length_append] at *; omega) ?_
  have hd4 := hu4.cutM
  refine fld (o' := 42) rfl fo28_10 rfl rfl rfl rfl ?_
  refine st1 rfl rfl T26 hd4.one S (i := 0) rfl rfl rfl ?_
  intro w6 S
  refine Ro.nil ?_
  refine Nrm.code ?_
  refine Run.seq ?_
  refine Run.region ?_
  refine mv1 rfl rfl ?_
  refine fld (o' := 2) rfl fo144_2 rfl rfl rfl rfl ?_
  refine fld (o' := 43) rfl fo28_9 rfl rfl rfl rfl ?_
  refine ld1 rfl T25 S (i := 1) rfl rfl rfl rfl rfl ?_
  refine lenS rfl hOS Tryd.underlying25 rfl rfl rfl ?_
  obtain ⟨ms_, hmS_, hmB_⟩ := hm5.parts
  refine slS (v := m5) (lo := 0) (hi := p.h.opts.length) (mx := capV m5) rfl hmS_ e25 rfl rfl rfl (i1 := none) (i2 := some p.h.opts.length) (i3 := none) trivial ⟨_, _, _, rfl, rfl⟩ trivial rfl rfl rfl (fun h => by first | rfl | cases h) (fun _ => by have := hmS_.cap; rw [List.length_append] at *; omega) ?_
  intro vc4 hvc_
  have ho4 := OS.take hmB_ hmB_.len (by rw [List.length_append]; omega) (hvc_ trivial).1
  rw [show (p.h.opts ++ [(⟨99, []⟩ : Opt)]).take p.h.opts.length = p.h.opts from by simp] at ho4
  refine fld (o' := 41) rfl fo28_9 rfl rfl rfl rfl ?_
  refine st1 rfl rfl T25 ho4.one S (i := 0) rfl rfl rfl ?_
  intro w7 S
  have S : St _ _ [.var b3 28 (encIp4 p.h vc4 (cut u4 0 p.h.data.length (capV u4))), _] w7 := S
  refine Ro.nil ?_
  refine Nrm.code ?_
  refine Run.seq ?_
  refine Run.region ?_
  refine fld (o' := 45) rfl fo144_3 rfl rfl rfl rfl ?_
  refine ld1 rfl T25 S (i := 1) rfl rfl rfl rfl rfl ?_
  have S0 := S
  refine call (vs := [_]) ⟨⟨_, _, rfl, rfl⟩, trivial⟩ k146 rfl (c146 _ _ _ (hL.now S) hll' hld') ?_
  rintro _ w8 ⟨m7, w8, rfl, B1, hq⟩
  have S := S.call B1
  have hm7 := (hq _ S0.lt).1
  have hw8 := (hq _ S0.lt).2
  obtain ⟨N3, hN3, S_3⟩ := S.reb
  have hO := hO.st S; rw [hN3] at hO
  have hd := hd.st S; rw [hN3] at hd
  have hL := hL.st S; rw [hN3] at hL
  have hg := hg.st S; rw [hN3] at hg
  have hOS := hOS.st S; rw [hN3] at hOS
  have hLS := hLS.st S; rw [hN3] at hLS
  have hu4 := hu4.st S; rw [hN3] at hu4
  have hm5 := hm5.st S; rw [hN3] at hm5
  have hw6 := hw6.st S; rw [hN3] at hw6
  have hd4 := hd4.st S; rw [hN3] at hd4
  have ho4 := ho4.st S; rw [hN3] at ho4
  rw [hN3] at hm7
  rw [hN3] at hw8
  have SS := SS.tran hN2 S
  have S := S_3
  refine mv1 rfl rfl ?_
  refine extr1 rfl rfl rfl ?_
  refine extr1 rfl rfl rfl ?_
  refine asg1 rfl rfl ?_
  refine asg1 rfl rfl ?_
  refine Ro.nil ?_
  refine Nrm.code ?_
  refine Run.seq ?_
  refine Run.region ?_
  refine asg1 rfl rfl ?_
  refine Ro.nil ?_
  refine Nrm.code ?_
  refine Run.seq ?_
  refine Run.seq ?_
  refine Run.region ?_
  refine fld (o' := 0) rfl fo144_0 rfl rfl rfl rfl ?_
  refine ld1 rfl T3 S (i := 1) rfl rfl rfl rfl rfl ?_
  refine Ro.nil ?_
  refine Nrm.code ?_
  refine Run.block ?_
  refine Run.seq ?_
  refine Run.region ?_
  refine eql1 rfl rfl rfl ?_
  refine asg1 rfl rfl ?_
  refine Ro.nil ?_
  refine Nrm.code ?_
  refine Run.cond rfl (fun hc9 => ?_) (fun hc9 => ?_)
  ·
    try simp only [Bool.or_eq_true, Bool.and_eq_true, Bool.or_eq_false_iff, Bool.and_eq_false_iff, decide_eq_true_eq, decide_eq_false_iff_not, Bool.not_eq_true', Bool.not_eq_false', Bool.not_eq_true, Bool.not_eq_false] at hc9
    refine Run.seq ?_
    refine Run.region ?_
    refine ldW rfl T28 S (i := 0) rfl rfl rfl rfl rfl ?_
    refine calg (vs := [_]) rfl ⟨⟨_, _, rfl, rfl⟩, trivial⟩ k32 rfl (fun hG => c32 p.h vc4 (cut u4 0 p.h.data.length (capV u4)) _ (ho4.now S) (hd4.now S) hol' hdl') ?_
    intro w9 B_; have S := S.call B_
    refine asg1 rfl rfl ?_
    refine Ro.nil ?_
    refine Nrm.code ?_
    refine Run.draw (by kernel_rfl) (by kernel_rfl) S ?_
    refine qmv rfl rfl rfl rfl ?_
    refine qcal (vs := [_]) rfl ⟨⟨_, _, rfl, rfl⟩, trivial⟩ k31 rfl (fun _ _ S B => S.call B) (fun hG w_ S => c31 _ _ (by omega)) ?_
    refine qfld (o' := 2) rfl fo144_2 rfl rfl rfl rfl ?_
    refine qldA (cs := encIp4 p.h o d) rfl T28 (fun _ S => S) (i := 1) rfl rfl rfl (by decide) rfl rfl rfl ?_
    refine qcal (vs := [_]) rfl ⟨⟨_, _, rfl, rfl⟩, trivial⟩ k147 rfl (fun _ _ S B => S.call B) (fun hG w_ S => c147 p.h o d _ (hO.now S) (hd.now S) hol' hdl') ?_
    refine qeql rfl rfl rfl rfl rfl rfl ?_
    refine qasg rfl rfl rfl rfl ?_
    refine Qo.nil (fun w10 S => ?_)
    refine Nrm.blk ?_
    refine Nrm.code ?_
    refine Run.seq ?_
    refine Run.region ?_
    refine mv1 rfl rfl ?_
    refine mv1 rfl rfl ?_
    refine ldW rfl T28 S (i := 0) rfl rfl rfl rfl rfl ?_
    refine fld (o' := 2) rfl fo144_2 rfl rfl rfl rfl ?_
    refine ldA (cs := encIp4 p.h o d) rfl T28 S (i := 1) rfl rfl rfl (by decide) rfl rfl rfl ?_
    refine calg (vs := [_, _]) rfl ⟨⟨_, _, rfl, rfl⟩, ⟨_, _, rfl, rfl⟩, trivial⟩ k34 rfl (fun hG => c34 _ _ vc4 (cut u4 0 p.h.data.length (capV u4)) o d _ (ho4.now S) (hd4.now S) (hO.now S) (hd.now S) hol') ?_
    intro w11 B_; have S := S.call B_
    refine pkA rfl rfl rfl rfl rfl rfl ?_
    refine mv1 rfl rfl ?_
    refine mv rfl rfl rfl rfl ?_
    refine fld (o' := 2) rfl fo144_2 rfl rfl rfl rfl ?_
    refine fld (o' := 44) rfl fo28_10 rfl rfl rfl rfl ?_
    refine ld1 rfl T26 S (i := 1) rfl rfl rfl rfl rfl ?_
    refine calg (vs := [_, _]) rfl ⟨⟨_, _, rfl, rfl⟩, ⟨_, _, rfl, rfl⟩, trivial⟩ k148 rfl (fun hG => c148 _ _ _ _ _ (hu4.now S) (hd.now S) (by exact hdl')) ?_
    intro w12 B_; have S := S.call B_
    refine pkA rfl rfl rfl rfl rfl rfl ?_
    refine mv1 rfl rfl ?_
    refine mv rfl rfl rfl rfl ?_
    refine mv rfl rfl rfl rfl ?_
    refine fld (o' := 2) rfl fo144_2 rfl rfl rfl rfl ?_
    refine fld (o' := 43) rfl fo28_9 rfl rfl rfl rfl ?_
    refine ld1 rfl T25 S (i := 1) rfl rfl rfl rfl rfl ?_
    refine calg (vs := [_, _, _]) rfl ⟨⟨_, _, rfl, rfl⟩, ⟨_, _, rfl, rfl⟩, ⟨_, _, rfl, rfl⟩, trivial⟩ k149 rfl (fun hG => c149 _ _ _ _ _ (hm5.now S) (hw6.now S) (hO.now S) hol' hdo') ?_
    intro w13 B_; have S := S.call B_
    refine pkA rfl rfl rfl rfl rfl rfl ?_
    refine mv1 rfl rfl ?_
    refine mv rfl rfl rfl rfl ?_
    refine mv rfl rfl rfl rfl ?_
    refine fld (o' := 45) rfl fo144_3 rfl rfl rfl rfl ?_
    refine ld1 rfl T25 S (i := 1) rfl rfl rfl rfl rfl ?_
    refine calg (vs := [_, _, _]) rfl ⟨⟨_, _, rfl, rfl⟩, ⟨_, _, rfl, rfl⟩, ⟨_, _, rfl, rfl⟩, trivial⟩ k149 rfl (fun hG => c149 _ _ _ _ _ (hm7.now S) (hw8.now S) (hL.now S) hll' hld') ?_
    intro w14 B_; have S := S.call B_
    refine pkA rfl rfl rfl rfl rfl rfl ?_
    refine asg1 rfl rfl ?_
    refine Ro.nil ?_
    refine Nrm.code ?_
    refine Run.ret ?_
    refine Rt.one rfl rfl ?_
    exact ⟨by simp [sameH_refl], (SS.tran hN3 S).bl⟩
  ·
    try simp only [Bool.or_eq_true, Bool.and_eq_true, Bool.or_eq_false_iff, Bool.and_eq_false_iff, decide_eq_true_eq, decide_eq_false_iff_not, Bool.not_eq_true', Bool.not_eq_false', Bool.not_eq_true, Bool.not_eq_false] at hc9
    refine Run.seq ?_
    refine Run.region ?_
    refine eql1 rfl rfl rfl ?_
    refine asg1 rfl rfl ?_
    refine Ro.nil ?_
    refine Nrm.code ?_
    refine Run.cond rfl (fun hc12 => ?_) (fun hc12 => ?_)
    ·
      try simp only [Bool.or_eq_true, Bool.and_eq_true, Bool.or_eq_false_iff, Bool.and_eq_false_iff, decide_eq_true_eq, decide_eq_false_iff_not, Bool.not_eq_true', Bool.not_eq_false', Bool.not_eq_true, Bool.not_eq_false] at hc12
      refine Run.seq ?_
      refine Run.region ?_
      refine ldW rfl T28 S (i := 0) rfl rfl rfl rfl rfl ?_
      refine call (vs := [_]) ⟨⟨_, _, rfl, rfl⟩, trivial⟩ k30 rfl (c30 p.h vc4 (cut u4 0 p.h.data.length (capV u4)) _ (ho4.now S) (hd4.now S) hol' hdl' hs ht (hg.now S)) ?_
      rintro _ w9 ⟨u11, rfl, hF⟩
      have S := S.fb hF
      have hby_u11 := serL_byt hs ht hodt hd.1
      refine mv1 rfl rfl ?_
      refine extr1 rfl rfl rfl ?_
      refine extr1 rfl rfl rfl ?_
      refine asg1 rfl rfl ?_
      refine asg1 rfl rfl ?_
      refine Ro.nil ?_
      refine Nrm.code ?_
      refine Run.seq ?_
      refine Run.region ?_
      refine fld (o' := 2) rfl fo144_2 rfl rfl rfl rfl ?_
      refine ldA (cs := encIp4 p.h o d) rfl T28 S (i := 2) rfl rfl rfl (by decide) rfl rfl rfl ?_
      refine call (vs := [_]) ⟨⟨_, _, rfl, rfl⟩, trivial⟩ k115 rfl (c115 p.h o d _ (hO.now S) (hd.now S) hol' hdl' hs ht) ?_
      rintro _ w10 ⟨u13, rfl, hF⟩
      have S := S.fb hF
      have hby_u13 := hby_u11
      refine mv1 rfl rfl ?_
      refine extr1 rfl rfl rfl ?_
      refine extr1 rfl rfl rfl ?_
      refine asg1 rfl rfl ?_
      refine asg1 rfl rfl ?_
      refine Ro.nil ?_
      refine Nrm.code ?_
      refine Run.region ?_
      refine mv1 rfl rfl ?_
      refine calg (vs := [_]) rfl ⟨⟨_, _, rfl, rfl⟩, trivial⟩ k31 rfl (fun hG => c31 _ _ (by omega)) ?_
      intro w11 B_; have S := S.call B_
      refine mv1 rfl rfl ?_
      refine eql1 rfl rfl rfl ?_
      refine mv1 rfl rfl ?_
      refine mv rfl rfl rfl rfl ?_
      refine mv rfl rfl rfl rfl ?_
      refine calg (vs := [_, _]) rfl ⟨⟨_, _, rfl, rfl⟩, ⟨_, _, rfl, rfl⟩, trivial⟩ k37 rfl (fun hG => c37 _ _ _ _ _ (S.bsI (i := 1) rfl hby_u11) (S.bsI (i := 0) rfl hby_u13)) ?_
      intro w12 B_; have S := S.call B_
      refine pkA rfl rfl rfl rfl rfl rfl ?_
      refine asg1 rfl rfl ?_
      refine Ro.nil ?_
      refine Nrm.blk ?_
      refine Nrm.code ?_
      refine Run.seq ?_
      refine Run.region ?_
      refine mv1 rfl rfl ?_
      refine mv1 rfl rfl ?_
      refine ldW rfl T28 S (i := 2) rfl rfl rfl rfl rfl ?_
      refine fld (o' := 2) rfl fo144_2 rfl rfl rfl rfl ?_
      refine ldA (cs := encIp4 p.h o d) rfl T28 S (i := 3) rfl rfl rfl (by decide) rfl rfl rfl ?_
      refine calg (vs := [_, _]) rfl ⟨⟨_, _, rfl, rfl⟩, ⟨_, _, rfl, rfl⟩, trivial⟩ k34 rfl (fun hG => c34 _ _ vc4 (cut u4 0 p.h.data.length (capV u4)) o d _ (ho4.now S) (hd4.now S) (hO.now S) (hd.now S) hol') ?_
      intro w13 B_; have S := S.call B_
      refine pkA rfl rfl rfl rfl rfl rfl ?_
      refine mv1 rfl rfl ?_
      refine mv rfl rfl rfl rfl ?_
      refine fld (o' := 2) rfl fo144_2 rfl rfl rfl rfl ?_
      refine fld (o' := 44) rfl fo28_10 rfl rfl rfl rfl ?_
      refine ld1 rfl T26 S (i := 3) rfl rfl rfl rfl rfl ?_
      refine calg (vs := [_, _]) rfl ⟨⟨_, _, rfl, rfl⟩, ⟨_, _, rfl, rfl⟩, trivial⟩ k148 rfl (fun hG => c148 _ _ _ _ _ (hu4.now S) (hd.now S) (by exact hdl')) ?_
      intro w14 B_; have S := S.call B_
      refine pkA rfl rfl rfl rfl rfl rfl ?_
      refine mv1 rfl rfl ?_
      refine mv rfl rfl rfl rfl ?_
      refine mv rfl rfl rfl rfl ?_
      refine fld (o' := 2) rfl fo144_2 rfl rfl rfl rfl ?_
      refine fld (o' := 43) rfl fo28_9 rfl rfl rfl rfl ?_
      refine ld1 rfl T25 S (i := 3) rfl rfl rfl rfl rfl ?_
      refine calg (vs := [_, _, _]) rfl ⟨⟨_, _, rfl, rfl⟩, ⟨_, _, rfl, rfl⟩, ⟨_, _, rfl, rfl⟩, trivial⟩ k149 rfl (fun hG => c149 _ _ _ _ _ (hm5.now S) (hw6.now S) (hO.now S) hol' hdo') ?_
      intro w15 B_; have S := S.call B_
      refine pkA rfl rfl rfl rfl rfl rfl ?_
      refine mv1 rfl rfl ?_
      refine mv rfl rfl rfl rfl ?_
      refine mv rfl rfl rfl rfl ?_
      refine fld (o' := 45) rfl fo144_3 rfl rfl rfl rfl ?_
      refine ld1 rfl T25 S (i := 3) rfl rfl rfl rfl rfl ?_
      refine calg (vs := [_, _, _]) rfl ⟨⟨_, _, rfl, rfl⟩, ⟨_, _, rfl, rfl⟩, ⟨_, _, rfl, rfl⟩, trivial⟩ k149 rfl (fun hG => c149 _ _ _ _ _ (hm7.now S) (hw8.now S) (hL.now S) hll' hld') ?_
      intro w16 B_; have S := S.call B_
      refine pkA rfl rfl rfl rfl rfl rfl ?_
      refine asg1 rfl rfl ?_
      refine Ro.nil ?_
      refine Nrm.code ?_
      refine Run.ret ?_
      refine Rt.one rfl rfl ?_
      exact ⟨by simp [sameH_refl], (SS.tran hN3 S).bl⟩
    ·
      try simp only [Bool.or_eq_true, Bool.and_eq_true, Bool.or_eq_false_iff, Bool.and_eq_false_iff, decide_eq_true_eq, decide_eq_false_iff_not, Bool.not_eq_true', Bool.not_eq_false', Bool.not_eq_true, Bool.not_eq_false] at hc12
      refine Run.seq ?_
      refine Run.region ?_
      refine eql1 rfl rfl rfl ?_
      refine asg1 rfl rfl ?_
      refine Ro.nil ?_
      refine Nrm.code ?_
      refine Run.cond rfl (fun hc16 => ?_) (fun hc16 => ?_)
      ·
        try simp only [Bool.or_eq_true, Bool.and_eq_true, Bool.or_eq_false_iff, Bool.and_eq_false_iff, decide_eq_true_eq, decide_eq_false_iff_not, Bool.not_eq_true', Bool.not_eq_false', Bool.not_eq_true, Bool.not_eq_false] at hc16
        refine Run.seq ?_
        refine Run.region ?_
        refine mv1 rfl rfl ?_
        refine fld (o' := 45) rfl fo144_3 rfl rfl rfl rfl ?_
        refine ld1 rfl T25 S (i := 1) rfl rfl rfl rfl rfl ?_
        refine lenS rfl hLS Tryd.underlying25 rfl rfl rfl ?_
        obtain ⟨ms_, hmS_, hmB_⟩ := hm7.parts
        refine slS (v := m7) (lo := 0) (hi := p.l.length) (mx := capV m7) rfl hmS_ e25 rfl rfl rfl (i1 := none) (i2 := some p.l.length) (i3 := none) trivial ⟨_, _, _, rfl, rfl⟩ trivial rfl rfl rfl (fun h => by first | rfl | cases h) (fun _ => by have := hmS_.cap; rw [List.length_append] at *; omega) ?_
        intro vc7 hvc_
        have ho7 := OS.take hmB_ hmB_.len (by rw [List.length_append]; omega) (hvc_ trivial).1
        rw [show (p.l ++ [(⟨99, []⟩ : Opt)]).take p.l.length = p.l from by simp] at ho7
        refine call (vs := [_]) ⟨⟨_, _, rfl, rfl⟩, trivial⟩ k94 rfl (c94 _ _ _ (ho7.now S) (by exact hll')) ?_
        rintro _ w9 ⟨u15, rfl, hF⟩
        have S := S.fb hF
        refine mv1 rfl rfl ?_
        refine extr1 rfl rfl rfl ?_
        refine extr1 rfl rfl rfl ?_
        refine asg1 rfl rfl ?_
        refine asg1 rfl rfl ?_
        refine Ro.nil ?_
        refine Nrm.code ?_
        refine Run.seq ?_
        refine Run.region ?_
        refine fld (o' := 45) rfl fo144_3 rfl rfl rfl rfl ?_
        refine ld1 rfl T25 S (i := 2) rfl rfl rfl rfl rfl ?_
        refine call (vs := [_]) ⟨⟨_, _, rfl, rfl⟩, trivial⟩ k136 rfl (c136 _ _ _ (hL.now S) (by exact hll')) ?_
        rintro _ w10 ⟨u17, rfl, hF⟩
        have S := S.fb hF
        refine mv1 rfl rfl ?_
        refine extr1 rfl rfl rfl ?_
        refine extr1 rfl rfl rfl ?_
        refine asg1 rfl rfl ?_
        refine asg1 rfl rfl ?_
        refine Ro.nil ?_
        refine Nrm.code ?_
        refine Run.region ?_
        refine mv1 rfl rfl ?_
        have hby_u15 : byt (putL p.l) := putL_byt hL.byt
        have hby_u17 := hby_u15
        refine calg (vs := [_]) rfl ⟨⟨_, _, rfl, rfl⟩, trivial⟩ k31 rfl (fun hG => c31 _ _ (by omega)) ?_
        intro w11 B_; have S := S.call B_
        refine mv1 rfl rfl ?_
        refine eql1 rfl rfl rfl ?_
        refine mv1 rfl rfl ?_
        refine mv rfl rfl rfl rfl ?_
        refine mv rfl rfl rfl rfl ?_
        refine calg (vs := [_, _]) rfl ⟨⟨_, _, rfl, rfl⟩, ⟨_, _, rfl, rfl⟩, trivial⟩ k37 rfl (fun hG => c37 _ _ _ _ _ (S.bsI (i := 1) rfl hby_u15) (S.bsI (i := 0) rfl hby_u17)) ?_
        intro w12 B_; have S := S.call B_
        refine pkA rfl rfl rfl rfl rfl rfl ?_
        refine asg1 rfl rfl ?_
        refine Ro.nil ?_
        refine Nrm.blk ?_
        refine Nrm.code ?_
        refine Run.seq ?_
        refine Run.region ?_
        refine mv1 rfl rfl ?_
        refine mv1 rfl rfl ?_
        refine ldW rfl T28 S (i := 2) rfl rfl rfl rfl rfl ?_
        refine fld (o' := 2) rfl fo144_2 rfl rfl rfl rfl ?_
        refine ldA (cs := encIp4 p.h o d) rfl T28 S (i := 3) rfl rfl rfl (by decide) rfl rfl rfl ?_
        refine calg (vs := [_, _]) rfl ⟨⟨_, _, rfl, rfl⟩, ⟨_, _, rfl, rfl⟩, trivial⟩ k34 rfl (fun hG => c34 _ _ vc4 (cut u4 0 p.h.data.length (capV u4)) o d _ (ho4.now S) (hd4.now S) (hO.now S) (hd.now S) hol') ?_
        intro w13 B_; have S := S.call B_
        refine pkA rfl rfl rfl rfl rfl rfl ?_
        refine mv1 rfl rfl ?_
        refine mv rfl rfl rfl rfl ?_
        refine fld (o' := 2) rfl fo144_2 rfl rfl rfl rfl ?_
        refine fld (o' := 44) rfl fo28_10 rfl rfl rfl rfl ?_
        refine ld1 rfl T26 S (i := 3) rfl rfl rfl rfl rfl ?_
        refine calg (vs := [_, _]) rfl ⟨⟨_, _, rfl, rfl⟩, ⟨_, _, rfl, rfl⟩, trivial⟩ k148 rfl (fun hG => c148 _ _ _ _ _ (hu4.now S) (hd.now S) (by exact hdl')) ?_
        intro w14 B_; have S := S.call B_
        refine pkA rfl rfl rfl rfl rfl rfl ?_
        refine mv1 rfl rfl ?_
        refine mv rfl rfl rfl rfl ?_
        refine mv rfl rfl rfl rfl ?_
        refine fld (o' := 2) rfl fo144_2 rfl rfl rfl rfl ?_
        refine fld (o' := 43) rfl fo28_9 rfl rfl rfl rfl ?_
        refine ld1 rfl T25 S (i := 3) rfl rfl rfl rfl rfl ?_
        refine calg (vs := [_, _, _]) rfl ⟨⟨_, _, rfl, rfl⟩, ⟨_, _, rfl, rfl⟩, ⟨_, _, rfl, rfl⟩, trivial⟩ k149 rfl (fun hG => c149 _ _ _ _ _ (hm5.now S) (hw6.now S) (hO.now S) hol' hdo') ?_
        intro w15 B_; have S := S.call B_
        refine pkA rfl rfl rfl rfl rfl rfl ?_
        refine mv1 rfl rfl ?_
        refine mv rfl rfl rfl rfl ?_
        refine mv rfl rfl rfl rfl ?_
        refine fld (o' := 45) rfl fo144_3 rfl rfl rfl rfl ?_
        refine ld1 rfl T25 S (i := 3) rfl rfl rfl rfl rfl ?_
        refine calg (vs := [_, _, _]) rfl ⟨⟨_, _, rfl, rfl⟩, ⟨_, _, rfl, rfl⟩, ⟨_, _, rfl, rfl⟩, trivial⟩ k149 rfl (fun hG => c149 _ _ _ _ _ (hm7.now S) (hw8.now S) (hL.now S) hll' hld') ?_
        intro w16 B_; have S := S.call B_
        refine pkA rfl rfl rfl rfl rfl rfl ?_
        refine asg1 rfl rfl ?_
        refine Ro.nil ?_
        refine Nrm.code ?_
        refine Run.ret ?_
        refine Rt.one rfl rfl ?_
        exact ⟨by simp [sameH_refl], (SS.tran hN3 S).bl⟩
      ·
        try simp only [Bool.or_eq_true, Bool.and_eq_true, Bool.or_eq_false_iff, Bool.and_eq_false_iff, decide_eq_true_eq, decide_eq_false_iff_not, Bool.not_eq_true', Bool.not_eq_false', Bool.not_eq_true, Bool.not_eq_false] at hc16
        refine Run.skip ?_
        refine Nrm.blk ?_
        refine Nrm.code ?_
        refine Run.seq ?_
        refine Run.region ?_
        refine mv1 rfl rfl ?_
        refine mv1 rfl rfl ?_
        refine ldW rfl T28 S (i := 0) rfl rfl rfl rfl rfl ?_
        refine fld (o' := 2) rfl fo144_2 rfl rfl rfl rfl ?_
        refine ldA (cs := encIp4 p.h o d) rfl T28 S (i := 1) rfl rfl rfl (by decide) rfl rfl rfl ?_
        refine calg (vs := [_, _]) rfl ⟨⟨_, _, rfl, rfl⟩, ⟨_, _, rfl, rfl⟩, trivial⟩ k34 rfl (fun hG => c34 _ _ vc4 (cut u4 0 p.h.data.length (capV u4)) o d _ (ho4.now S) (hd4.now S) (hO.now S) (hd.now S) hol') ?_
        intro w9 B_; have S := S.call B_
        refine pkA rfl rfl rfl rfl rfl rfl ?_
        refine mv1 rfl rfl ?_
        refine mv rfl rfl rfl rfl ?_
        refine fld (o' := 2) rfl fo144_2 rfl rfl rfl rfl ?_
        refine fld (o' := 44) rfl fo28_10 rfl rfl rfl rfl ?_
        refine ld1 rfl T26 S (i := 1) rfl rfl rfl rfl rfl ?_
        refine calg (vs := [_, _]) rfl ⟨⟨_, _, rfl, rfl⟩, ⟨_, _, rfl, rfl⟩, trivial⟩ k148 rfl (fun hG => c148 _ _ _ _ _ (hu4.now S) (hd.now S) (by exact hdl')) ?_
        intro w10 B_; have S := S.call B_
        refine pkA rfl rfl rfl rfl rfl rfl ?_
        refine mv1 rfl rfl ?_
        refine mv rfl rfl rfl rfl ?_
        refine mv rfl rfl rfl rfl ?_
        refine fld (o' := 2) rfl fo144_2 rfl rfl rfl rfl ?_
        refine fld (o' := 43) rfl fo28_9 rfl rfl rfl rfl ?_
        refine ld1 rfl T25 S (i := 1) rfl rfl rfl rfl rfl ?_
        refine calg (vs := [_, _, _]) rfl ⟨⟨_, _, rfl, rfl⟩, ⟨_, _, rfl, rfl⟩, ⟨_, _, rfl, rfl⟩, trivial⟩ k149 rfl (fun hG => c149 _ _ _ _ _ (hm5.now S) (hw6.now S) (hO.now S) hol' hdo') ?_
        intro w11 B_; have S := S.call B_
        refine pkA rfl rfl rfl rfl rfl rfl ?_
        refine mv1 rfl rfl ?_
        refine mv rfl rfl rfl rfl ?_
        refine mv rfl rfl rfl rfl ?_
        refine fld (o' := 45) rfl fo144_3 rfl rfl rfl rfl ?_
        refine ld1 rfl T25 S (i := 1) rfl rfl rfl rfl rfl ?_
        refine calg (vs := [_, _, _]) rfl ⟨⟨_, _, rfl, rfl⟩, ⟨_, _, rfl, rfl⟩, ⟨_, _, rfl, rfl⟩, trivial⟩ k149 rfl (fun hG => c149 _ _ _ _ _ (hm7.now S) (hw8.now S) (hL.now S) hll' hld') ?_
        intro w12 B_; have S := S.call B_
        refine pkA rfl rfl rfl rfl rfl rfl ?_
        refine asg1 rfl rfl ?_
        refine Ro.nil ?_
        refine Nrm.code ?_
        refine Run.ret ?_
        refine Rt.one rfl rfl ?_
        exact ⟨by simp [sameH_refl], (SS.tran hN3 S).bl⟩

end Go.Proofs.YtkahmepenjhcpaaDoor.W

/- Contracts: scripts of layer 6. No statement of the seat is proved here. -/
namespace Go.Proofs.YtkahmepenjhcpaaDoor.W
open Go
set_option linter.unusedSimpArgs false
set_option linter.unusedVariables false


theorem flat_at {α : Type} {sz : Nat} : ∀ {cs : List (List α)} {i : Nat}, (∀ c ∈ cs, c.length = sz) → i < cs.length → i * sz + sz ≤ cs.flatten.length ∧ (cs.flatten.drop (i * sz)).take sz = cs.getD i []
  | [], i, _, h => by simp at h
  | c :: cs, 0, h, _ => by
    have hc := h c (by simp)
    simp only [List.flatten_cons, List.length_append, Nat.zero_mul, List.drop_zero, List.getD_cons_zero]
    exact ⟨by omega, List.take_left' hc⟩
  | c :: cs, i + 1, h, hi => by
    have hc := h c (by simp)
    have ih := flat_at (sz := sz) (cs := cs) (i := i) (fun x hx => h x (by simp [hx])) (by simpa using hi)
    have e : (i + 1) * sz = c.length + i * sz := by rw [Nat.add_mul, Nat.one_mul, hc]; omega
    simp only [List.flatten_cons, List.length_append, List.getD_cons_succ]
    refine ⟨by omega, ?_⟩
    rw [e, ← List.drop_drop, List.drop_left]
    exact ih.2
def opz : Op6 := ⟨0, [], ⟨0, 0, false, false, 0, 0, 0, ⟨0, fun _ => 0⟩, ⟨0, fun _ => 0⟩, [], []⟩, []⟩
/-- one call of a script, as it is read -/
structure O6 (N : List Nat) (w : World) (c : List Value) (p : Op6) : Prop where
  ex : ∃ vB o d vL, c = encOp6 p vB o d vL ∧ BS N w vB p.b ∧ OS N w o p.h.opts ∧ BS N w d p.h.data ∧ OS N w vL p.l
theorem O6.st {N0 : List Nat} {w0 w : World} {L : List Own} {c : List Value} {p : Op6} (h : O6 N0 w0 c p) (S : St N0 w0 L w) : O6 (idsL L) w c p :=
  let ⟨vB, o, d, vL, h1, h2, h3, h4, h5⟩ := h.ex; ⟨vB, o, d, vL, h1, h2.st S, h3.st S, h4.st S, h5.st S⟩
theorem O6.len {N : List Nat} {w : World} {c : List Value} {p : Op6} (h : O6 N w c p) : c.length = 46 := by
  obtain ⟨vB, o, d, vL, rfl, _⟩ := h.ex; rfl
structure Op6.ok (p : Op6) : Prop where
  b : p.b.length ≤ 1099511627000
  o : p.h.opts.length ≤ 1099511627000
  d : p.h.data.length ≤ 1099511627000
  od : ∀ x ∈ p.h.opts, x.data.length ≤ 1099511627000
  l : p.l.length ≤ 1099511627000
  ld : ∀ x ∈ p.l, x.data.length ≤ 1099511627000
  s : p.h.src.ok
  t : p.h.dst.ok
/-- a script -/
def OPL (N : List Nat) (w : World) (v : Value) (ps : List Op6) : Prop :=
  ∃ cs : List (List Value), Sl N w 46 v ps.length cs.flatten ∧ cs.length = ps.length ∧ ∀ i, i < ps.length → O6 N w (cs.getD i []) (ps.getD i opz)
theorem OPL.all {N : List Nat} {w : World} {cs : List (List Value)} {ps : List Op6} (hl : cs.length = ps.length) (h : ∀ i, i < ps.length → O6 N w (cs.getD i []) (ps.getD i opz)) : ∀ c ∈ cs, c.length = 46 := by
  intro c hc
  obtain ⟨i, hi, rfl⟩ := List.getElem_of_mem hc
  have := (h i (by omega)).len
  rwa [List.getD_eq_getElem?_getD, List.getElem?_eq_getElem hi] at this

set_option maxHeartbeats 1000000 in
theorem c38 (v : Value) (ps : List Op6) (lo hi : Int) (w : World) (hP : OPL [] w v ps) (hok : ∀ p ∈ ps, p.ok) (hl : ps.length ≤ 1099511627000) (hg : GV [] w 0 130 (W4.map i64)) :
    CallsD Tryd.prog 38 #[v, .int .i64 lo, .int .i64 hi] w (.bool true) := by
  refine enter Tryd.func38 rfl Tryd.ntmps38 (l := [(0, [], _), (1, [], _), (2, [], _)]) rfl rfl ?_
  have S := St.refl [] w
  obtain ⟨cs, hPS, hcl, hPO⟩ := hP
  have hall := OPL.all hcl hPO
  refine Run.seq ?_
  refine Run.region ?_
  refine asg1 rfl rfl ?_
  refine Ro.nil ?_
  refine Nrm.code ?_
  refine Run.seq ?_
  refine Run.region ?_
  refine calg (vs := []) rfl trivial k28 rfl (fun hG => c28 _ (hg.now S)) ?_
  intro w1 B_; have S := S.call B_
  refine asg1 rfl rfl ?_
  refine Ro.nil ?_
  refine Nrm.code ?_
  refine Run.seq ?_
  refine Run.seq ?_
  refine Run.region ?_
  refine asg1 rfl rfl ?_
  refine Ro.nil ?_
  refine Nrm.code ?_
  refine Run.block ?_
  refine Run.loop1 (fun (i : Nat) w_ => i ≤ ps.length ∧ St [] w [] w_) (fun (i : Nat) => [(0, [], v), (1, [], .int .i64 lo), (2, [], .int .i64 hi), (7, [], .bool true), (8, [], .int .i64 i)]) (fun (i : Nat) => ps.length - i) (0) ⟨Nat.zero_le _, S⟩ ⟨rfl, rfl, rfl, rfl, rfl, trivial⟩ ?_
  rintro i w2 ⟨hi, S⟩
  refine Run.seq ?_
  refine Run.seq ?_
  refine Run.region ?_
  refine mv1 rfl rfl ?_
  refine mv1 rfl rfl ?_
  refine lenS rfl hPS Tryd.underlying43 rfl rfl rfl ?_
  refine lss1 rfl rfl rfl ?_
  refine mv1 rfl rfl ?_
  refine mv rfl rfl rfl rfl ?_
  refine pkA rfl rfl rfl rfl rfl rfl ?_
  refine Ro.nil ?_
  refine Nrm.code ?_
  refine Run.cond rfl (fun hc3 => ?_) (fun hc3 => ?_)
  ·
    try simp only [Bool.or_eq_true, Bool.and_eq_true, Bool.or_eq_false_iff, Bool.and_eq_false_iff, decide_eq_true_eq, decide_eq_false_iff_not, Bool.not_eq_true', Bool.not_eq_false', Bool.not_eq_true, Bool.not_eq_false] at hc3
    refine Run.skip ?_
    refine Nrm.code ?_
    refine Run.seq ?_
    refine Run.block ?_
    refine Run.seq ?_
    refine Run.region ?_
    have hil : i < ps.length := by omega
    obtain ⟨vB, o, d, vL, he, hB, hO, hd, hL⟩ := (hPO i hil).ex
    have hi2 : (i : Int).toNat * 46 + 46 ≤ cs.flatten.length ∧ (cs.flatten.drop ((i : Int).toNat * 46)).take 46 = encOp6 (ps.getD i opz) vB o d vL := by have h2 := flat_at hall (i := i) (by omega); rw [he] at h2; exact h2
    have hpo := hok _ (getD_mem' (d := opz) hil)
    refine mv1 rfl rfl ?_
    refine mv1 rfl rfl ?_
    refine ixa rfl rfl hPS e43 rfl rfl rfl rfl (fun _ => by first | omega | (simp only [List.length_cons, List.length_nil]; omega)) ?_
    refine ldEA rfl hPS S T144 rfl rfl rfl (by decide) rfl (fun _ => hi2) ?_
    refine alc T144 S rfl ?_
    intro b9 w3 hb9 S B_
    refine stW rfl rfl T144 rfl rfl (one_cons rfl (one_cons hB.one (one_cons rfl (one_cons rfl (one_cons rfl (one_cons rfl (one_cons rfl (one_cons rfl (one_cons rfl (one_cons rfl (one_cons rfl (one_cons rfl (one_cons rfl (one_cons rfl (one_cons rfl (one_cons rfl (one_cons rfl (one_cons rfl (one_cons rfl (one_cons rfl (one_cons rfl (one_cons rfl (one_cons rfl (one_cons rfl (one_cons rfl (one_cons rfl (one_cons rfl (one_cons rfl (one_cons rfl (one_cons rfl (one_cons rfl (one_cons rfl (one_cons rfl (one_cons rfl (one_cons rfl (one_cons rfl (one_cons rfl (one_cons rfl (one_cons rfl (one_cons rfl (one_cons rfl (one_cons rfl (one_cons rfl (one_cons hO.one (one_cons hd.one (one_cons hL.one one_nil)))))))))))))))))))))))))))))))))))))))))))))) S (i := 0) rfl rfl ?_
    intro w4 S
    refine Ro.nil ?_
    refine Nrm.code ?_
    refine Run.seq ?_
    refine Run.seq ?_
    refine Run.region ?_
    refine fld (o' := 0) rfl fo144_0 rfl rfl rfl rfl ?_
    refine ld1 rfl T3 S (i := 0) rfl rfl rfl rfl rfl ?_
    refine mv1 rfl rfl ?_
    refine lss1 rfl rfl rfl ?_
    refine mv1 rfl rfl ?_
    refine fld (o' := 0) rfl fo144_0 rfl rfl rfl rfl ?_
    refine ld1 rfl T3 S (i := 0) rfl rfl rfl rfl rfl ?_
    refine mv rfl rfl rfl rfl ?_
    refine gtr rfl rfl rfl rfl rfl rfl ?_
    refine pkO rfl rfl rfl rfl rfl rfl ?_
    refine Ro.nil ?_
    refine Nrm.code ?_
    refine Run.cond rfl (fun hc6 => ?_) (fun hc6 => ?_)
    ·
      try simp only [Bool.or_eq_true, Bool.and_eq_true, Bool.or_eq_false_iff, Bool.and_eq_false_iff, decide_eq_true_eq, decide_eq_false_iff_not, Bool.not_eq_true', Bool.not_eq_false', Bool.not_eq_true, Bool.not_eq_false] at hc6
      refine Run.exit ?_
      refine Lv.code ?_
      refine Lv.hit ?_
      refine Nrm.code ?_
      refine Run.region ?_
      refine mv1 rfl rfl ?_
      refine add1 rfl rfl rfl (w64 (by omega)) ?_
      refine asg1 rfl rfl ?_
      refine Ro.nil ?_
      refine Nrm.loop1 (i + 1) ⟨by omega, S.clear⟩ (by omega) ⟨rfl, rfl, rfl, rfl, rfl, trivial⟩
    ·
      try simp only [Bool.or_eq_true, Bool.and_eq_true, Bool.or_eq_false_iff, Bool.and_eq_false_iff, decide_eq_true_eq, decide_eq_false_iff_not, Bool.not_eq_true', Bool.not_eq_false', Bool.not_eq_true, Bool.not_eq_false] at hc6
      refine Run.skip ?_
      refine Nrm.code ?_
      refine Run.seq ?_
      refine Run.region ?_
      refine fld (o' := 0) rfl fo144_0 rfl rfl rfl rfl ?_
      refine ld1 rfl T3 S (i := 0) rfl rfl rfl rfl rfl ?_
      refine eql1 rfl rfl rfl ?_
      refine mv1 rfl rfl ?_
      refine fld (o' := 0) rfl fo144_0 rfl rfl rfl rfl ?_
      refine ld1 rfl T3 S (i := 0) rfl rfl rfl rfl rfl ?_
      refine eql rfl rfl rfl rfl rfl rfl ?_
      refine pkO rfl rfl rfl rfl rfl rfl ?_
      refine mv1 rfl rfl ?_
      refine fld (o' := 0) rfl fo144_0 rfl rfl rfl rfl ?_
      refine ld1 rfl T3 S (i := 0) rfl rfl rfl rfl rfl ?_
      refine eql rfl rfl rfl rfl rfl rfl ?_
      refine pkO rfl rfl rfl rfl rfl rfl ?_
      refine Ro.nil ?_
      refine Nrm.code ?_
      refine Run.cond rfl (fun hc7 => ?_) (fun hc7 => ?_)
      ·
        try simp only [Bool.or_eq_true, Bool.and_eq_true, Bool.or_eq_false_iff, Bool.and_eq_false_iff, decide_eq_true_eq, decide_eq_false_iff_not, Bool.not_eq_true', Bool.not_eq_false', Bool.not_eq_true, Bool.not_eq_false] at hc7
        refine Run.region ?_
        refine ldW rfl T144 S (i := 0) rfl rfl rfl rfl rfl ?_
        refine calg (vs := [_]) rfl ⟨⟨_, _, rfl, rfl⟩, trivial⟩ k106 rfl (fun hG => c106 _ vB o d vL _ hB.one (hO.now S) (hd.now S) (hL.now S) hpo.o hpo.d hpo.od hpo.l hpo.ld hpo.s hpo.t (hg.now S)) ?_
        intro w5 B_; have S := S.call B_
        refine asg1 rfl rfl ?_
        refine Ro.nil ?_
        refine Nrm.blk ?_
        refine Nrm.code ?_
        refine Run.region ?_
        refine mv1 rfl rfl ?_
        refine add1 rfl rfl rfl (w64 (by omega)) ?_
        refine asg1 rfl rfl ?_
        refine Ro.nil ?_
        refine Nrm.loop1 (i + 1) ⟨by omega, S.clear⟩ (by omega) ⟨rfl, rfl, rfl, rfl, rfl, trivial⟩
      ·
        try simp only [Bool.or_eq_true, Bool.and_eq_true, Bool.or_eq_false_iff, Bool.and_eq_false_iff, decide_eq_true_eq, decide_eq_false_iff_not, Bool.not_eq_true', Bool.not_eq_false', Bool.not_eq_true, Bool.not_eq_false] at hc7
        refine Run.region ?_
        refine ldW rfl T144 S (i := 0) rfl rfl rfl rfl rfl ?_
        refine calg (vs := [_]) rfl ⟨⟨_, _, rfl, rfl⟩, trivial⟩ k107 rfl (fun hG => c107 _ vB o d vL _ (hB.now S) hpo.b (hg.now S)) ?_
        intro w5 B_; have S := S.call B_
        refine asg1 rfl rfl ?_
        refine Ro.nil ?_
        refine Nrm.blk ?_
        refine Nrm.code ?_
        refine Run.region ?_
        refine mv1 rfl rfl ?_
        refine add1 rfl rfl rfl (w64 (by omega)) ?_
        refine asg1 rfl rfl ?_
        refine Ro.nil ?_
        refine Nrm.loop1 (i + 1) ⟨by omega, S.clear⟩ (by omega) ⟨rfl, rfl, rfl, rfl, rfl, trivial⟩
  ·
    try simp only [Bool.or_eq_true, Bool.and_eq_true, Bool.or_eq_false_iff, Bool.and_eq_false_iff, decide_eq_true_eq, decide_eq_false_iff_not, Bool.not_eq_true', Bool.not_eq_false', Bool.not_eq_true, Bool.not_eq_false] at hc3
    refine Run.exit ?_
    refine Lv.code ?_
    refine Lv.back ?_
    refine Lv.hit ?_
    refine Nrm.code ?_
    refine Run.seq ?_
    refine Run.region ?_
    refine mv1 rfl rfl ?_
    refine asg1 rfl rfl ?_
    refine Ro.nil ?_
    refine Nrm.code ?_
    refine Run.ret ?_
    refine Rt.one rfl rfl ?_
    exact ⟨rfl, S.bl⟩

set_option maxHeartbeats 1000000 in
theorem c5 (v : Value) (ps : List Op6) (w : World) (hP : OPL [] w v ps) (hok : ∀ p ∈ ps, p.ok) (hl : ps.length ≤ 1099511627000) (hg : GV [] w 0 130 (W4.map i64)) :
    CallsD Tryd.prog 5 #[v] w (.bool true) := by
  refine enter Tryd.func5 rfl Tryd.ntmps5 (l := [(0, [], _)]) rfl rfl ?_
  have S := St.refl [] w
  refine Run.seq ?_
  refine Run.region ?_
  refine asg1 rfl rfl ?_
  refine Ro.nil ?_
  refine Nrm.code ?_
  refine Run.seq ?_
  refine Run.region ?_
  refine mv1 rfl rfl ?_
  refine calg (vs := [_, _, _]) rfl ⟨⟨_, _, rfl, rfl⟩, ⟨_, _, rfl, rfl⟩, ⟨_, _, rfl, rfl⟩, trivial⟩ k38 rfl (fun hG => c38 _ ps _ _ _ hP hok hl hg) ?_
  intro w1 B_; have S := S.call B_
  refine asg1 rfl rfl ?_
  refine Ro.nil ?_
  refine Nrm.code ?_
  refine Run.ret ?_
  refine Rt.one rfl rfl ?_
  exact ⟨rfl, S.bl⟩

set_option maxHeartbeats 1000000 in
theorem c6 (v : Value) (ps : List Op6) (w : World) (hP : OPL [] w v ps) (hok : ∀ p ∈ ps, p.ok) (hl : ps.length ≤ 1099511627000) (hg : GV [] w 0 130 (W4.map i64)) :
    CallsD Tryd.prog 6 #[v] w (.bool true) := by
  refine enter Tryd.func6 rfl Tryd.ntmps6 (l := [(0, [], _)]) rfl rfl ?_
  have S := St.refl [] w
  refine Run.seq ?_
  refine Run.region ?_
  refine asg1 rfl rfl ?_
  refine Ro.nil ?_
  refine Nrm.code ?_
  refine Run.seq ?_
  refine Run.region ?_
  refine mv1 rfl rfl ?_
  refine calg (vs := [_, _, _]) rfl ⟨⟨_, _, rfl, rfl⟩, ⟨_, _, rfl, rfl⟩, ⟨_, _, rfl, rfl⟩, trivial⟩ k38 rfl (fun hG => c38 _ ps _ _ _ hP hok hl hg) ?_
  intro w1 B_; have S := S.call B_
  refine asg1 rfl rfl ?_
  refine Ro.nil ?_
  refine Nrm.code ?_
  refine Run.ret ?_
  refine Rt.one rfl rfl ?_
  exact ⟨rfl, S.bl⟩

set_option maxHeartbeats 1000000 in
theorem c7 (v : Value) (ps : List Op6) (w : World) (hP : OPL [] w v ps) (hok : ∀ p ∈ ps, p.ok) (hl : ps.length ≤ 1099511627000) (hg : GV [] w 0 130 (W4.map i64)) :
    CallsD Tryd.prog 7 #[v] w (.bool true) := by
  refine enter Tryd.func7 rfl Tryd.ntmps7 (l := [(0, [], _)]) rfl rfl ?_
  have S := St.refl [] w
  refine Run.seq ?_
  refine Run.region ?_
  refine asg1 rfl rfl ?_
  refine Ro.nil ?_
  refine Nrm.code ?_
  refine Run.seq ?_
  refine Run.region ?_
  refine mv1 rfl rfl ?_
  refine calg (vs := [_, _, _]) rfl ⟨⟨_, _, rfl, rfl⟩, ⟨_, _, rfl, rfl⟩, ⟨_, _, rfl, rfl⟩, trivial⟩ k38 rfl (fun hG => c38 _ ps _ _ _ hP hok hl hg) ?_
  intro w1 B_; have S := S.call B_
  refine asg1 rfl rfl ?_
  refine Ro.nil ?_
  refine Nrm.code ?_
  refine Run.ret ?_
  refine Rt.one rfl rfl ?_
  exact ⟨rfl, S.bl⟩

set_option maxHeartbeats 1000000 in
theorem c8 (v : Value) (ps : List Op6) (w : World) (hP : OPL [] w v ps) (hok : ∀ p ∈ ps, p.ok) (hl : ps.length ≤ 1099511627000) (hg : GV [] w 0 130 (W4.map i64)) :
    CallsD Tryd.prog 8 #[v] w (.bool true) := by
  refine enter Tryd.func8 rfl Tryd.ntmps8 (l := [(0, [], _)]) rfl rfl ?_
  have S := St.refl [] w
  refine Run.seq ?_
  refine Run.region ?_
  refine asg1 rfl rfl ?_
  refine Ro.nil ?_
  refine Nrm.code ?_
  refine Run.seq ?_
  refine Run.region ?_
  refine mv1 rfl rfl ?_
  refine calg (vs := [_, _, _]) rfl ⟨⟨_, _, rfl, rfl⟩, ⟨_, _, rfl, rfl⟩, ⟨_, _, rfl, rfl⟩, trivial⟩ k38 rfl (fun hG => c38 _ ps _ _ _ hP hok hl hg) ?_
  intro w1 B_; have S := S.call B_
  refine asg1 rfl rfl ?_
  refine Ro.nil ?_
  refine Nrm.code ?_
  refine Run.ret ?_
  refine Rt.one rfl rfl ?_
  exact ⟨rfl, S.bl⟩

set_option maxHeartbeats 1000000 in
theorem c9 (v : Value) (ps : List Op6) (w : World) (hP : OPL [] w v ps) (hok : ∀ p ∈ ps, p.ok) (hl : ps.length ≤ 1099511627000) (hg : GV [] w 0 130 (W4.map i64)) :
    CallsD Tryd.prog 9 #[v] w (.bool true) := by
  refine enter Tryd.func9 rfl Tryd.ntmps9 (l := [(0, [], _)]) rfl rfl ?_
  have S := St.refl [] w
  refine Run.seq ?_
  refine Run.region ?_
  refine asg1 rfl rfl ?_
  refine Ro.nil ?_
  refine Nrm.code ?_
  refine Run.seq ?_
  refine Run.region ?_
  refine mv1 rfl rfl ?_
  refine calg (vs := [_, _, _]) rfl ⟨⟨_, _, rfl, rfl⟩, ⟨_, _, rfl, rfl⟩, ⟨_, _, rfl, rfl⟩, trivial⟩ k38 rfl (fun hG => c38 _ ps _ _ _ hP hok hl hg) ?_
  intro w1 B_; have S := S.call B_
  refine asg1 rfl rfl ?_
  refine Ro.nil ?_
  refine Nrm.code ?_
  refine Run.ret ?_
  refine Rt.one rfl rfl ?_
  exact ⟨rfl, S.bl⟩

set_option maxHeartbeats 1000000 in
theorem c10 (v : Value) (ps : List Op6) (w : World) (hP : OPL [] w v ps) (hok : ∀ p ∈ ps, p.ok) (hl : ps.length ≤ 1099511627000) (hg : GV [] w 0 130 (W4.map i64)) :
    CallsD Tryd.prog 10 #[v] w (.bool true) := by
  refine enter Tryd.func10 rfl Tryd.ntmps10 (l := [(0, [], _)]) rfl rfl ?_
  have S := St.refl [] w
  refine Run.seq ?_
  refine Run.region ?_
  refine asg1 rfl rfl ?_
  refine Ro.nil ?_
  refine Nrm.code ?_
  refine Run.seq ?_
  refine Run.region ?_
  refine mv1 rfl rfl ?_
  refine calg (vs := [_, _, _]) rfl ⟨⟨_, _, rfl, rfl⟩, ⟨_, _, rfl, rfl⟩, ⟨_, _, rfl, rfl⟩, trivial⟩ k38 rfl (fun hG => c38 _ ps _ _ _ hP hok hl hg) ?_
  intro w1 B_; have S := S.call B_
  refine asg1 rfl rfl ?_
  refine Ro.nil ?_
  refine Nrm.code ?_
  refine Run.ret ?_
  refine Rt.one rfl rfl ?_
  exact ⟨rfl, S.bl⟩

end Go.Proofs.YtkahmepenjhcpaaDoor.W

/- What the reading of a script of layer 6 gives. No statement of the seat is proved here. -/
namespace Go.Proofs.YtkahmepenjhcpaaDoor.W
open Go
set_option linter.unusedVariables false
set_option linter.unusedSimpArgs false
section
variable {H : Type} {enc : TypeId × Value → H} {W : World} {hd : Bool} {n : Nat} {cs : List Value} {x : DataW H × List MemPlace}
theorem cells144 : Tryd.prog.cellsOf 144 = 46 := by kernel_rfl
/-- one call, read -/
theorem rd_op6 (h : DataW.trod enc Tryd.prog W 0 (fun _ => true) hd n 144 cs = some x) (hb : Rows.uptoBulk x.1 ≤ 1048576) : ∃ p : Op6, O6 [] W cs p ∧ p.ok := by
  have hl := rd_len Tryd.underlying144 h
  rw [cells144] at hl
  obtain ⟨y0, k0, g0, b0⟩ := rd_field Tryd.underlying144 h 0 (ft := 3) (off := 0) rfl cells3
  obtain ⟨y1, k1, g1, b1⟩ := rd_field Tryd.underlying144 h 1 (ft := 26) (off := 1) rfl cells26
  obtain ⟨y2, k2, g2, b2⟩ := rd_field Tryd.underlying144 h 2 (ft := 28) (off := 2) rfl cells28
  obtain ⟨y3, k3, g3, b3⟩ := rd_field Tryd.underlying144 h 3 (ft := 25) (off := 45) rfl cells25
  obtain ⟨v0, e0, i0⟩ := rd_int g0
  obtain ⟨vB, e1⟩ := take_one (cs := cs) (a := 1) (by omega)
  obtain ⟨vL, e3⟩ := take_one (cs := cs) (a := 45) (by omega)
  obtain ⟨a, o, d, e2, hO, hd, hok, hl1, hl2, hl3⟩ := rd_ip4 g2
  rw [e1] at g1
  rw [e3] at g3
  obtain ⟨b, hB, hbl⟩ := rd_bytes g1
  obtain ⟨l, hL, hL1, hL2⟩ := rd_opts g3
  refine ⟨⟨v0, b, a, l⟩, ⟨vB, o, d, vL, ?_, hB, hO, hd, hL⟩, ⟨by show b.length ≤ _; omega, by show a.opts.length ≤ _; omega, by show a.data.length ≤ _; omega, fun p hp => by have := hl2 p hp; omega, by show l.length ≤ _; omega, fun p hp => by have := (hL2 p hp).2; omega, hok.2.2.2.2.2.1, hok.2.2.2.2.2.2.1⟩⟩
  have c0 := cut_at e0
  rw [List.drop_zero] at c0
  rw [c0, cut_at e1, cut_at e2, cut_at e3, List.drop_eq_nil_of_le (by omega)]
  simp [encOp6]
/-- a script, read -/
theorem rd_ops6 {v : Value} (h : DataW.trod enc Tryd.prog W 0 (fun _ => true) hd n 43 [v] = some x) (hb : Rows.uptoBulk x.1 ≤ 1048576) : ∃ ps : List Op6, OPL [] W v ps ∧ (∀ p ∈ ps, p.ok) ∧ ps.length ≤ 1048576 := by
  obtain ⟨cs, hS, hall, hl, hg⟩ := rd_slice Tryd.underlying43 cells144 (by decide) h
  have hx : ∀ i, ∃ p : Op6, i < cs.length → O6 [] W (cs.getD i []) p ∧ p.ok := by
    intro i
    by_cases hi : i < cs.length
    · obtain ⟨y, k, g1, g2⟩ := hg i hi
      obtain ⟨p, h1, h2⟩ := rd_op6 g1 (Nat.le_trans g2 hb)
      exact ⟨p, fun _ => ⟨h1, h2⟩⟩
    · exact ⟨opz, fun h => absurd h hi⟩
  obtain ⟨f, hf⟩ := Classical.axiomOfChoice hx
  have hfl : ((List.range cs.length).map f).length = cs.length := by simp
  refine ⟨(List.range cs.length).map f, ⟨cs, by rw [hfl]; exact hS, by rw [hfl], fun i hi => ?_⟩, fun p hp => ?_, by rw [hfl]; omega⟩
  · rw [hfl] at hi
    have e : ((List.range cs.length).map f).getD i opz = f i := by simp [List.getD_eq_getElem?_getD, List.getElem?_map, List.getElem?_range hi]
    rw [e]; exact (hf i hi).1
  · obtain ⟨i, hi, rfl⟩ := List.mem_map.1 hp
    exact (hf i (List.mem_range.1 hi)).2
end
end Go.Proofs.YtkahmepenjhcpaaDoor.W

/- Plain facts: what a hop leaves. No statement of the seat is proved here. -/
namespace Go.Proofs.YtkahmepenjhcpaaDoor.W
open Go
set_option linter.unusedVariables false
set_option linter.unusedSimpArgs false

theorem getD_set_ne {l : List Int} {i j : Nat} {x : Int} (h : i ≠ j) : (l.set i x).getD j 0 = l.getD j 0 := by
  rw [List.getD_eq_getElem?_getD, List.getD_eq_getElem?_getD, List.getElem?_set_ne h]
theorem getD_set_eq {l : List Int} {i : Nat} {x : Int} (h : i < l.length) : (l.set i x).getD i 0 = x := by
  rw [List.getD_eq_getElem?_getD, List.getElem?_set_self h]; rfl
theorem hopW_getD {b : List Int} {i : Nat} (h8 : i ≠ 8) (h10 : i ≠ 10) (h11 : i ≠ 11) : (hopW b).getD i 0 = b.getD i 0 := by
  unfold hopW hopM
  rw [getD_set_ne (by omega), getD_set_ne (by omega), getD_set_ne (by omega)]
theorem hopW_8 {b : List Int} (h : 20 ≤ b.length) : (hopW b).getD 8 0 = b.getD 8 0 - 1 := by
  unfold hopW hopM
  rw [getD_set_ne (by omega), getD_set_ne (by omega), getD_set_eq (by omega)]
theorem hopW_drop {b : List Int} {m : Nat} (h : 12 ≤ m) : (hopW b).drop m = b.drop m := by
  unfold hopW hopM
  rw [List.drop_set_of_lt (by omega), List.drop_set_of_lt (by omega), List.drop_set_of_lt (by omega)]
theorem hopW_len (b : List Int) : (hopW b).length = b.length := by simp [hopW, hopM]
theorem hopC_at {x0 x1 x2 x3 x4 x5 x6 x7 x8 x9 x10 x11 : Int} {r : List Int} {m : Nat} (hm : hdN (x0 :: x1 :: x2 :: x3 :: x4 :: x5 :: x6 :: x7 :: x8 :: x9 :: x10 :: x11 :: r) = m + 12) :
    hopC (x0 :: x1 :: x2 :: x3 :: x4 :: x5 :: x6 :: x7 :: x8 :: x9 :: x10 :: x11 :: r) = 65535 - foldS (x0 * 256 + x1 + x2 * 256 + x3 + x4 * 256 + x5 + x6 * 256 + x7 + (x8 - 1) * 256 + x9 + wsum true (r.take m)) := by
  unfold hopC hopM
  rw [hm]
  simp only [List.getD_cons_zero, List.getD_cons_succ, List.set_cons_succ, List.set_cons_zero, List.take_succ_cons, List.take_zero, List.drop_succ_cons, List.drop_zero, Nat.add_sub_cancel, List.cons_append, List.nil_append, sumS, wsum]
  congr 2
  omega
theorem hop_sum {b : List Int} (hb : byt b) (hp : parE b = 0) (h8 : 2 ≤ b.getD 8 0) : sumS ((hopW b).take (hdN b)) = 65535 := by
  have hf := par_facts hp
  obtain ⟨h20, _, h4, hh20, hhb, _, _, hs, _⟩ := hf
  have hcb := hopC_bd (b := b) (hopM_byt hb h8)
  have hB := byt_getD hb
  have B0 := hB 0
  have B1 := hB 1
  have B2 := hB 2
  have B3 := hB 3
  have B4 := hB 4
  have B5 := hB 5
  have B6 := hB 6
  have B7 := hB 7
  have B8 := hB 8
  have B9 := hB 9
  have hbr : byt (b.drop 12) := byt_drop hb 12
  obtain ⟨x0, x1, x2, x3, x4, x5, x6, x7, x8, x9, x10, x11, r, rfl⟩ := twelve (b := b) (by omega)
  obtain ⟨m, hm⟩ : ∃ m, hdN (x0 :: x1 :: x2 :: x3 :: x4 :: x5 :: x6 :: x7 :: x8 :: x9 :: x10 :: x11 :: r) = m + 12 := ⟨hdN (x0 :: x1 :: x2 :: x3 :: x4 :: x5 :: x6 :: x7 :: x8 :: x9 :: x10 :: x11 :: r) - 12, by omega⟩
  have hC := hopC_at hm
  generalize hc : hopC (x0 :: x1 :: x2 :: x3 :: x4 :: x5 :: x6 :: x7 :: x8 :: x9 :: x10 :: x11 :: r) = c at *
  simp only [List.getD_cons_zero, List.getD_cons_succ] at *
  simp only [List.drop_succ_cons, List.drop_zero] at hbr
  have hw := wsum_bd (r.take m) true (byt_take hbr m)
  have e1 : hopW (x0 :: x1 :: x2 :: x3 :: x4 :: x5 :: x6 :: x7 :: x8 :: x9 :: x10 :: x11 :: r) = x0 :: x1 :: x2 :: x3 :: x4 :: x5 :: x6 :: x7 :: (x8 - 1) :: x9 :: (c / 256) :: (c % 256) :: r := by
    unfold hopW hopM
    rw [hc]
    simp
  rw [e1, hm]
  simp only [List.take_succ_cons, sumS, wsum]
  have := foldS_fix (w := x0 * 256 + x1 + x2 * 256 + x3 + x4 * 256 + x5 + x6 * 256 + x7 + (x8 - 1) * 256 + x9 + wsum true (r.take m)) (c := c) (by omega) hC
  rw [← this]
  congr 1
  omega
theorem hop_par {b : List Int} (hb : byt b) (he : hopE b = 0) : parE (hopB b) = 0 ∧ parH (hopB b) = { parH b with ttl := b.getD 8 0 - 1 } := by
  obtain ⟨hp, h8⟩ := hopE_zero he
  obtain ⟨h20, hmx, hv, hh, hhb, hht, htb, hs, ho, hfr⟩ := par_facts hp
  have e : hopB b = hopW b := by unfold hopB; rw [if_pos he]
  rw [e]
  have g : ∀ i, i ≠ 8 → i ≠ 10 → i ≠ 11 → (hopW b).getD i 0 = b.getD i 0 := fun i h1 h2 h3 => hopW_getD h1 h2 h3
  have eh : hdN (hopW b) = hdN b := by unfold hdN; rw [g 0 (by decide) (by decide) (by decide)]
  have et : totN (hopW b) = totN b := by unfold totN totI; rw [g 2 (by decide) (by decide) (by decide), g 3 (by decide) (by decide) (by decide)]
  have ew : offW (hopW b) = offW b := by unfold offW; rw [g 6 (by decide) (by decide) (by decide), g 7 (by decide) (by decide) (by decide)]
  have eo : optB4 (hopW b) = optB4 b := by unfold optB4; rw [eh, hopW_drop (by decide)]
  have hp' : parE (hopW b) = 0 := by
    unfold parE
    rw [hopW_len, g 0 (by decide) (by decide) (by decide), eh, et, hop_sum hb hp h8, eo, ew, g 6 (by decide) (by decide) (by decide)]
    rw [if_neg (by omega), if_neg (by omega), if_neg (by omega), if_neg (by omega), if_neg (by omega), if_neg (by omega), if_neg (by omega)]
    exact hfr
  refine ⟨hp', ?_⟩
  unfold parH
  rw [if_pos hp', if_pos hp]
  have ip : ∀ k, 12 ≤ k → ipOf (hopW b) k = ipOf b k := fun k hk => by
    unfold ipOf
    rw [g k (by omega) (by omega) (by omega), g (k + 1) (by omega) (by omega) (by omega), g (k + 2) (by omega) (by omega) (by omega), g (k + 3) (by omega) (by omega) (by omega)]
  unfold parG
  rw [eh, et, ew, eo, hopW_8 h20, hopW_drop (by omega), g 1 (by decide) (by decide) (by decide), g 4 (by decide) (by decide) (by decide), g 5 (by decide) (by decide) (by decide), g 6 (by decide) (by decide) (by decide), g 9 (by decide) (by decide) (by decide), ip 12 (by decide), ip 16 (by decide)]
theorem hop_ser {h : Ip4} (hc : chkE h = 0) (h2 : 2 ≤ h.ttl) (hp : parE (serL h) = 0) : hopW (serL h) = serL { h with ttl := h.ttl - 1 } := by
  have hc' : chkE { h with ttl := h.ttl - 1 } = 0 := by
    obtain ⟨c1, c2, c3, c4⟩ := chkE_zero hc
    have hb := badF_off c1
    unfold chkE
    have hbad : badF { h with ttl := h.ttl - 1 } = false := by
      unfold badF outN
      simp only [Bool.or_eq_false_iff, decide_eq_false_iff_not, hb.2.2.2.2.2.2.2.2.2.2.2.1, hb.2.2.2.2.2.2.2.2.2.2.2.2, Bool.not_true]
      refine ⟨⟨⟨⟨⟨⟨⟨⟨?_, ?_⟩, ?_, ?_⟩, ?_, ?_⟩, ?_⟩, ?_, ?_⟩, ?_, ?_⟩, ?_⟩, ?_⟩ <;> first | rfl | trivial | omega
    rw [if_neg (by rw [hbad]; simp), if_neg (by show ¬ putE h.opts ≠ 0; omega), if_neg (by show ¬ _; exact Int.not_lt.2 c3)]
    exact c4
  have hpl := putL_len h.opts
  have e1 : serL h = hd20 h ++ (putL h.opts ++ h.data) := by unfold serL; rw [if_pos hc, serB_eq]
  have e2 : serL { h with ttl := h.ttl - 1 } = hd20 { h with ttl := h.ttl - 1 } ++ (putL h.opts ++ h.data) := by unfold serL; rw [if_pos hc', serB_eq]
  have hhd : hdN (serL h) = 20 + (putL h.opts).length := by
    rw [e1]; unfold hdN hd20
    simp only [List.cons_append, List.getD_cons_zero]
    omega
  have hC : hopC (serL h) = sumC { h with ttl := h.ttl - 1 } := by
    unfold hopC sumC
    congr 1
    rw [hhd]
    have e3 : headB { h with ttl := h.ttl - 1 } = (hopM (serL h)).take 10 ++ [0, 0] ++ ((hopM (serL h)).drop 12).take (20 + (putL h.opts).length - 12) := by
      have hd : 20 + (putL h.opts).length - 12 = (four4 h.src ++ four4 h.dst ++ putL h.opts).length := by simp [four4]; omega
      rw [e1]
      have e4 : (hopM (hd20 h ++ (putL h.opts ++ h.data))).drop 12 = (four4 h.src ++ four4 h.dst ++ putL h.opts) ++ h.data := by simp [hopM, hd20, four4]
      rw [e4, hd, List.take_left]
      simp [hopM, hd20, headB, top10, hdr12, four4]
    rw [e3, sum_skip]
    have : 10 ≤ (hopM (serL h)).length := by rw [e1]; simp [hopM, hd20]
    rw [List.length_take]
    omega
  rw [e2]
  unfold hopW
  rw [hC, e1]
  simp [hopM, hd20]
theorem hop_can {b : List Int} (hb : byt b) (he : hopE b = 0) (hc : canB b = true) : canB (hopB b) = true := by
  obtain ⟨hp, h8⟩ := hopE_zero he
  obtain ⟨hp', hh'⟩ := hop_par hb he
  have hbb := hopB_byt hb
  have hck := chk_par hb hp
  have hck' := chk_par hbb hp'
  have hbe : b = serL (parH b) := by
    unfold canB at hc
    simp only [Bool.and_eq_true, decide_eq_true_eq] at hc
    exact hc.2.2
  unfold canB
  rw [decide_eq_true hp', decide_eq_true hck', Bool.true_and, Bool.true_and, decide_eq_true_eq, hh']
  have htl := parH_ttl hp
  have h1 := hop_ser hck (by omega) (by rw [← hbe]; exact hp)
  rw [← hbe, htl] at h1
  rw [← h1]
  unfold hopB
  rw [if_pos he]
end Go.Proofs.YtkahmepenjhcpaaDoor.W

/- The walk of weirlaw6.Ip4HopOnce. No statement of the seat is proved here. -/
namespace Go.Proofs.YtkahmepenjhcpaaDoor.W
open Go
set_option linter.unusedSimpArgs false
set_option linter.unusedVariables false


theorem c40s (v : Value) (b : List Int) (w : World) (hv : (oB v b).holds w) (hb : byt b) (hl : b.length ≤ 1099511627776) (hg : GV (oB v b).ids w 0 130 (W4.map i64)) :
    CallsV Tryd.prog 40 #[v] w (fun r w' => r = .int .i64 (hopE b) ∧ Tn w w' (oB v b) (oB v (hopB b))) := by
  have h1 := c40 v b b.length (capV v) w hv hb ⟨Nat.le_refl _, own_cap hv, Nat.le_refl _⟩ hl hg
  rw [cut_self hv, List.take_length, List.drop_length, List.append_nil] at h1
  exact h1

set_option maxHeartbeats 1000000 in
theorem c11 (v : Value) (b : List Int) (w : World) (hb : BS [] w v b) (hl : b.length ≤ 1099511627000) (hg : GV [] w 0 130 (W4.map i64)) :
    CallsD Tryd.prog 11 #[v] w (.bool true) := by
  refine enter Tryd.func11 rfl Tryd.ntmps11 (l := [(0, [], _)]) rfl rfl ?_
  have S := St.refl [] w
  have hpk := parH_ok hb.1
  have hpe := parE_bd b
  have hhe := hopE_bd b
  have hby_u5 := hopB_byt hb.1
  refine Run.seq ?_
  refine Run.region ?_
  refine asg1 rfl rfl ?_
  refine Ro.nil ?_
  refine Nrm.code ?_
  refine Run.seq ?_
  refine Run.region ?_
  refine calg (vs := []) rfl trivial k28 rfl (fun hG => c28 _ (hg.now S)) ?_
  intro w1 B_; have S := S.call B_
  refine asg1 rfl rfl ?_
  refine Ro.nil ?_
  refine Nrm.code ?_
  refine Run.seq ?_
  refine Run.region ?_
  refine mv1 rfl rfl ?_
  have S0 := S
  refine call (vs := [_]) ⟨⟨_, _, rfl, rfl⟩, trivial⟩ k39 rfl (c39 _ _ _ (hb.now S) (by omega)) ?_
  rintro u4 w2 hFu4
  have S := S.call hFu4.1
  have hu4 := hFu4.bs hb.1 S0.lt
  obtain ⟨N1, hN1, S_1⟩ := S.reb
  have hb := hb.st S; rw [hN1] at hb
  have hg := hg.st S; rw [hN1] at hg
  rw [hN1] at hu4
  have SS := S
  have S := S_1
  refine asg1 rfl rfl ?_
  refine Ro.nil ?_
  refine Nrm.code ?_
  refine Run.seq ?_
  refine Run.region ?_
  refine mv1 rfl rfl ?_
  refine call (vs := [_]) ⟨⟨_, _, rfl, rfl⟩, trivial⟩ k39 rfl (c39 _ _ _ (hb.now S) (by omega)) ?_
  rintro u5 w3 hF
  have S := S.fb hF
  refine asg1 rfl rfl ?_
  refine Ro.nil ?_
  refine Nrm.code ?_
  refine Run.seq ?_
  refine Run.region ?_
  refine mv1 rfl rfl ?_
  refine call (vs := [_]) ⟨⟨_, _, rfl, rfl⟩, trivial⟩ k33 rfl (c33 _ _ _ (hu4.now S) (hg.now S)) ?_
  rintro _ w4 ⟨o6, d6, vs6, rfl, hF, hw6⟩
  have S := S.fo hF
  have hd6 := (hw6 _ _ hu4).2
  have ho6 := (hw6 _ _ hu4).1
  obtain ⟨hq6, S⟩ := S.layOI (i := 0) rfl rfl ho6
  obtain ⟨N2, hN2, S_2⟩ := S.reb
  have hb := hb.st S; rw [hN2] at hb
  have hg := hg.st S; rw [hN2] at hg
  have hu4 := hu4.st S; rw [hN2] at hu4
  have hd6 := hd6.st S; rw [hN2] at hd6
  rw [hN2] at hq6
  have SS := SS.tran hN1 S
  have S := S_2
  refine mv1 rfl rfl ?_
  refine extr1 rfl rfl rfl ?_
  refine extr1 rfl rfl rfl ?_
  refine alc T28 S rfl ?_
  intro b6 w5 hb6 S B_
  refine stW rfl rfl T28 rfl rfl (one_cons rfl (one_cons rfl (one_cons rfl (one_cons rfl (one_cons rfl (one_cons rfl (one_cons rfl (one_cons rfl (one_cons rfl (one_cons rfl (one_cons rfl (one_cons rfl (one_cons rfl (one_cons rfl (one_cons rfl (one_cons rfl (one_cons rfl (one_cons rfl (one_cons rfl (one_cons rfl (one_cons rfl (one_cons rfl (one_cons rfl (one_cons rfl (one_cons rfl (one_cons rfl (one_cons rfl (one_cons rfl (one_cons rfl (one_cons rfl (one_cons rfl (one_cons rfl (one_cons rfl (one_cons rfl (one_cons rfl (one_cons rfl (one_cons rfl (one_cons rfl (one_cons rfl (one_cons rfl (one_cons rfl (one_cons hq6.one (one_cons hd6.one one_nil))))))))))))))))))))))))))))))))))))))))))) S (i := 0) rfl rfl ?_
  intro w6 S
  refine asg1 rfl rfl ?_
  refine Ro.nil ?_
  refine Nrm.code ?_
  refine Run.seq ?_
  refine Run.region ?_
  refine mv1 rfl rfl ?_
  refine call (vs := [_]) ⟨⟨_, _, rfl, rfl⟩, trivial⟩ k40 rfl (c40s _ _ _ (S.hold_at (i := 1) rfl) hb.1 (by omega) (hg.stI S (i := 1) rfl)) ?_
  rintro _ w7 ⟨rfl, hT⟩
  have S := S.tn (i := 1) rfl rfl hT
  refine asg1 rfl rfl ?_
  refine Ro.nil ?_
  refine Nrm.code ?_
  refine Run.seq ?_
  refine Run.seq ?_
  refine Run.region ?_
  refine mv1 rfl rfl ?_
  refine nt1 rfl rfl ?_
  refine Ro.nil ?_
  refine Nrm.code ?_
  refine Run.cond rfl (fun hc6 => ?_) (fun hc6 => ?_)
  ·
    try simp only [Bool.or_eq_true, Bool.and_eq_true, Bool.or_eq_false_iff, Bool.and_eq_false_iff, decide_eq_true_eq, decide_eq_false_iff_not, Bool.not_eq_true', Bool.not_eq_false', Bool.not_eq_true, Bool.not_eq_false] at hc6
    exfalso; simp at hc6
  ·
    try simp only [Bool.or_eq_true, Bool.and_eq_true, Bool.or_eq_false_iff, Bool.and_eq_false_iff, decide_eq_true_eq, decide_eq_false_iff_not, Bool.not_eq_true', Bool.not_eq_false', Bool.not_eq_true, Bool.not_eq_false] at hc6
    refine Run.skip ?_
    refine Nrm.code ?_
    refine Run.seq ?_
    refine Run.seq ?_
    refine Run.region ?_
    refine mv1 rfl rfl ?_
    refine calg (vs := [_]) rfl ⟨⟨_, _, rfl, rfl⟩, trivial⟩ k31 rfl (fun hG => c31 _ _ (by omega)) ?_
    intro w8 B_; have S := S.call B_
    refine neq1 rfl rfl rfl ?_
    refine Ro.nil ?_
    refine Nrm.code ?_
    refine Run.cond rfl (fun hc8 => ?_) (fun hc8 => ?_)
    ·
      try simp only [Bool.or_eq_true, Bool.and_eq_true, Bool.or_eq_false_iff, Bool.and_eq_false_iff, decide_eq_true_eq, decide_eq_false_iff_not, Bool.not_eq_true', Bool.not_eq_false', Bool.not_eq_true, Bool.not_eq_false] at hc8
      refine Run.seq ?_
      refine Run.region ?_
      refine mv1 rfl rfl ?_
      refine calg (vs := [_]) rfl ⟨⟨_, _, rfl, rfl⟩, trivial⟩ k31 rfl (fun hG => c31 _ _ (by omega)) ?_
      intro w9 B_; have S := S.call B_
      refine mv1 rfl rfl ?_
      refine calg (vs := [_]) rfl ⟨⟨_, _, rfl, rfl⟩, trivial⟩ k31 rfl (fun hG => c31 _ _ (by omega)) ?_
      intro w10 B_; have S := S.call B_
      refine eql1 rfl rfl rfl ?_
      refine mv1 rfl rfl ?_
      refine mv rfl rfl rfl rfl ?_
      refine mv rfl rfl rfl rfl ?_
      refine calg (vs := [_, _]) rfl ⟨⟨_, _, rfl, rfl⟩, ⟨_, _, rfl, rfl⟩, trivial⟩ k37 rfl (fun hG => c37 _ _ _ _ _ (S.bsI (i := 1) rfl hby_u5) (hu4.now S)) ?_
      intro w11 B_; have S := S.call B_
      refine pkA rfl rfl rfl rfl rfl rfl ?_
      refine asg1 rfl rfl ?_
      refine Ro.nil ?_
      refine Nrm.code ?_
      refine Run.ret ?_
      refine Rt.one rfl rfl ?_
      have hE : hopE b = parE b := by unfold hopE; rw [if_pos hc8]
      have hBb : hopB b = b := by unfold hopB; rw [if_neg (by omega)]
      exact ⟨by rw [hE, hBb]; simp, (SS.tran hN2 S).bl⟩
    ·
      try simp only [Bool.or_eq_true, Bool.and_eq_true, Bool.or_eq_false_iff, Bool.and_eq_false_iff, decide_eq_true_eq, decide_eq_false_iff_not, Bool.not_eq_true', Bool.not_eq_false', Bool.not_eq_true, Bool.not_eq_false] at hc8
      replace hc8 : parE b = 0 := by omega
      have htl := parH_ttl hc8
      refine Run.skip ?_
      refine Nrm.code ?_
      refine Run.seq ?_
      refine Run.seq ?_
      refine Run.region ?_
      refine fld (o' := 5) rfl fo28_5 rfl rfl rfl rfl ?_
      refine ld1 rfl T3 S (i := 0) rfl rfl rfl rfl rfl ?_
      refine lss1 rfl rfl rfl ?_
      refine Ro.nil ?_
      refine Nrm.code ?_
      refine Run.cond rfl (fun hc10 => ?_) (fun hc10 => ?_)
      ·
        try simp only [Bool.or_eq_true, Bool.and_eq_true, Bool.or_eq_false_iff, Bool.and_eq_false_iff, decide_eq_true_eq, decide_eq_false_iff_not, Bool.not_eq_true', Bool.not_eq_false', Bool.not_eq_true, Bool.not_eq_false] at hc10
        refine Run.seq ?_
        refine Run.region ?_
        refine mv1 rfl rfl ?_
        refine calg (vs := [_]) rfl ⟨⟨_, _, rfl, rfl⟩, trivial⟩ k31 rfl (fun hG => c31 _ _ (by omega)) ?_
        intro w9 B_; have S := S.call B_
        refine eql1 rfl rfl rfl ?_
        refine mv1 rfl rfl ?_
        refine mv rfl rfl rfl rfl ?_
        refine mv rfl rfl rfl rfl ?_
        refine calg (vs := [_, _]) rfl ⟨⟨_, _, rfl, rfl⟩, ⟨_, _, rfl, rfl⟩, trivial⟩ k37 rfl (fun hG => c37 _ _ _ _ _ (S.bsI (i := 1) rfl hby_u5) (hu4.now S)) ?_
        intro w10 B_; have S := S.call B_
        refine pkA rfl rfl rfl rfl rfl rfl ?_
        refine asg1 rfl rfl ?_
        refine Ro.nil ?_
        refine Nrm.code ?_
        refine Run.ret ?_
        refine Rt.one rfl rfl ?_
        have hE : hopE b = 67 := by unfold hopE; rw [if_neg (by omega), if_pos (by omega)]
        have hBb : hopB b = b := by unfold hopB; rw [if_neg (by omega)]
        exact ⟨by rw [hE, hBb]; simp, (SS.tran hN2 S).bl⟩
      ·
        try simp only [Bool.or_eq_true, Bool.and_eq_true, Bool.or_eq_false_iff, Bool.and_eq_false_iff, decide_eq_true_eq, decide_eq_false_iff_not, Bool.not_eq_true', Bool.not_eq_false', Bool.not_eq_true, Bool.not_eq_false] at hc10
        have hb8b := byt_getD hb.1 8
        have he : hopE b = 0 := by unfold hopE; rw [if_neg (by omega), if_neg (by omega)]
        have hhp := hop_par hb.1 he
        have hhl := hopB_len b
        have hhc := hop_can hb.1 he
        have hgi : ∀ i, i ≠ 8 → i ≠ 10 → i ≠ 11 → (hopB b).getD i 0 = b.getD i 0 := fun i h1 h2 h3 => by unfold hopB; rw [if_pos he]; exact hopW_getD h1 h2 h3
        have hpk9 := parH_ok hby_u5
        refine Run.skip ?_
        refine Nrm.code ?_
        refine Run.seq ?_
        refine Run.region ?_
        obtain ⟨hu5, S⟩ := S.layBI (i := 1) rfl rfl hby_u5
        obtain ⟨N3, hN3, S_3⟩ := S.reb
        have hb := hb.st S; rw [hN3] at hb
        have hg := hg.st S; rw [hN3] at hg
        have hu4 := hu4.st S; rw [hN3] at hu4
        have hd6 := hd6.st S; rw [hN3] at hd6
        have hq6 := hq6.st S; rw [hN3] at hq6
        rw [hN3] at hu5
        have SS := SS.tran hN2 S
        have S := S_3
        refine mv1 rfl rfl ?_
        refine call (vs := [_]) ⟨⟨_, _, rfl, rfl⟩, trivial⟩ k33 rfl (c33 _ _ _ (hu5.now S) (hg.now S)) ?_
        rintro _ w9 ⟨o9, d9, vs9, rfl, hF, hw9⟩
        have S := S.fo hF
        have hd9 := (hw9 _ _ hu5).2
        have ho9 := (hw9 _ _ hu5).1
        obtain ⟨hq9, S⟩ := S.layOI (i := 0) rfl rfl ho9
        obtain ⟨N4, hN4, S_4⟩ := S.reb
        have hb := hb.st S; rw [hN4] at hb
        have hg := hg.st S; rw [hN4] at hg
        have hu4 := hu4.st S; rw [hN4] at hu4
        have hd6 := hd6.st S; rw [hN4] at hd6
        have hq6 := hq6.st S; rw [hN4] at hq6
        have hu5 := hu5.st S; rw [hN4] at hu5
        have hd9 := hd9.st S; rw [hN4] at hd9
        rw [hN4] at hq9
        have SS := SS.tran hN3 S
        have S := S_4
        refine mv1 rfl rfl ?_
        refine extr1 rfl rfl rfl ?_
        refine extr1 rfl rfl rfl ?_
        refine alc T28 S rfl ?_
        intro b9 w10 hb9 S B_
        refine stW rfl rfl T28 rfl rfl (one_cons rfl (one_cons rfl (one_cons rfl (one_cons rfl (one_cons rfl (one_cons rfl (one_cons rfl (one_cons rfl (one_cons rfl (one_cons rfl (one_cons rfl (one_cons rfl (one_cons rfl (one_cons rfl (one_cons rfl (one_cons rfl (one_cons rfl (one_cons rfl (one_cons rfl (one_cons rfl (one_cons rfl (one_cons rfl (one_cons rfl (one_cons rfl (one_cons rfl (one_cons rfl (one_cons rfl (one_cons rfl (one_cons rfl (one_cons rfl (one_cons rfl (one_cons rfl (one_cons rfl (one_cons rfl (one_cons rfl (one_cons rfl (one_cons rfl (one_cons rfl (one_cons rfl (one_cons rfl (one_cons rfl (one_cons hq9.one (one_cons hd9.one one_nil))))))))))))))))))))))))))))))))))))))))))) S (i := 0) rfl rfl ?_
        intro w11 S
        refine asg1 rfl rfl ?_
        refine Ro.nil ?_
        refine Nrm.code ?_
        refine Run.seq ?_
        refine Run.region ?_
        refine ldW rfl T28 S (i := 1) rfl rfl rfl rfl rfl ?_
        have S0 := S
        refine call (vs := [_]) ⟨⟨_, _, rfl, rfl⟩, trivial⟩ k29 rfl (c29 (parH b) _ _ _ (hq6.now S) (hd6.now S) (by have := hpk.2.2.1; omega) (by have := hpk.2.2.2.2; omega) (fun x hx => by have := hpk.2.2.2.1 x hx; omega)) ?_
        rintro _ w12 ⟨oc, dc, rfl, B1, hcl⟩
        have S := S.call B1
        have hoc := (hcl _ S0.lt).1
        have hdc := (hcl _ S0.lt).2
        obtain ⟨N5, hN5, S_5⟩ := S.reb
        have hb := hb.st S; rw [hN5] at hb
        have hg := hg.st S; rw [hN5] at hg
        have hu4 := hu4.st S; rw [hN5] at hu4
        have hd6 := hd6.st S; rw [hN5] at hd6
        have hq6 := hq6.st S; rw [hN5] at hq6
        have hu5 := hu5.st S; rw [hN5] at hu5
        have hd9 := hd9.st S; rw [hN5] at hd9
        have hq9 := hq9.st S; rw [hN5] at hq9
        rw [hN5] at hoc
        rw [hN5] at hdc
        have SS := SS.tran hN4 S
        have S := S_5
        refine alc T28 S rfl ?_
        intro b11 w13 hb11 S B_
        refine stW rfl rfl T28 rfl rfl (one_cons rfl (one_cons rfl (one_cons rfl (one_cons rfl (one_cons rfl (one_cons rfl (one_cons rfl (one_cons rfl (one_cons rfl (one_cons rfl (one_cons rfl (one_cons rfl (one_cons rfl (one_cons rfl (one_cons rfl (one_cons rfl (one_cons rfl (one_cons rfl (one_cons rfl (one_cons rfl (one_cons rfl (one_cons rfl (one_cons rfl (one_cons rfl (one_cons rfl (one_cons rfl (one_cons rfl (one_cons rfl (one_cons rfl (one_cons rfl (one_cons rfl (one_cons rfl (one_cons rfl (one_cons rfl (one_cons rfl (one_cons rfl (one_cons rfl (one_cons rfl (one_cons rfl (one_cons rfl (one_cons rfl (one_cons hoc.one (one_cons hdc.one one_nil))))))))))))))))))))))))))))))))))))))))))) S (i := 0) rfl rfl ?_
        intro w14 S
        refine Ro.nil ?_
        refine Nrm.code ?_
        refine Run.seq ?_
        refine Run.region ?_
        refine fld (o' := 5) rfl fo28_5 rfl rfl rfl rfl ?_
        refine ld1 rfl T3 S (i := 2) rfl rfl rfl rfl rfl ?_
        refine sub1 rfl rfl rfl (w64 (by omega)) ?_
        refine fld (o' := 5) rfl fo28_5 rfl rfl rfl rfl ?_
        refine st1 rfl rfl T3 rfl S (i := 0) rfl rfl rfl ?_
        intro w15 S
        have S : St _ _ [.var b11 28 (encIp4 { parH b with ttl := (parH b).ttl - 1 } oc dc), .var b9 28 (encIp4 (parH (hopB b)) o9 d9), _] w15 := S
        refine Ro.nil ?_
        refine Nrm.code ?_
        refine Run.seq ?_
        refine Run.seq ?_
        refine Run.region ?_
        refine asg1 rfl rfl ?_
        refine Ro.nil ?_
        refine Nrm.code ?_
        refine Run.block ?_
        refine Run.loop1 (fun (i : Nat) w_ => i ≤ b.length ∧ St N5 w12 [.var b11 28 (encIp4 { parH b with ttl := (parH b).ttl - 1 } oc dc), .var b9 28 (encIp4 (parH (hopB b)) o9 d9)] w_) (fun (i : Nat) => [(4, [], u4), (5, [], u5), (8, [], .int .i64 (hopE b)), (9, [], .pointer (some ⟨b9, 0, none⟩)), (10, [], .int .i64 (parE (hopB b))), (11, [], .pointer (some ⟨b11, 0, none⟩)), (12, [], .int .i64 i)]) (fun (i : Nat) => b.length - i) (0) ⟨Nat.zero_le _, S.pick [true, true, false] rfl⟩ ⟨rfl, rfl, rfl, rfl, rfl, rfl, rfl, trivial⟩ ?_
        rintro i w16 ⟨hi, S⟩
        refine Run.seq ?_
        refine Run.seq ?_
        refine Run.region ?_
        refine mv1 rfl rfl ?_
        refine mv1 rfl rfl ?_
        refine lenS rfl hu4.2 Tryd.underlying26 rfl rfl rfl ?_
        refine lss1 rfl rfl rfl ?_
        refine Ro.nil ?_
        refine Nrm.code ?_
        refine Run.cond rfl (fun hc16 => ?_) (fun hc16 => ?_)
        ·
          try simp only [Bool.or_eq_true, Bool.and_eq_true, Bool.or_eq_false_iff, Bool.and_eq_false_iff, decide_eq_true_eq, decide_eq_false_iff_not, Bool.not_eq_true', Bool.not_eq_false', Bool.not_eq_true, Bool.not_eq_false] at hc16
          refine Run.skip ?_
          refine Nrm.code ?_
          refine Run.seq ?_
          refine Run.block ?_
          refine Run.seq ?_
          refine Run.draw (by kernel_rfl) (by kernel_rfl) S ?_
          refine qmv rfl rfl rfl rfl ?_
          refine qmv rfl rfl rfl rfl ?_
          refine qixa rfl rfl hu5.2 e26 rfl rfl rfl rfl (fun _ => by first | omega | (simp only [List.length_cons, List.length_nil]; omega)) ?_
          refine qldB rfl hu5 (fun _ S => S) T5 rfl rfl rfl (fun _ => by omega) ?_
          intro q71 hq71 hbq71
          try simp only [Int.toNat_natCast, Nat.mul_one, Int.reduceToNat] at hq71
          refine qmv rfl rfl rfl rfl ?_
          refine qmv rfl rfl rfl rfl ?_
          refine qixa rfl rfl hu4.2 e26 rfl rfl rfl rfl (fun _ => by first | omega | (simp only [List.length_cons, List.length_nil]; omega)) ?_
          refine qldB rfl hu4 (fun _ S => S) T5 rfl rfl rfl (fun _ => by omega) ?_
          intro q75 hq75 hbq75
          try simp only [Int.toNat_natCast, Nat.mul_one, Int.reduceToNat] at hq75
          refine qneq rfl rfl rfl rfl rfl rfl ?_
          refine qmv rfl rfl rfl rfl ?_
          refine qmv rfl rfl rfl rfl ?_
          refine qneq rfl rfl rfl rfl rfl rfl ?_
          refine qpkA rfl rfl rfl rfl rfl rfl ?_
          refine qmv rfl rfl rfl rfl ?_
          refine qmv rfl rfl rfl rfl ?_
          refine qneq rfl rfl rfl rfl rfl rfl ?_
          refine qpkA rfl rfl rfl rfl rfl rfl ?_
          refine qmv rfl rfl rfl rfl ?_
          refine qmv rfl rfl rfl rfl ?_
          refine qneq rfl rfl rfl rfl rfl rfl ?_
          refine qpkA rfl rfl rfl rfl rfl rfl ?_
          refine Qo.nil (fun w17 S => ?_)
          refine Nrm.code ?_
          refine Run.cond rfl (fun hc18 => ?_) (fun hc18 => ?_)
          ·
            try simp only [Bool.or_eq_true, Bool.and_eq_true, Bool.or_eq_false_iff, Bool.and_eq_false_iff, decide_eq_true_eq, decide_eq_false_iff_not, Bool.not_eq_true', Bool.not_eq_false', Bool.not_eq_true, Bool.not_eq_false] at hc18
            exfalso; (have := hgi i (by omega) (by omega) (by omega); omega)
          ·
            try simp only [Bool.or_eq_true, Bool.and_eq_true, Bool.or_eq_false_iff, Bool.and_eq_false_iff, decide_eq_true_eq, decide_eq_false_iff_not, Bool.not_eq_true', Bool.not_eq_false', Bool.not_eq_true, Bool.not_eq_false] at hc18
            refine Run.skip ?_
            refine Nrm.blk ?_
            refine Nrm.code ?_
            refine Run.region ?_
            refine mv1 rfl rfl ?_
            refine add1 rfl rfl rfl (w64 (by omega)) ?_
            refine asg1 rfl rfl ?_
            refine Ro.nil ?_
            refine Nrm.loop1 (i + 1) ⟨by omega, S⟩ (by omega) ⟨rfl, rfl, rfl, rfl, rfl, rfl, rfl, trivial⟩
        ·
          try simp only [Bool.or_eq_true, Bool.and_eq_true, Bool.or_eq_false_iff, Bool.and_eq_false_iff, decide_eq_true_eq, decide_eq_false_iff_not, Bool.not_eq_true', Bool.not_eq_false', Bool.not_eq_true, Bool.not_eq_false] at hc16
          refine Run.exit ?_
          refine Lv.code ?_
          refine Lv.back ?_
          refine Lv.hit ?_
          refine Nrm.code ?_
          refine Run.seq ?_
          refine Run.region ?_
          refine mv1 rfl rfl ?_
          refine calg (vs := [_]) rfl ⟨⟨_, _, rfl, rfl⟩, trivial⟩ k31 rfl (fun hG => c31 _ _ (by omega)) ?_
          intro w17 B_; have S := S.call B_
          refine eql1 rfl rfl rfl ?_
          refine mv1 rfl rfl ?_
          refine mv rfl rfl rfl rfl ?_
          refine calg (vs := [_]) rfl ⟨⟨_, _, rfl, rfl⟩, trivial⟩ k31 rfl (fun hG => c31 _ _ (by have := parE_bd (hopB b); omega)) ?_
          intro w18 B_; have S := S.call B_
          refine eql rfl rfl rfl rfl rfl rfl ?_
          refine pkA rfl rfl rfl rfl rfl rfl ?_
          refine mv1 rfl rfl ?_
          refine ldW rfl T28 S (i := 1) rfl rfl rfl rfl rfl ?_
          refine ldW rfl T28 S (i := 0) rfl rfl rfl rfl rfl ?_
          refine calg (vs := [_, _]) rfl ⟨⟨_, _, rfl, rfl⟩, ⟨_, _, rfl, rfl⟩, trivial⟩ k34 rfl (fun hG => c34 (parH (hopB b)) { parH b with ttl := (parH b).ttl - 1 } o9 d9 oc dc _ (hq9.now S) (hd9.now S) (hoc.now S) (hdc.now S) (by have := hpk9.2.2.1; omega)) ?_
          intro w19 B_; have S := S.call B_
          refine pkA rfl rfl rfl rfl rfl rfl ?_
          refine mv1 rfl rfl ?_
          refine mv rfl rfl rfl rfl ?_
          refine calg (vs := [_]) rfl ⟨⟨_, _, rfl, rfl⟩, trivial⟩ k35 rfl (fun hG => c35 _ _ _ (hu4.now S) (hg.now S)) ?_
          intro w20 B_; have S := S.call B_
          refine nt rfl rfl rfl rfl ?_
          refine mv rfl rfl rfl rfl ?_
          refine mv rfl rfl rfl rfl ?_
          refine calg (vs := [_]) rfl ⟨⟨_, _, rfl, rfl⟩, trivial⟩ k35 rfl (fun hG => c35 _ _ _ (hu5.now S) (hg.now S)) ?_
          intro w21 B_; have S := S.call B_
          refine pkO rfl rfl rfl rfl rfl rfl ?_
          refine pkA rfl rfl rfl rfl rfl rfl ?_
          refine asg1 rfl rfl ?_
          refine Ro.nil ?_
          refine Nrm.code ?_
          refine Run.ret ?_
          refine Rt.one rfl rfl ?_
          have hS : sameH (parH (hopB b)) { parH b with ttl := (parH b).ttl - 1 } = true := by rw [hhp.2, htl]; exact sameH_refl _
          exact ⟨by rw [he, hhp.1, hS]; cases hcb : canB b with
              | false => rfl
              | true => rw [hhc hcb]; rfl, (SS.tran hN5 S).bl⟩

end Go.Proofs.YtkahmepenjhcpaaDoor.W

/- The walk of weirlaw6.Ip4HopsOut. No statement of the seat is proved here. -/
namespace Go.Proofs.YtkahmepenjhcpaaDoor.W
open Go
set_option linter.unusedSimpArgs false
set_option linter.unusedVariables false


theorem serL_hop {h : Ip4} (hc : chkE h = 0) (h1 : h.src.ok) (h2 : h.dst.ok) (hd : ∀ o ∈ h.opts, W.byt o.data) : parE (serL h) = 0 ∧ (serL h).getD 8 0 = h.ttl := by
  have hbk := ser_back hc h1 h2 hd
  have hse : serL h = serB h := by unfold serL; rw [if_pos hc]
  rw [← hse] at hbk
  have htl := parH_ttl hbk.1
  rw [hbk.2] at htl
  exact ⟨hbk.1, htl.symm⟩
def ttlH (h : Ip4) (t : Int) : Ip4 := { h with ttl := t }
theorem chk_ttl {h : Ip4} (hc : chkE h = 0) {t : Int} (ht : 0 ≤ t ∧ t ≤ 255) : chkE (ttlH h t) = 0 := by
  obtain ⟨c1, c2, c3, c4⟩ := chkE_zero hc
  have hb := badF_off c1
  unfold chkE
  have hbad : badF (ttlH h t) = false := by
    unfold badF outN ttlH
    simp only [Bool.or_eq_false_iff, decide_eq_false_iff_not, hb.2.2.2.2.2.2.2.2.2.2.2.1, hb.2.2.2.2.2.2.2.2.2.2.2.2, Bool.not_true]
    refine ⟨⟨⟨⟨⟨⟨⟨⟨?_, ?_⟩, ?_, ?_⟩, ?_, ?_⟩, ?_⟩, ?_, ?_⟩, ?_, ?_⟩, ?_⟩, ?_⟩ <;> first | rfl | trivial | omega
  rw [if_neg (by rw [hbad]; simp), if_neg (by show ¬ putE h.opts ≠ 0; omega), if_neg (by show ¬ _; exact Int.not_lt.2 c3)]
  exact c4
/-- one hop of what was written -/
theorem hop_one {h : Ip4} (hc : chkE h = 0) (h1 : h.src.ok) (h2 : h.dst.ok) (hd : ∀ o ∈ h.opts, W.byt o.data) : hopE (serL h) = (if h.ttl < 2 then 67 else 0) ∧ hopB (serL h) = (if h.ttl < 2 then serL h else serL (ttlH h (h.ttl - 1))) := by
  obtain ⟨hp, ht⟩ := serL_hop hc h1 h2 hd
  have he : hopE (serL h) = (if h.ttl < 2 then 67 else 0) := by unfold hopE; rw [if_neg (by omega), ht]
  refine ⟨he, ?_⟩
  unfold hopB
  rw [he]
  by_cases h3 : h.ttl < 2
  · rw [if_pos h3, if_pos h3]; rfl
  · rw [if_neg h3, if_neg h3, if_pos rfl]
    exact hop_ser hc (by omega) hp

set_option maxHeartbeats 1000000 in
theorem c12 (h : Ip4) (o d : Value) (w : World) (hO : OS [] w o h.opts) (hd : BS [] w d h.data) (hol : h.opts.length ≤ 1099511627776) (hdl : h.data.length ≤ 1099511627776) (hs : h.src.ok) (ht : h.dst.ok) (hg : GV [] w 0 130 (W4.map i64)) :
    CallsD Tryd.prog 12 #[.agg (encIp4 h o d).toArray] w (.bool true) := by
  refine enter Tryd.func12 rfl Tryd.ntmps12 (l := [(0, [], _)]) rfl rfl ?_
  have S := St.refl [] w
  have hce := chkE_bd h
  have hodt := hO.byt
  refine Run.seq ?_
  refine Run.region ?_
  refine boxA rfl S rfl ?_
  intro b1 w1 hb1 S B_
  refine asg1 rfl rfl ?_
  refine Ro.nil ?_
  refine Nrm.code ?_
  refine Run.seq ?_
  refine Run.region ?_
  refine calg (vs := []) rfl trivial k28 rfl (fun hG => c28 _ (hg.now S)) ?_
  intro w2 B_; have S := S.call B_
  refine asg1 rfl rfl ?_
  refine Ro.nil ?_
  refine Nrm.code ?_
  refine Run.seq ?_
  refine Run.region ?_
  refine ldW rfl T28 S (i := 0) rfl rfl rfl rfl rfl ?_
  refine call (vs := [_]) ⟨⟨_, _, rfl, rfl⟩, trivial⟩ k30 rfl (c30 h o d _ (hO.now S) (hd.now S) hol hdl hs ht (hg.now S)) ?_
  rintro _ w3 ⟨u4, rfl, hF⟩
  have S := S.fb hF
  refine mv1 rfl rfl ?_
  refine extr1 rfl rfl rfl ?_
  refine extr1 rfl rfl rfl ?_
  refine asg1 rfl rfl ?_
  refine asg1 rfl rfl ?_
  refine Ro.nil ?_
  refine Nrm.code ?_
  refine Run.seq ?_
  refine Run.seq ?_
  refine Run.region ?_
  refine mv1 rfl rfl ?_
  refine nt1 rfl rfl ?_
  refine mv1 rfl rfl ?_
  refine mv rfl rfl rfl rfl ?_
  refine calg (vs := [_]) rfl ⟨⟨_, _, rfl, rfl⟩, trivial⟩ k31 rfl (fun hG => c31 _ _ (by omega)) ?_
  intro w4 B_; have S := S.call B_
  refine neq rfl rfl rfl rfl rfl rfl ?_
  refine pkO rfl rfl rfl rfl rfl rfl ?_
  refine Ro.nil ?_
  refine Nrm.code ?_
  refine Run.cond rfl (fun hc3 => ?_) (fun hc3 => ?_)
  ·
    try simp only [Bool.or_eq_true, Bool.and_eq_true, Bool.or_eq_false_iff, Bool.and_eq_false_iff, decide_eq_true_eq, decide_eq_false_iff_not, Bool.not_eq_true', Bool.not_eq_false', Bool.not_eq_true, Bool.not_eq_false] at hc3
    refine Run.seq ?_
    refine Run.region ?_
    refine mv1 rfl rfl ?_
    refine asg1 rfl rfl ?_
    refine Ro.nil ?_
    refine Nrm.code ?_
    refine Run.ret ?_
    refine Rt.one rfl rfl ?_
    exact ⟨rfl, S.bl⟩
  ·
    try simp only [Bool.or_eq_true, Bool.and_eq_true, Bool.or_eq_false_iff, Bool.and_eq_false_iff, decide_eq_true_eq, decide_eq_false_iff_not, Bool.not_eq_true', Bool.not_eq_false', Bool.not_eq_true, Bool.not_eq_false] at hc3
    replace hc3 : chkE h = 0 := by simpa using hc3
    have hbo := badF_off (chkE_zero hc3).1
    refine Run.skip ?_
    refine Nrm.code ?_
    refine Run.seq ?_
    refine Run.region ?_
    refine asg1 rfl rfl ?_
    refine Ro.nil ?_
    refine Nrm.code ?_
    refine Run.seq ?_
    refine Run.block ?_
    refine Run.loop2 (fun (n : Nat) (t : Int) w_ => t = h.ttl - n ∧ (n = 0 ∨ 1 ≤ t) ∧ St [] w [oB u4 (serL (ttlH h t)), .var b1 28 (encIp4 h o d)] w_) (fun (n : Nat) (t : Int) => [(1, [], .pointer (some ⟨b1, 0, none⟩)), (4, [], u4), (6, [], .int .i64 n)]) (fun (n : Nat) (t : Int) => 256 - n) (0) (h.ttl) ⟨by simp, .inl rfl, S⟩ ⟨rfl, rfl, rfl, trivial⟩ ?_
    rintro n t w5 ⟨htt, hn1, S⟩
    have hct := chk_ttl hc3 (t := t) (by omega)
    have hone := hop_one hct hs ht hodt
    have hby := serL_byt (h := ttlH h t) hs ht hodt hd.1
    have hsl := ser_len hct
    have hsz := (chkE_zero hct).2.2.1
    have hrd := hopE_bd (serL (ttlH h t))
    have hcn := ser_canon hct hs ht hodt
    have het : (ttlH h t).ttl = t := rfl
    rw [het] at hone
    refine Run.seq ?_
    refine Run.seq ?_
    refine Run.region ?_
    refine mv1 rfl rfl ?_
    refine lss1 rfl rfl rfl ?_
    refine mv1 rfl rfl ?_
    refine mv rfl rfl rfl rfl ?_
    refine Ro.strip (by simp [allT]; omega) ?_
    refine Ro.gtrue rfl (by simp [allT]; omega) ?_
    refine call (vs := [_]) ⟨⟨_, _, rfl, rfl⟩, trivial⟩ k40 rfl (c40s _ _ _ (S.hold_at (i := 0) rfl) hby (by omega) (hg.stI S (i := 0) rfl)) ?_
    rintro _ w6 ⟨rfl, hT⟩
    have S := S.tn (i := 0) rfl rfl hT
    
    refine calg (vs := [_]) rfl ⟨⟨_, _, rfl, rfl⟩, trivial⟩ k31 rfl (fun hG => c31 _ _ (by omega)) ?_
    intro w7 B_; have S := S.call B_
    refine Ro.strip (by simp [allT]; omega) ?_
    refine eql rfl rfl rfl rfl rfl rfl ?_
    refine Ro.strip (by simp [allT]; omega) ?_
    refine pkA rfl rfl rfl rfl rfl rfl ?_
    refine Ro.nil ?_
    refine Nrm.code ?_
    refine Run.cond rfl (fun hc6 => ?_) (fun hc6 => ?_)
    ·
      try simp only [Bool.or_eq_true, Bool.and_eq_true, Bool.or_eq_false_iff, Bool.and_eq_false_iff, decide_eq_true_eq, decide_eq_false_iff_not, Bool.not_eq_true', Bool.not_eq_false', Bool.not_eq_true, Bool.not_eq_false] at hc6
      have ht2 : ¬ t < 2 := by intro hlt; rw [hone.1, if_pos hlt] at hc6; omega
      rw [hone.2, if_neg ht2] at S
      refine Run.skip ?_
      refine Nrm.code ?_
      refine Run.block ?_
      refine Run.region ?_
      refine mv1 rfl rfl ?_
      refine add1 rfl rfl rfl (w64 (by omega)) ?_
      refine asg1 rfl rfl ?_
      refine Ro.nil ?_
      refine Nrm.blk ?_
      refine Nrm.loop2 (n + 1) (t - 1) ⟨by omega, .inr (by omega), S⟩ (by omega) ⟨rfl, rfl, rfl, trivial⟩
    ·
      try simp only [Bool.or_eq_true, Bool.and_eq_true, Bool.or_eq_false_iff, Bool.and_eq_false_iff, decide_eq_true_eq, decide_eq_false_iff_not, Bool.not_eq_true', Bool.not_eq_false', Bool.not_eq_true, Bool.not_eq_false] at hc6
      have ht2 : t < 2 := by
        rcases hc6 with h6 | h6
        · omega
        · rw [hone.1] at h6; by_cases hlt : t < 2
          · exact hlt
          · rw [if_neg hlt] at h6; omega
      rw [hone.2, if_pos ht2] at S
      refine Run.exit ?_
      refine Lv.code ?_
      refine Lv.back ?_
      refine Lv.hit ?_
      refine Nrm.code ?_
      refine Run.seq ?_
      refine Run.region ?_
      refine fld (o' := 5) rfl fo28_5 rfl rfl rfl rfl ?_
      refine ld1 rfl T3 S (i := 1) rfl rfl rfl rfl rfl ?_
      refine sub1 rfl rfl rfl (w64 (by omega)) ?_
      refine asg1 rfl rfl ?_
      refine Ro.nil ?_
      refine Nrm.code ?_
      refine Run.seq ?_
      refine Run.seq ?_
      refine Run.region ?_
      refine mv1 rfl rfl ?_
      refine lss1 rfl rfl rfl ?_
      refine Ro.nil ?_
      refine Nrm.code ?_
      refine Run.cond rfl (fun hc9 => ?_) (fun hc9 => ?_)
      ·
        try simp only [Bool.or_eq_true, Bool.and_eq_true, Bool.or_eq_false_iff, Bool.and_eq_false_iff, decide_eq_true_eq, decide_eq_false_iff_not, Bool.not_eq_true', Bool.not_eq_false', Bool.not_eq_true, Bool.not_eq_false] at hc9
        refine Run.region ?_
        refine asg1 rfl rfl ?_
        refine Ro.nil ?_
        refine Nrm.code ?_
        refine Run.seq ?_
        refine Run.region ?_
        refine mv1 rfl rfl ?_
        refine mv1 rfl rfl ?_
        refine eql1 rfl rfl rfl ?_
        refine mv1 rfl rfl ?_
        refine mv rfl rfl rfl rfl ?_
        refine Ro.strip (by simp [allT]; omega) ?_
        refine Ro.gtrue rfl (by simp [allT]; omega) ?_
        refine call (vs := [_]) ⟨⟨_, _, rfl, rfl⟩, trivial⟩ k40 rfl (c40s _ _ _ (S.hold_at (i := 0) rfl) hby (by omega) (hg.stI S (i := 0) rfl)) ?_
        rintro _ w8 ⟨rfl, hT⟩
        have S := S.tn (i := 0) rfl rfl hT
        rw [hone.2, if_pos ht2] at S
        refine calg (vs := [_]) rfl ⟨⟨_, _, rfl, rfl⟩, trivial⟩ k31 rfl (fun hG => c31 _ _ (by omega)) ?_
        intro w9 B_; have S := S.call B_
        refine Ro.strip (by simp [allT]; omega) ?_
        refine eql rfl rfl rfl rfl rfl rfl ?_
        refine Ro.strip (by simp [allT]; omega) ?_
        refine pkA rfl rfl rfl rfl rfl rfl ?_
        refine mv1 rfl rfl ?_
        refine mv rfl rfl rfl rfl ?_
        refine calg (vs := [_]) rfl ⟨⟨_, _, rfl, rfl⟩, trivial⟩ k35 rfl (fun hG => c35 _ _ _ (S.bsI (i := 0) rfl hby) (hg.now S)) ?_
        intro w10 B_; have S := S.call B_
        refine pkA rfl rfl rfl rfl rfl rfl ?_
        refine asg1 rfl rfl ?_
        refine Ro.nil ?_
        refine Nrm.code ?_
        refine Run.ret ?_
        refine Rt.one rfl rfl ?_
        exact ⟨by rw [hone.1, if_pos ht2, hcn]; simp; omega, S.bl⟩
      ·
        try simp only [Bool.or_eq_true, Bool.and_eq_true, Bool.or_eq_false_iff, Bool.and_eq_false_iff, decide_eq_true_eq, decide_eq_false_iff_not, Bool.not_eq_true', Bool.not_eq_false', Bool.not_eq_true, Bool.not_eq_false] at hc9
        refine Run.skip ?_
        refine Nrm.code ?_
        refine Run.seq ?_
        refine Run.region ?_
        refine mv1 rfl rfl ?_
        refine mv1 rfl rfl ?_
        refine eql1 rfl rfl rfl ?_
        refine mv1 rfl rfl ?_
        refine mv rfl rfl rfl rfl ?_
        refine Ro.strip (by simp [allT]; omega) ?_
        refine Ro.gtrue rfl (by simp [allT]; omega) ?_
        refine call (vs := [_]) ⟨⟨_, _, rfl, rfl⟩, trivial⟩ k40 rfl (c40s _ _ _ (S.hold_at (i := 0) rfl) hby (by omega) (hg.stI S (i := 0) rfl)) ?_
        rintro _ w8 ⟨rfl, hT⟩
        have S := S.tn (i := 0) rfl rfl hT
        rw [hone.2, if_pos ht2] at S
        refine calg (vs := [_]) rfl ⟨⟨_, _, rfl, rfl⟩, trivial⟩ k31 rfl (fun hG => c31 _ _ (by omega)) ?_
        intro w9 B_; have S := S.call B_
        refine Ro.strip (by simp [allT]; omega) ?_
        refine eql rfl rfl rfl rfl rfl rfl ?_
        refine Ro.strip (by simp [allT]; omega) ?_
        refine pkA rfl rfl rfl rfl rfl rfl ?_
        refine mv1 rfl rfl ?_
        refine mv rfl rfl rfl rfl ?_
        refine calg (vs := [_]) rfl ⟨⟨_, _, rfl, rfl⟩, trivial⟩ k35 rfl (fun hG => c35 _ _ _ (S.bsI (i := 0) rfl hby) (hg.now S)) ?_
        intro w10 B_; have S := S.call B_
        refine pkA rfl rfl rfl rfl rfl rfl ?_
        refine asg1 rfl rfl ?_
        refine Ro.nil ?_
        refine Nrm.code ?_
        refine Run.ret ?_
        refine Rt.one rfl rfl ?_
        exact ⟨by rw [hone.1, if_pos ht2, hcn]; simp; omega, S.bl⟩

end Go.Proofs.YtkahmepenjhcpaaDoor.W

