/- Contracts: what may be a datagram. No statement of the seat is proved here. -/
import Derived.Test.YtkahmepenjhcpaaDoorCk
namespace Go.Proofs.YtkahmepenjhcpaaDoor.W
open Go
set_option linter.unusedSimpArgs false
set_option linter.unusedVariables false


def outN (n hi : Int) : Bool := decide (n < 0) || decide (hi < n)
def badF (h : Ip4) : Bool := (((((((outN h.tos 255 || outN h.id 65535) || outN h.off 65528) || decide (h.off % 8 ≠ 0)) || outN h.ttl 255) || outN h.proto 255) || !fourB h.src) || !fourB h.dst)
def chkE (h : Ip4) : Int := if badF h = true then 68 else if putE h.opts ≠ 0 then putE h.opts else if 65535 < 20 + ((putL h.opts).length : Int) + h.data.length then 63 else fragE h.mf h.off h.data.length
theorem fragE_or (mf : Bool) (off n : Int) : fragE mf off n = 0 ∨ fragE mf off n = 66 := by unfold fragE; split <;> simp
theorem badF_off {h : Ip4} (hb : badF h = false) : 0 ≤ h.tos ∧ h.tos ≤ 255 ∧ 0 ≤ h.id ∧ h.id ≤ 65535 ∧ 0 ≤ h.off ∧ h.off ≤ 65528 ∧ h.off % 8 = 0 ∧ 0 ≤ h.ttl ∧ h.ttl ≤ 255 ∧ 0 ≤ h.proto ∧ h.proto ≤ 255 ∧ fourB h.src = true ∧ fourB h.dst = true := by
  simp only [badF, outN, Bool.or_eq_false_iff, decide_eq_false_iff_not, Bool.not_eq_false', decide_eq_true_eq] at hb
  obtain ⟨⟨⟨⟨⟨⟨⟨h1, h2⟩, h3⟩, h4⟩, h5⟩, h6⟩, h7⟩, h8⟩ := hb
  have h9 : h.off % 8 = 0 := by omega
  refine ⟨by omega, by omega, by omega, by omega, by omega, by omega, h9, by omega, by omega, by omega, by omega, h7, h8⟩

set_option maxHeartbeats 1000000 in
theorem c114 (mf : Bool) (off n : Int) (w : World) (h : 0 ≤ off ∧ off ≤ 1000000 ∧ 0 ≤ n ∧ n ≤ 1000000) :
    CallsD Tryd.prog 114 #[.bool mf, .int .i64 off, .int .i64 n] w (.bool (decide (fragE mf off n ≠ 0))) := by
  refine enter Tryd.func114 rfl Tryd.ntmps114 (l := [(0, [], _), (1, [], _), (2, [], _)]) rfl rfl ?_
  have S := St.refl [] w
  refine Run.seq ?_
  refine Run.region ?_
  refine asg1 rfl rfl ?_
  refine Ro.nil ?_
  refine Nrm.code ?_
  refine Run.seq ?_
  refine Run.region ?_
  refine mv1 rfl rfl ?_
  refine mv1 rfl rfl ?_
  refine mv rfl rfl rfl rfl ?_
  refine eql rfl rfl rfl rfl rfl rfl ?_
  refine mv rfl rfl rfl rfl ?_
  refine mv rfl rfl rfl rfl ?_
  refine rem rfl rfl rfl rfl rfl rfl (fun hG => by first | exact by decide | (simp [allT] at hG; exact by decide)) (fun hG => by first | exact r64 (by omega) | (simp [allT] at hG; exact r64 (by omega))) ?_
  refine neq rfl rfl rfl rfl rfl rfl ?_
  refine pkO rfl rfl rfl rfl rfl rfl ?_
  refine pkA rfl rfl rfl rfl rfl rfl ?_
  refine mv1 rfl rfl ?_
  refine mv rfl rfl rfl rfl ?_
  refine mv rfl rfl rfl rfl ?_
  refine add rfl rfl rfl rfl rfl rfl (fun hG => by first | exact w64 (by omega) | (simp [allT] at hG; exact w64 (by omega))) ?_
  refine gtr rfl rfl rfl rfl rfl rfl ?_
  refine pkO rfl rfl rfl rfl rfl rfl ?_
  refine asg1 rfl rfl ?_
  refine Ro.nil ?_
  refine Nrm.code ?_
  refine Run.ret ?_
  refine Rt.one rfl rfl ?_
  exact ⟨by cases mf <;> by_cases h1 : n = 0 <;> by_cases h2 : n % 8 = 0 <;> by_cases h3 : 65515 < off + n <;> simp [fragE, h1, h2, h3], S.bl⟩

set_option maxHeartbeats 1000000 in
theorem c32 (h : Ip4) (o d : Value) (w : World) (hO : OS [] w o h.opts) (hd : BS [] w d h.data) (hol : h.opts.length ≤ 1099511627776) (hdl : h.data.length ≤ 1099511627776) :
    CallsD Tryd.prog 32 #[.agg (encIp4 h o d).toArray] w (.int .i64 (chkE h)) := by
  refine enter Tryd.func32 rfl Tryd.ntmps32 (l := [(0, [], _)]) rfl rfl ?_
  have S := St.refl [] w
  have hpl := putL_len h.opts
  refine Run.seq ?_
  refine Run.region ?_
  refine boxA rfl S rfl ?_
  intro b1 w1 hb1 S B_
  refine asg1 rfl rfl ?_
  refine Ro.nil ?_
  refine Nrm.code ?_
  refine Run.seq ?_
  refine Run.seq ?_
  refine Run.region ?_
  refine fld (o' := 0) rfl fo28_0 rfl rfl rfl rfl ?_
  refine ld1 rfl T3 S (i := 0) rfl rfl rfl rfl rfl ?_
  refine calg (vs := [_, _]) rfl ⟨⟨_, _, rfl, rfl⟩, ⟨_, _, rfl, rfl⟩, trivial⟩ k98 rfl (fun hG => c98 _ _ _) ?_
  intro w2 B_; have S := S.call B_
  refine mv1 rfl rfl ?_
  refine fld (o' := 1) rfl fo28_1 rfl rfl rfl rfl ?_
  refine ld1 rfl T3 S (i := 0) rfl rfl rfl rfl rfl ?_
  refine calg (vs := [_, _]) rfl ⟨⟨_, _, rfl, rfl⟩, ⟨_, _, rfl, rfl⟩, trivial⟩ k98 rfl (fun hG => c98 _ _ _) ?_
  intro w3 B_; have S := S.call B_
  refine pkO rfl rfl rfl rfl rfl rfl ?_
  refine mv1 rfl rfl ?_
  refine fld (o' := 4) rfl fo28_4 rfl rfl rfl rfl ?_
  refine ld1 rfl T3 S (i := 0) rfl rfl rfl rfl rfl ?_
  refine calg (vs := [_, _]) rfl ⟨⟨_, _, rfl, rfl⟩, ⟨_, _, rfl, rfl⟩, trivial⟩ k98 rfl (fun hG => c98 _ _ _) ?_
  intro w4 B_; have S := S.call B_
  refine pkO rfl rfl rfl rfl rfl rfl ?_
  refine mv1 rfl rfl ?_
  refine fld (o' := 4) rfl fo28_4 rfl rfl rfl rfl ?_
  refine ld1 rfl T3 S (i := 0) rfl rfl rfl rfl rfl ?_
  refine rem rfl rfl rfl rfl rfl rfl (fun hG => by first | exact by decide | (simp [allT] at hG; exact by decide)) (fun hG => by first | exact r64 (by omega) | (simp [allT] at hG; exact r64 (by omega))) ?_
  refine neq rfl rfl rfl rfl rfl rfl ?_
  refine pkO rfl rfl rfl rfl rfl rfl ?_
  refine mv1 rfl rfl ?_
  refine fld (o' := 5) rfl fo28_5 rfl rfl rfl rfl ?_
  refine ld1 rfl T3 S (i := 0) rfl rfl rfl rfl rfl ?_
  refine calg (vs := [_, _]) rfl ⟨⟨_, _, rfl, rfl⟩, ⟨_, _, rfl, rfl⟩, trivial⟩ k98 rfl (fun hG => c98 _ _ _) ?_
  intro w5 B_; have S := S.call B_
  refine pkO rfl rfl rfl rfl rfl rfl ?_
  refine mv1 rfl rfl ?_
  refine fld (o' := 6) rfl fo28_6 rfl rfl rfl rfl ?_
  refine ld1 rfl T3 S (i := 0) rfl rfl rfl rfl rfl ?_
  refine calg (vs := [_, _]) rfl ⟨⟨_, _, rfl, rfl⟩, ⟨_, _, rfl, rfl⟩, trivial⟩ k98 rfl (fun hG => c98 _ _ _) ?_
  intro w6 B_; have S := S.call B_
  refine pkO rfl rfl rfl rfl rfl rfl ?_
  refine mv1 rfl rfl ?_
  refine fld (o' := 7) rfl fo28_7 rfl rfl rfl rfl ?_
  refine ldA rfl T24 S (i := 0) rfl rfl rfl (by decide) rfl rfl rfl ?_
  refine calg (vs := [_]) rfl ⟨⟨_, _, rfl, rfl⟩, trivial⟩ k99 rfl (fun hG => c99 _ _) ?_
  intro w7 B_; have S := S.call B_
  refine nt rfl rfl rfl rfl ?_
  refine pkO rfl rfl rfl rfl rfl rfl ?_
  refine mv1 rfl rfl ?_
  refine fld (o' := 24) rfl fo28_8 rfl rfl rfl rfl ?_
  refine ldA rfl T24 S (i := 0) rfl rfl rfl (by decide) rfl rfl rfl ?_
  refine calg (vs := [_]) rfl ⟨⟨_, _, rfl, rfl⟩, trivial⟩ k99 rfl (fun hG => c99 _ _) ?_
  intro w8 B_; have S := S.call B_
  refine nt rfl rfl rfl rfl ?_
  refine pkO rfl rfl rfl rfl rfl rfl ?_
  refine Ro.nil ?_
  refine Nrm.code ?_
  refine Run.cond rfl (fun hc1 => ?_) (fun hc1 => ?_)
  ·
    refine Run.seq ?_
    refine Run.region ?_
    refine asg1 rfl rfl ?_
    refine Ro.nil ?_
    refine Nrm.code ?_
    refine Run.ret ?_
    refine Rt.one rfl rfl ?_
    exact ⟨by rw [chkE, if_pos (show badF h = true from hc1)], S.bl⟩
  ·
    refine Run.skip ?_
    refine Nrm.code ?_
    refine Run.seq ?_
    refine Run.region ?_
    refine fld (o' := 41) rfl fo28_9 rfl rfl rfl rfl ?_
    refine ld1 rfl T25 S (i := 0) rfl rfl rfl rfl rfl ?_
    refine call (vs := [_]) ⟨⟨_, _, rfl, rfl⟩, trivial⟩ k94 rfl (c94 _ _ _ (hO.now S) (by omega)) ?_
    rintro _ w9 ⟨u, rfl, hF⟩
    have S := S.fb hF
    refine mv1 rfl rfl ?_
    refine extr1 rfl rfl rfl ?_
    refine extr1 rfl rfl rfl ?_
    refine asg1 rfl rfl ?_
    refine asg1 rfl rfl ?_
    refine Ro.nil ?_
    refine Nrm.code ?_
    refine Run.seq ?_
    refine Run.seq ?_
    refine Run.region ?_
    refine mv1 rfl rfl ?_
    refine neq1 rfl rfl rfl ?_
    refine Ro.nil ?_
    refine Nrm.code ?_
    refine Run.cond rfl (fun hc4 => ?_) (fun hc4 => ?_)
    ·
      try simp only [Bool.or_eq_true, Bool.and_eq_true, Bool.or_eq_false_iff, Bool.and_eq_false_iff, decide_eq_true_eq, decide_eq_false_iff_not, Bool.not_eq_true', Bool.not_eq_false', Bool.not_eq_true, Bool.not_eq_false] at hc4
      refine Run.seq ?_
      refine Run.region ?_
      refine mv1 rfl rfl ?_
      refine asg1 rfl rfl ?_
      refine Ro.nil ?_
      refine Nrm.code ?_
      refine Run.ret ?_
      refine Rt.one rfl rfl ?_
      exact ⟨by rw [chkE, if_neg (show ¬ badF h = true from by rw [show badF h = false from hc1]; simp), if_pos hc4]; rfl, S.bl⟩
    ·
      try simp only [Bool.or_eq_true, Bool.and_eq_true, Bool.or_eq_false_iff, Bool.and_eq_false_iff, decide_eq_true_eq, decide_eq_false_iff_not, Bool.not_eq_true', Bool.not_eq_false', Bool.not_eq_true, Bool.not_eq_false] at hc4
      refine Run.skip ?_
      refine Nrm.code ?_
      refine Run.seq ?_
      refine Run.seq ?_
      refine Run.region ?_
      refine mv1 rfl rfl ?_
      refine lenS rfl (S.slI (i := 0) rfl) Tryd.underlying26 rfl rfl rfl ?_
      refine add1 rfl rfl rfl (w64 (by omega)) ?_
      refine fld (o' := 42) rfl fo28_10 rfl rfl rfl rfl ?_
      refine ld1 rfl T26 S (i := 1) rfl rfl rfl rfl rfl ?_
      refine lenS rfl hd.2 Tryd.underlying26 rfl rfl rfl ?_
      refine add1 rfl rfl rfl (w64 (by omega)) ?_
      refine gtr1 rfl rfl rfl ?_
      refine Ro.nil ?_
      refine Nrm.code ?_
      refine Run.cond rfl (fun hc6 => ?_) (fun hc6 => ?_)
      ·
        try simp only [Bool.or_eq_true, Bool.and_eq_true, Bool.or_eq_false_iff, Bool.and_eq_false_iff, decide_eq_true_eq, decide_eq_false_iff_not, Bool.not_eq_true', Bool.not_eq_false', Bool.not_eq_true, Bool.not_eq_false] at hc6
        refine Run.seq ?_
        refine Run.region ?_
        refine asg1 rfl rfl ?_
        refine Ro.nil ?_
        refine Nrm.code ?_
        refine Run.ret ?_
        refine Rt.one rfl rfl ?_
        exact ⟨by rw [chkE, if_neg (show ¬ badF h = true from by rw [show badF h = false from hc1]; simp), if_neg (by omega), if_pos (by omega)], S.bl⟩
      ·
        try simp only [Bool.or_eq_true, Bool.and_eq_true, Bool.or_eq_false_iff, Bool.and_eq_false_iff, decide_eq_true_eq, decide_eq_false_iff_not, Bool.not_eq_true', Bool.not_eq_false', Bool.not_eq_true, Bool.not_eq_false] at hc6
        refine Run.skip ?_
        refine Nrm.code ?_
        refine Run.seq ?_
        refine Run.region ?_
        have hbo := badF_off (h := h) hc1
        refine fld (o' := 3) rfl fo28_3 rfl rfl rfl rfl ?_
        refine ld1 rfl T4 S (i := 1) rfl rfl rfl rfl rfl ?_
        refine fld (o' := 4) rfl fo28_4 rfl rfl rfl rfl ?_
        refine ld1 rfl T3 S (i := 1) rfl rfl rfl rfl rfl ?_
        refine fld (o' := 42) rfl fo28_10 rfl rfl rfl rfl ?_
        refine ld1 rfl T26 S (i := 1) rfl rfl rfl rfl rfl ?_
        refine lenS rfl hd.2 Tryd.underlying26 rfl rfl rfl ?_
        refine calg (vs := [_, _, _]) rfl ⟨⟨_, _, rfl, rfl⟩, ⟨_, _, rfl, rfl⟩, ⟨_, _, rfl, rfl⟩, trivial⟩ k100 rfl (fun hG => c100 _ _ _ _ (by omega)) ?_
        intro w10 B_; have S := S.call B_
        refine asg1 rfl rfl ?_
        refine Ro.nil ?_
        refine Nrm.code ?_
        refine Run.ret ?_
        refine Rt.one rfl rfl ?_
        exact ⟨by rw [chkE, if_neg (show ¬ badF h = true from by rw [show badF h = false from hc1]; simp), if_neg (by omega), if_neg (by omega)], S.bl⟩

set_option maxHeartbeats 1000000 in
theorem c147 (h : Ip4) (o d : Value) (w : World) (hO : OS [] w o h.opts) (hd : BS [] w d h.data) (hol : h.opts.length ≤ 1099511627776) (hdl : h.data.length ≤ 1099511627776) :
    CallsD Tryd.prog 147 #[.agg (encIp4 h o d).toArray] w (.int .i64 (chkE h)) := by
  refine enter Tryd.func147 rfl Tryd.ntmps147 (l := [(0, [], _)]) rfl rfl ?_
  have S := St.refl [] w
  have hpl := putL_len h.opts
  refine Run.seq ?_
  refine Run.region ?_
  refine boxA rfl S rfl ?_
  intro b1 w1 hb1 S B_
  refine asg1 rfl rfl ?_
  refine Ro.nil ?_
  refine Nrm.code ?_
  refine Run.seq ?_
  refine Run.seq ?_
  refine Run.region ?_
  refine fld (o' := 0) rfl fo28_0 rfl rfl rfl rfl ?_
  refine ld1 rfl T3 S (i := 0) rfl rfl rfl rfl rfl ?_
  refine calg (vs := [_, _]) rfl ⟨⟨_, _, rfl, rfl⟩, ⟨_, _, rfl, rfl⟩, trivial⟩ k155 rfl (fun hG => c155 _ _ _) ?_
  intro w2 B_; have S := S.call B_
  refine mv1 rfl rfl ?_
  refine fld (o' := 1) rfl fo28_1 rfl rfl rfl rfl ?_
  refine ld1 rfl T3 S (i := 0) rfl rfl rfl rfl rfl ?_
  refine calg (vs := [_, _]) rfl ⟨⟨_, _, rfl, rfl⟩, ⟨_, _, rfl, rfl⟩, trivial⟩ k155 rfl (fun hG => c155 _ _ _) ?_
  intro w3 B_; have S := S.call B_
  refine pkO rfl rfl rfl rfl rfl rfl ?_
  refine mv1 rfl rfl ?_
  refine fld (o' := 4) rfl fo28_4 rfl rfl rfl rfl ?_
  refine ld1 rfl T3 S (i := 0) rfl rfl rfl rfl rfl ?_
  refine calg (vs := [_, _]) rfl ⟨⟨_, _, rfl, rfl⟩, ⟨_, _, rfl, rfl⟩, trivial⟩ k155 rfl (fun hG => c155 _ _ _) ?_
  intro w4 B_; have S := S.call B_
  refine pkO rfl rfl rfl rfl rfl rfl ?_
  refine mv1 rfl rfl ?_
  refine fld (o' := 4) rfl fo28_4 rfl rfl rfl rfl ?_
  refine ld1 rfl T3 S (i := 0) rfl rfl rfl rfl rfl ?_
  refine rem rfl rfl rfl rfl rfl rfl (fun hG => by first | exact by decide | (simp [allT] at hG; exact by decide)) (fun hG => by first | exact r64 (by omega) | (simp [allT] at hG; exact r64 (by omega))) ?_
  refine neq rfl rfl rfl rfl rfl rfl ?_
  refine pkO rfl rfl rfl rfl rfl rfl ?_
  refine mv1 rfl rfl ?_
  refine fld (o' := 5) rfl fo28_5 rfl rfl rfl rfl ?_
  refine ld1 rfl T3 S (i := 0) rfl rfl rfl rfl rfl ?_
  refine calg (vs := [_, _]) rfl ⟨⟨_, _, rfl, rfl⟩, ⟨_, _, rfl, rfl⟩, trivial⟩ k155 rfl (fun hG => c155 _ _ _) ?_
  intro w5 B_; have S := S.call B_
  refine pkO rfl rfl rfl rfl rfl rfl ?_
  refine mv1 rfl rfl ?_
  refine fld (o' := 6) rfl fo28_6 rfl rfl rfl rfl ?_
  refine ld1 rfl T3 S (i := 0) rfl rfl rfl rfl rfl ?_
  refine calg (vs := [_, _]) rfl ⟨⟨_, _, rfl, rfl⟩, ⟨_, _, rfl, rfl⟩, trivial⟩ k155 rfl (fun hG => c155 _ _ _) ?_
  intro w6 B_; have S := S.call B_
  refine pkO rfl rfl rfl rfl rfl rfl ?_
  refine mv1 rfl rfl ?_
  refine fld (o' := 7) rfl fo28_7 rfl rfl rfl rfl ?_
  refine ldA rfl T24 S (i := 0) rfl rfl rfl (by decide) rfl rfl rfl ?_
  refine calg (vs := [_]) rfl ⟨⟨_, _, rfl, rfl⟩, trivial⟩ k156 rfl (fun hG => c156 _ _) ?_
  intro w7 B_; have S := S.call B_
  refine nt rfl rfl rfl rfl ?_
  refine pkO rfl rfl rfl rfl rfl rfl ?_
  refine mv1 rfl rfl ?_
  refine fld (o' := 24) rfl fo28_8 rfl rfl rfl rfl ?_
  refine ldA rfl T24 S (i := 0) rfl rfl rfl (by decide) rfl rfl rfl ?_
  refine calg (vs := [_]) rfl ⟨⟨_, _, rfl, rfl⟩, trivial⟩ k156 rfl (fun hG => c156 _ _) ?_
  intro w8 B_; have S := S.call B_
  refine nt rfl rfl rfl rfl ?_
  refine pkO rfl rfl rfl rfl rfl rfl ?_
  refine Ro.nil ?_
  refine Nrm.code ?_
  refine Run.cond rfl (fun hc1 => ?_) (fun hc1 => ?_)
  ·
    refine Run.seq ?_
    refine Run.region ?_
    refine asg1 rfl rfl ?_
    refine Ro.nil ?_
    refine Nrm.code ?_
    refine Run.ret ?_
    refine Rt.one rfl rfl ?_
    exact ⟨by rw [chkE, if_pos (show badF h = true from hc1)], S.bl⟩
  ·
    refine Run.skip ?_
    refine Nrm.code ?_
    refine Run.seq ?_
    refine Run.region ?_
    refine fld (o' := 41) rfl fo28_9 rfl rfl rfl rfl ?_
    refine ld1 rfl T25 S (i := 0) rfl rfl rfl rfl rfl ?_
    refine call (vs := [_]) ⟨⟨_, _, rfl, rfl⟩, trivial⟩ k136 rfl (c136 _ _ _ (hO.now S) (by omega)) ?_
    rintro _ w9 ⟨u, rfl, hF⟩
    have S := S.fb hF
    refine mv1 rfl rfl ?_
    refine extr1 rfl rfl rfl ?_
    refine extr1 rfl rfl rfl ?_
    refine asg1 rfl rfl ?_
    refine asg1 rfl rfl ?_
    refine Ro.nil ?_
    refine Nrm.code ?_
    refine Run.seq ?_
    refine Run.seq ?_
    refine Run.region ?_
    refine mv1 rfl rfl ?_
    refine neq1 rfl rfl rfl ?_
    refine Ro.nil ?_
    refine Nrm.code ?_
    refine Run.cond rfl (fun hc4 => ?_) (fun hc4 => ?_)
    ·
      try simp only [Bool.or_eq_true, Bool.and_eq_true, Bool.or_eq_false_iff, Bool.and_eq_false_iff, decide_eq_true_eq, decide_eq_false_iff_not, Bool.not_eq_true', Bool.not_eq_false', Bool.not_eq_true, Bool.not_eq_false] at hc4
      refine Run.seq ?_
      refine Run.region ?_
      refine mv1 rfl rfl ?_
      refine asg1 rfl rfl ?_
      refine Ro.nil ?_
      refine Nrm.code ?_
      refine Run.ret ?_
      refine Rt.one rfl rfl ?_
      exact ⟨by rw [chkE, if_neg (show ¬ badF h = true from by rw [show badF h = false from hc1]; simp), if_pos hc4]; rfl, S.bl⟩
    ·
      try simp only [Bool.or_eq_true, Bool.and_eq_true, Bool.or_eq_false_iff, Bool.and_eq_false_iff, decide_eq_true_eq, decide_eq_false_iff_not, Bool.not_eq_true', Bool.not_eq_false', Bool.not_eq_true, Bool.not_eq_false] at hc4
      refine Run.skip ?_
      refine Nrm.code ?_
      refine Run.seq ?_
      refine Run.seq ?_
      refine Run.region ?_
      refine mv1 rfl rfl ?_
      refine lenS rfl (S.slI (i := 0) rfl) Tryd.underlying26 rfl rfl rfl ?_
      refine add1 rfl rfl rfl (w64 (by omega)) ?_
      refine fld (o' := 42) rfl fo28_10 rfl rfl rfl rfl ?_
      refine ld1 rfl T26 S (i := 1) rfl rfl rfl rfl rfl ?_
      refine lenS rfl hd.2 Tryd.underlying26 rfl rfl rfl ?_
      refine add1 rfl rfl rfl (w64 (by omega)) ?_
      refine gtr1 rfl rfl rfl ?_
      refine Ro.nil ?_
      refine Nrm.code ?_
      refine Run.cond rfl (fun hc6 => ?_) (fun hc6 => ?_)
      ·
        try simp only [Bool.or_eq_true, Bool.and_eq_true, Bool.or_eq_false_iff, Bool.and_eq_false_iff, decide_eq_true_eq, decide_eq_false_iff_not, Bool.not_eq_true', Bool.not_eq_false', Bool.not_eq_true, Bool.not_eq_false] at hc6
        refine Run.seq ?_
        refine Run.region ?_
        refine asg1 rfl rfl ?_
        refine Ro.nil ?_
        refine Nrm.code ?_
        refine Run.ret ?_
        refine Rt.one rfl rfl ?_
        exact ⟨by rw [chkE, if_neg (show ¬ badF h = true from by rw [show badF h = false from hc1]; simp), if_neg (by omega), if_pos (by omega)], S.bl⟩
      ·
        try simp only [Bool.or_eq_true, Bool.and_eq_true, Bool.or_eq_false_iff, Bool.and_eq_false_iff, decide_eq_true_eq, decide_eq_false_iff_not, Bool.not_eq_true', Bool.not_eq_false', Bool.not_eq_true, Bool.not_eq_false] at hc6
        refine Run.skip ?_
        refine Nrm.code ?_
        refine Run.seq ?_
        refine Run.seq ?_
        refine Run.region ?_
        have hbo := badF_off (h := h) hc1
        refine fld (o' := 3) rfl fo28_3 rfl rfl rfl rfl ?_
        refine ld1 rfl T4 S (i := 1) rfl rfl rfl rfl rfl ?_
        refine fld (o' := 4) rfl fo28_4 rfl rfl rfl rfl ?_
        refine ld1 rfl T3 S (i := 1) rfl rfl rfl rfl rfl ?_
        refine fld (o' := 42) rfl fo28_10 rfl rfl rfl rfl ?_
        refine ld1 rfl T26 S (i := 1) rfl rfl rfl rfl rfl ?_
        refine lenS rfl hd.2 Tryd.underlying26 rfl rfl rfl ?_
        refine calg (vs := [_, _, _]) rfl ⟨⟨_, _, rfl, rfl⟩, ⟨_, _, rfl, rfl⟩, ⟨_, _, rfl, rfl⟩, trivial⟩ k114 rfl (fun hG => c114 _ _ _ _ (by omega)) ?_
        intro w10 B_; have S := S.call B_
        refine Ro.nil ?_
        refine Nrm.code ?_
        refine Run.cond rfl (fun hc8 => ?_) (fun hc8 => ?_)
        ·
          try simp only [Bool.or_eq_true, Bool.and_eq_true, Bool.or_eq_false_iff, Bool.and_eq_false_iff, decide_eq_true_eq, decide_eq_false_iff_not, Bool.not_eq_true', Bool.not_eq_false', Bool.not_eq_true, Bool.not_eq_false] at hc8
          refine Run.seq ?_
          refine Run.region ?_
          refine asg1 rfl rfl ?_
          refine Ro.nil ?_
          refine Nrm.code ?_
          refine Run.ret ?_
          refine Rt.one rfl rfl ?_
          have hfr := fragE_or h.mf h.off h.data.length
          exact ⟨by rw [chkE, if_neg (show ¬ badF h = true from by rw [show badF h = false from hc1]; simp), if_neg (by omega), if_neg (by omega)]; rw [show fragE h.mf h.off h.data.length = 66 from by omega], S.bl⟩
        ·
          try simp only [Bool.or_eq_true, Bool.and_eq_true, Bool.or_eq_false_iff, Bool.and_eq_false_iff, decide_eq_true_eq, decide_eq_false_iff_not, Bool.not_eq_true', Bool.not_eq_false', Bool.not_eq_true, Bool.not_eq_false] at hc8
          refine Run.skip ?_
          refine Nrm.code ?_
          refine Run.seq ?_
          refine Run.region ?_
          refine asg1 rfl rfl ?_
          refine Ro.nil ?_
          refine Nrm.code ?_
          refine Run.ret ?_
          refine Rt.one rfl rfl ?_
          have hfr := fragE_or h.mf h.off h.data.length
          exact ⟨by rw [chkE, if_neg (show ¬ badF h = true from by rw [show badF h = false from hc1]; simp), if_neg (by omega), if_neg (by omega)]; rw [show fragE h.mf h.off h.data.length = 0 from by omega], S.bl⟩

end Go.Proofs.YtkahmepenjhcpaaDoor.W
