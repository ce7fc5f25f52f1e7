/- The walk of weirlaw6.Ip4Back. No statement of the seat is proved here. -/
import Derived.Test.YtkahmepenjhcpaaDoorSg
import Derived.Test.YtkahmepenjhcpaaDoorFw
namespace Go.Proofs.YtkahmepenjhcpaaDoor.W
open Go
set_option linter.unusedSimpArgs false
set_option linter.unusedVariables false


theorem chkE_bd (h : Ip4) : 0 ≤ chkE h ∧ chkE h ≤ 68 := by
  have := fragE_or h.mf h.off h.data.length
  have : putE h.opts = 0 ∨ putE h.opts = 65 := by unfold putE; split <;> simp
  unfold chkE
  (repeat' split) <;> omega
theorem parE_bd (b : List Int) : 0 ≤ parE b ∧ parE b ≤ 66 := by
  have := optE_le (optB4 b)
  have := fragE_or (decide (b.getD 6 0 / 32 % 2 = 1)) (8 * offW b) ((totN b : Int) - hdN b)
  unfold parE
  (repeat' split) <;> omega
theorem ser_len {h : Ip4} (hc : chkE h = 0) : (serL h).length = 20 + (putL h.opts).length + h.data.length := by
  unfold serL; rw [if_pos hc, serB_eq]; simp [hd20]; omega
theorem ser_good {h : Ip4} (hc : chkE h = 0) (h1 : h.src.ok) (h2 : h.dst.ok) (hd : ∀ o ∈ h.opts, W.byt o.data) : sumS (((serL h).drop 0).take (20 + (putL h.opts).length - 0)) = 65535 := by
  have hl := putL_len h.opts
  unfold serL; rw [if_pos hc, serB_eq, ← List.append_assoc]
  rw [show (hd20 h ++ putL h.opts ++ h.data).drop 0 = hd20 h ++ putL h.opts ++ h.data from rfl, List.take_left' (by simp [hd20]; omega)]
  exact sum_right (headB_byt hc h1 h2 hd) (by omega)

set_option maxHeartbeats 1000000 in
theorem c3 (h : Ip4) (o d : Value) (w : World) (hO : OS [] w o h.opts) (hd : BS [] w d h.data) (hol : h.opts.length ≤ 1099511627776) (hdl : h.data.length ≤ 1099511627776) (hs : h.src.ok) (ht : h.dst.ok) (hdo : ∀ o ∈ h.opts, o.data.length ≤ 140737488355328) (hg : GV [] w 0 130 (W4.map i64)) :
    CallsD Tryd.prog 3 #[.agg (encIp4 h o d).toArray] w (.bool true) := by
  refine enter Tryd.func3 rfl Tryd.ntmps3 (l := [(0, [], _)]) rfl rfl ?_
  have S := St.refl [] w
  refine Run.seq ?_
  refine Run.region ?_
  refine boxA rfl S rfl ?_
  intro b1 w1 hb1 S B_
  refine asg1 rfl rfl ?_
  refine Ro.nil ?_
  refine Nrm.code ?_
  refine Run.seq ?_
  refine Run.region ?_
  refine calg (vs := []) rfl trivial k28 rfl (fun hG => c28 _ (hg.now S)) ?_
  intro w2 B_; have S := S.call B_
  refine asg1 rfl rfl ?_
  refine Ro.nil ?_
  refine Nrm.code ?_
  refine Run.seq ?_
  refine Run.region ?_
  refine ldW rfl T28 S (i := 0) rfl rfl rfl rfl rfl ?_
  have S0 := S
  refine call (vs := [_]) ⟨⟨_, _, rfl, rfl⟩, trivial⟩ k29 rfl (c29 _ _ _ _ (hO.now S) (hd.now S) hol hdl hdo) ?_
  rintro _ w3 ⟨oc, dc, rfl, B1, hcl⟩
  have hcl2 := hcl _ (S0.lt)
  have Sb := S0.call B1
  have hO := hO.st Sb
  have hd := hd.st Sb
  have hg := hg.st Sb
  have S := Sb.rebase
  have hoc := hcl2.1
  have hdc := hcl2.2
  refine alc T28 S rfl ?_
  intro b4 w4 hb4 S B_
  refine stW rfl rfl T28 rfl rfl (one_cons rfl (one_cons rfl (one_cons rfl (one_cons rfl (one_cons rfl (one_cons rfl (one_cons rfl (one_cons rfl (one_cons rfl (one_cons rfl (one_cons rfl (one_cons rfl (one_cons rfl (one_cons rfl (one_cons rfl (one_cons rfl (one_cons rfl (one_cons rfl (one_cons rfl (one_cons rfl (one_cons rfl (one_cons rfl (one_cons rfl (one_cons rfl (one_cons rfl (one_cons rfl (one_cons rfl (one_cons rfl (one_cons rfl (one_cons rfl (one_cons rfl (one_cons rfl (one_cons rfl (one_cons rfl (one_cons rfl (one_cons rfl (one_cons rfl (one_cons rfl (one_cons rfl (one_cons rfl (one_cons rfl (one_cons hoc.one (one_cons hdc.one one_nil))))))))))))))))))))))))))))))))))))))))))) S (i := 0) rfl rfl ?_
  intro w5 S
  refine Ro.nil ?_
  refine Nrm.code ?_
  refine Run.seq ?_
  refine Run.region ?_
  refine ldW rfl T28 S (i := 1) rfl rfl rfl rfl rfl ?_
  refine call (vs := [_]) ⟨⟨_, _, rfl, rfl⟩, trivial⟩ k30 rfl (c30 _ _ _ _ (hO.now S) (hd.now S) (by exact hol) (by exact hdl) hs ht (hg.now S)) ?_
  rintro _ w6 ⟨u5, rfl, hF⟩
  have S := S.fb hF
  have hb5 := S.layB (serL_byt hs ht hO.byt hd.1)
  have Sc := S.drop0
  have hO := hO.st Sc
  have hd := hd.st Sc
  have hg := hg.st Sc
  have hoc := hoc.st Sc
  have hdc := hdc.st Sc
  have S := Sc.rebase
  refine mv1 rfl rfl ?_
  refine extr1 rfl rfl rfl ?_
  refine extr1 rfl rfl rfl ?_
  refine asg1 rfl rfl ?_
  refine asg1 rfl rfl ?_
  refine Ro.nil ?_
  refine Nrm.code ?_
  refine Run.seq ?_
  refine Run.seq ?_
  refine Run.draw (by kernel_rfl) (by kernel_rfl) S ?_
  refine qmv rfl rfl rfl rfl ?_
  refine qnt rfl rfl rfl rfl ?_
  refine qmv rfl rfl rfl rfl ?_
  refine qmv rfl rfl rfl rfl ?_
  refine qcal (vs := [_]) rfl ⟨⟨_, _, rfl, rfl⟩, trivial⟩ k31 rfl (fun _ _ S B => S.call B) (fun hG w_ S => c31 (chkE h) _ (by have := chkE_bd h; omega)) ?_
  refine qldW rfl T28 (fun _ S => S) (i := 1) rfl rfl rfl rfl rfl ?_
  refine qcal (vs := [_]) rfl ⟨⟨_, _, rfl, rfl⟩, trivial⟩ k32 rfl (fun _ _ S B => S.call B) (fun hG w_ S => c32 _ _ _ _ (hO.now S) (hd.now S) hol hdl) ?_
  refine qcal (vs := [_]) rfl ⟨⟨_, _, rfl, rfl⟩, trivial⟩ k31 rfl (fun _ _ S B => S.call B) (fun hG w_ S => c31 (chkE h) _ (by have := chkE_bd h; omega)) ?_
  refine qneq rfl rfl rfl rfl rfl rfl ?_
  refine qpkO rfl rfl rfl rfl rfl rfl ?_
  refine Qo.nil (fun w7 S => ?_)
  refine Nrm.code ?_
  refine Run.cond rfl (fun hc4 => ?_) (fun hc4 => ?_)
  ·
    try simp only [Bool.or_eq_true, Bool.and_eq_true, Bool.or_eq_false_iff, Bool.and_eq_false_iff, decide_eq_true_eq, decide_eq_false_iff_not, Bool.not_eq_true', Bool.not_eq_false', Bool.not_eq_true, Bool.not_eq_false] at hc4
    exfalso; simp at hc4
  ·
    try simp only [Bool.or_eq_true, Bool.and_eq_true, Bool.or_eq_false_iff, Bool.and_eq_false_iff, decide_eq_true_eq, decide_eq_false_iff_not, Bool.not_eq_true', Bool.not_eq_false', Bool.not_eq_true, Bool.not_eq_false] at hc4
    refine Run.skip ?_
    refine Nrm.code ?_
    refine Run.seq ?_
    refine Run.seq ?_
    refine Run.region ?_
    refine mv1 rfl rfl ?_
    refine calg (vs := [_]) rfl ⟨⟨_, _, rfl, rfl⟩, trivial⟩ k31 rfl (fun hG => c31 (chkE h) _ (by have := chkE_bd h; omega)) ?_
    intro w8 B_; have S := S.call B_
    refine neq1 rfl rfl rfl ?_
    refine Ro.nil ?_
    refine Nrm.code ?_
    refine Run.cond rfl (fun hc6 => ?_) (fun hc6 => ?_)
    ·
      try simp only [Bool.or_eq_true, Bool.and_eq_true, Bool.or_eq_false_iff, Bool.and_eq_false_iff, decide_eq_true_eq, decide_eq_false_iff_not, Bool.not_eq_true', Bool.not_eq_false', Bool.not_eq_true, Bool.not_eq_false] at hc6
      refine Run.seq ?_
      refine Run.region ?_
      refine mv1 rfl rfl ?_
      refine lenS rfl hb5.2 Tryd.underlying26 rfl rfl rfl ?_
      refine eql1 rfl rfl rfl ?_
      refine asg1 rfl rfl ?_
      refine Ro.nil ?_
      refine Nrm.code ?_
      refine Run.ret ?_
      refine Rt.one rfl rfl ?_
      exact ⟨by rw [serL, if_neg hc6]; rfl, (Sb.trans (Sc.trans S)).bl⟩
    ·
      try simp only [Bool.or_eq_true, Bool.and_eq_true, Bool.or_eq_false_iff, Bool.and_eq_false_iff, decide_eq_true_eq, decide_eq_false_iff_not, Bool.not_eq_true', Bool.not_eq_false', Bool.not_eq_true, Bool.not_eq_false] at hc6
      replace hc6 : chkE h = 0 := by omega
      have hodt := hO.byt
      have hsl := ser_len hc6
      have hbk := ser_back hc6 hs ht hodt
      have hse : serL h = serB h := by unfold serL; rw [if_pos hc6]
      rw [← hse] at hbk
      have hA := hbk.1
      have hS2 : sameH (parH (serL h)) h = true := by rw [hbk.2]; exact normH_same (chkE_zero hc6).1
      have hC := ser_canon hc6 hs ht hodt
      have hgood := ser_good hc6 hs ht hodt
      have hpk := parH_ok hb5.1
      have hz3 := (chkE_zero hc6).2.2.1
      refine Run.skip ?_
      refine Nrm.code ?_
      refine Run.seq ?_
      refine Run.seq ?_
      refine Run.region ?_
      refine mv1 rfl rfl ?_
      refine lenS rfl hb5.2 Tryd.underlying26 rfl rfl rfl ?_
      refine fld (o' := 42) rfl fo28_10 rfl rfl rfl rfl ?_
      refine ld1 rfl T26 S (i := 1) rfl rfl rfl rfl rfl ?_
      refine lenS rfl hd.2 Tryd.underlying26 rfl rfl rfl ?_
      refine lss1 rfl rfl rfl ?_
      refine Ro.nil ?_
      refine Nrm.code ?_
      refine Run.cond rfl (fun hc8 => ?_) (fun hc8 => ?_)
      ·
        try simp only [Bool.or_eq_true, Bool.and_eq_true, Bool.or_eq_false_iff, Bool.and_eq_false_iff, decide_eq_true_eq, decide_eq_false_iff_not, Bool.not_eq_true', Bool.not_eq_false', Bool.not_eq_true, Bool.not_eq_false] at hc8
        exfalso; omega
      ·
        try simp only [Bool.or_eq_true, Bool.and_eq_true, Bool.or_eq_false_iff, Bool.and_eq_false_iff, decide_eq_true_eq, decide_eq_false_iff_not, Bool.not_eq_true', Bool.not_eq_false', Bool.not_eq_true, Bool.not_eq_false] at hc8
        refine Run.skip ?_
        refine Nrm.code ?_
        refine Run.seq ?_
        refine Run.region ?_
        refine mv1 rfl rfl ?_
        refine call (vs := [_]) ⟨⟨_, _, rfl, rfl⟩, trivial⟩ k33 rfl (c33 _ _ _ (hb5.now S) (hg.now S)) ?_
        rintro _ w9 ⟨o7, d7, vs7, rfl, hF, hw7⟩
        have S := S.fo hF
        have hd7 := (hw7 _ _ hb5).2
        have ho7 := (hw7 _ _ hb5).1
        refine mv1 rfl rfl ?_
        refine extr1 rfl rfl rfl ?_
        refine extr1 rfl rfl rfl ?_
        refine alc T28 S rfl ?_
        intro b7 w10 hb7 S B_
        refine stW rfl rfl T28 rfl rfl (one_cons rfl (one_cons rfl (one_cons rfl (one_cons rfl (one_cons rfl (one_cons rfl (one_cons rfl (one_cons rfl (one_cons rfl (one_cons rfl (one_cons rfl (one_cons rfl (one_cons rfl (one_cons rfl (one_cons rfl (one_cons rfl (one_cons rfl (one_cons rfl (one_cons rfl (one_cons rfl (one_cons rfl (one_cons rfl (one_cons rfl (one_cons rfl (one_cons rfl (one_cons rfl (one_cons rfl (one_cons rfl (one_cons rfl (one_cons rfl (one_cons rfl (one_cons rfl (one_cons rfl (one_cons rfl (one_cons rfl (one_cons rfl (one_cons rfl (one_cons rfl (one_cons rfl (one_cons rfl (one_cons rfl (one_cons (S.slI (i := 1) rfl).one (one_cons hd7.one one_nil))))))))))))))))))))))))))))))))))))))))))) S (i := 0) rfl rfl ?_
        intro w11 S
        refine asg1 rfl rfl ?_
        refine Ro.nil ?_
        refine Nrm.code ?_
        refine Run.seq ?_
        refine Run.region ?_
        refine mv1 rfl rfl ?_
        refine calg (vs := [_]) rfl ⟨⟨_, _, rfl, rfl⟩, trivial⟩ k31 rfl (fun hG => c31 (parE (serL h)) _ (by have := parE_bd (serL h); omega)) ?_
        intro w12 B_; have S := S.call B_
        refine eql1 rfl rfl rfl ?_
        refine mv1 rfl rfl ?_
        refine ldW rfl T28 S (i := 0) rfl rfl rfl rfl rfl ?_
        refine ldW rfl T28 S (i := 2) rfl rfl rfl rfl rfl ?_
        refine calg (vs := [_, _]) rfl ⟨⟨_, _, rfl, rfl⟩, ⟨_, _, rfl, rfl⟩, trivial⟩ k34 rfl (fun hG => c34 _ _ _ _ _ _ _ (S.osI (i := 1) rfl (ho7.now S)) (hd7.now S) (hoc.now S) (hdc.now S) (by have := hpk.2.2.1; omega)) ?_
        intro w13 B_; have S := S.call B_
        refine pkA rfl rfl rfl rfl rfl rfl ?_
        refine mv1 rfl rfl ?_
        refine mv rfl rfl rfl rfl ?_
        refine calg (vs := [_]) rfl ⟨⟨_, _, rfl, rfl⟩, trivial⟩ k35 rfl (fun hG => c35 _ _ _ (hb5.now S) (hg.now S)) ?_
        intro w14 B_; have S := S.call B_
        refine pkA rfl rfl rfl rfl rfl rfl ?_
        refine mv1 rfl rfl ?_
        refine mv rfl rfl rfl rfl ?_
        refine mv rfl rfl rfl rfl ?_
        refine lenS rfl hb5.2 Tryd.underlying26 rfl rfl rfl ?_
        refine fld (o' := 42) rfl fo28_10 rfl rfl rfl rfl ?_
        refine ld1 rfl T26 S (i := 3) rfl rfl rfl rfl rfl ?_
        refine lenS rfl hd.2 Tryd.underlying26 rfl rfl rfl ?_
        refine sub rfl rfl rfl rfl rfl rfl (fun hG => by first | exact (show IntKind.i64.wrap (((serL h).length : Int) - (h.data.length : Int)) = ((20 + (putL h.opts).length : Nat) : Int) from by rw [w64 (by omega)]; omega) | (simp [allT] at hG; exact (show IntKind.i64.wrap (((serL h).length : Int) - (h.data.length : Int)) = ((20 + (putL h.opts).length : Nat) : Int) from by rw [w64 (by omega)]; omega))) ?_
        refine slC (lo := 0) (hi := 20 + (putL h.opts).length) (mx := capV u5) rfl hb5 e26 rfl rfl rfl (i1 := none) (i2 := some (20 + (putL h.opts).length)) (i3 := none) trivial ⟨_, _, _, rfl, rfl⟩ trivial rfl rfl rfl (fun h => by first | rfl | cases h) (fun _ => by have hcap := hb5.cap; exact (show 0 ≤ 20 + (putL h.opts).length ∧ 20 + (putL h.opts).length ≤ (serL h).length ∧ 20 + (putL h.opts).length ≤ capV u5 ∧ capV u5 ≤ capV u5 from by omega)) ?_
        refine Ro.strip (by simp [allT, hA, hS2, hC]) ?_
        have hv64 := hb5.cut (lo := 0) (hi := 20 + (putL h.opts).length) (mx := capV u5) (by have := hb5.cap; omega)
        refine Ro.gtrue rfl (by simp [allT, hA, hS2, hC]) ?_
        refine bsl e102 (qs := [(_, _)]) ⟨⟨_, _, _, rfl, rfl, cells1 hv64.one, rfl, List.cons_ne_nil _ _⟩, trivial⟩ rfl rfl rfl rfl S ?_
        intro u65 w15 S B_
        have hgd : CallsD Tryd.prog 36 #[u65] w15 (.bool true) := by
          have := c36 u65 [_] w15 ⟨[_], S.slI (i := 0) rfl, hv64.now S, trivial⟩ (by rw [flat1, List.length_take]; omega) (by simp)
          rw [flat1, decide_eq_true hgood] at this
          exact this
        refine calg (vs := [_]) rfl ⟨⟨_, _, rfl, rfl⟩, trivial⟩ k36 rfl (fun hG => hgd) ?_
        intro w16 B_; have S := S.call B_
        refine pkA rfl rfl rfl rfl rfl rfl ?_
        refine asg1 rfl rfl ?_
        refine Ro.nil ?_
        refine Nrm.code ?_
        refine Run.ret ?_
        refine Rt.one rfl rfl ?_
        exact ⟨by simp [hA, hS2, hC], (Sb.trans (Sc.trans S)).bl⟩

end Go.Proofs.YtkahmepenjhcpaaDoor.W
