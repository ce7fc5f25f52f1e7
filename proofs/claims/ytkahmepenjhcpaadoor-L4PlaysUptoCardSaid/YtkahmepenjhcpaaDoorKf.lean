/- Texts of the proofs of this seat, packed into one (Lu Db Lv Rm Rk). No statement of the seat is proved here. -/
import Derived.Below
import Derived.ChangeSame
import Derived.ProofKit
import Derived.Test.YtkahmepenjhcpaaDoorKe
/- Contracts: the calls of layer 9 over TCP. No statement of the seat is proved here. -/
namespace Go.Proofs.YtkahmepenjhcpaaDoor.W
open Go
set_option linter.unusedSimpArgs false
set_option linter.unusedVariables false
set_option maxHeartbeats 1000000 in
theorem c121 (p : Op9) (vB ud to_ td vL : Value) (w : World) (hto : OS [] w to_ p.t.opts) (htd : BS [] w td p.t.data) (hL : OS [] w vL p.l) (htO : p.t.opts.length ≤ 1099511627000) (htoo : ∀ o ∈ p.t.opts, o.data.length ≤ 1099511627000) (htdl : p.t.data.length ≤ 1099511627000) (hll : p.l.length ≤ 1099511627000) (hld : ∀ o ∈ p.l, o.data.length ≤ 1099511627000) (hs : p.s.ok) (ht : p.d.ok) (hg1 : GV [] w 1 163 (W16.map i64)) (hg2 : GV [] w 2 166 (W10.map i64)) (hg3 : GV [] w 3 183 (lenT.map u64)) :
  CallsD Tryd.prog 121 #[.agg (encOp9 p vB ud to_ td vL).toArray] w (.bool true) := by
 refine enter Tryd.func121 rfl Tryd.ntmps121 (l := [(0, [], _)]) rfl rfl ?_
 have S := St.refl [] w
 obtain ⟨dsO, htoS, htoB⟩ := hto.parts
 obtain ⟨dsL, hLS, hLB⟩ := hL.parts
 have hol' : p.t.opts.length ≤ 1099511627776 := by omega
 have hdl' : p.t.data.length ≤ 1099511627776 := by omega
 have hoo' : ∀ o ∈ p.t.opts, o.data.length ≤ 1099511627776 := fun o h => by have := htoo o h; omega
 have hll' : p.l.length ≤ 1099511627776 := by omega
 have hld' : ∀ o ∈ p.l, o.data.length ≤ 1099511627776 := fun o h => by have := hld o h; omega
 have hce := chkT_bd p.t
 have hpe := tputE_or p.l
 have hpb := putTE_bd p.s p.d p.t
 have hodt := hto.byt
 refine Run.seq ?_
 refine Run.region ?_
 refine boxA rfl S rfl ?_
 intro b1 w1 hb1 S B_
 refine asg1 rfl rfl ?_
 refine Ro.nil ?_
 refine Nrm.code ?_
 refine Run.seq ?_
 refine Run.region ?_
 refine fld (o' := 40) rfl fo158_5 rfl rfl rfl rfl ?_
 refine ldA (cs := encTcp p.t to_ td) rfl T82 S (i := 0) rfl rfl rfl (by decide) rfl rfl rfl ?_
 refine alc T82 S rfl ?_
 intro b3 w2 hb3 S B_
 refine stW rfl rfl T82 rfl rfl (one_cons rfl (one_cons rfl (one_cons rfl (one_cons rfl (one_cons rfl (one_cons rfl (one_cons rfl (one_cons hto.one (one_cons htd.one one_nil))))))))) S (i := 0) rfl rfl ?_
 intro w3 S
 refine Ro.nil ?_
 refine Nrm.code ?_
 refine Run.seq ?_
 refine Run.region ?_
 refine fld (o' := 8) rfl fo82_8 rfl rfl rfl rfl ?_
 refine ld1 rfl T26 S (i := 0) rfl rfl rfl rfl rfl ?_
 refine call (vs := [_]) ⟨⟨_, _, rfl, rfl⟩, trivial⟩ k66 rfl (c66 _ _ _ (htd.now S) (by omega)) ?_
 rintro u4 w4 hF
 have S := S.fb hF
 have hby_u4 : byt (_ ++ marks) := byt_app htd.1 marks_byt
 obtain ⟨hu4, S⟩ := S.layBI (i := 0) rfl rfl hby_u4
 obtain ⟨N1, hN1, S_1⟩ := S.reb
 have hto := hto.st S; rw [hN1] at hto
 have htd := htd.st S; rw [hN1] at htd
 have hL := hL.st S; rw [hN1] at hL
 have hg1 := hg1.st S; rw [hN1] at hg1
 have hg2 := hg2.st S; rw [hN1] at hg2
 have hg3 := hg3.st S; rw [hN1] at hg3
 have htoS := htoS.st S; rw [hN1] at htoS
 have hLS := hLS.st S; rw [hN1] at hLS
 rw [hN1] at hu4
 have SS := S
 have S := S_1
 refine asg1 rfl rfl ?_
 refine Ro.nil ?_
 refine Nrm.code ?_
 refine Run.seq ?_
 refine Run.region ?_
 refine fld (o' := 7) rfl fo82_7 rfl rfl rfl rfl ?_
 refine ld1 rfl T25 S (i := 0) rfl rfl rfl rfl rfl ?_
 have S0 := S
 refine call (vs := [_]) ⟨⟨_, _, rfl, rfl⟩, trivial⟩ k152 rfl (c152 _ _ _ (hto.now S) hol' hoo') ?_
 rintro _ w5 ⟨m5, w6, rfl, B1, hq⟩
 have S := S.call B1
 have hm5 := (hq _ S0.lt).1
 have hw6 := (hq _ S0.lt).2
 obtain ⟨N2, hN2, S_2⟩ := S.reb
 have hto := hto.st S; rw [hN2] at hto
 have htd := htd.st S; rw [hN2] at htd
 have hL := hL.st S; rw [hN2] at hL
 have hg1 := hg1.st S; rw [hN2] at hg1
 have hg2 := hg2.st S; rw [hN2] at hg2
 have hg3 := hg3.st S; rw [hN2] at hg3
 have htoS := htoS.st S; rw [hN2] at htoS
 have hLS := hLS.st S; rw [hN2] at hLS
 have hu4 := hu4.st S; rw [hN2] at hu4
 rw [hN2] at hm5
 rw [hN2] at hw6
 have SS := SS.tran hN1 S
 have S := S_2
 refine mv1 rfl rfl ?_
 refine extr1 rfl rfl rfl ?_
 refine extr1 rfl rfl rfl ?_
 refine asg1 rfl rfl ?_
 refine asg1 rfl rfl ?_
 refine Ro.nil ?_
 refine Nrm.code ?_
 refine Run.seq ?_
 refine Run.region ?_
 refine mv1 rfl rfl ?_
 refine fld (o' := 40) rfl fo158_5 rfl rfl rfl rfl ?_
 refine fld (o' := 48) rfl fo82_8 rfl rfl rfl rfl ?_
 refine ld1 rfl T26 S (i := 1) rfl rfl rfl rfl rfl ?_
 refine lenS rfl htd.2 Tryd.underlying26 rfl rfl rfl ?_
 refine slC (lo := 0) (hi := p.t.data.length) (mx := capV u4) rfl hu4 e26 rfl rfl rfl (i1 := none) (i2 := some (p.t.data.length)) (i3 := none) trivial ⟨_, _, _, rfl, rfl⟩ trivial rfl rfl rfl (fun h => by first | rfl | cases h) (fun _ => by have := hu4.cap; rw [List.length_append] at *; omega) ?_
 have hd4 := hu4.cutM
 refine fld (o' := 8) rfl fo82_8 rfl rfl rfl rfl ?_
 refine st1 rfl rfl T26 hd4.one S (i := 0) rfl rfl rfl ?_
 intro w6 S
 refine Ro.nil ?_
 refine Nrm.code ?_
 refine Run.seq ?_
 refine Run.region ?_
 refine mv1 rfl rfl ?_
 refine fld (o' := 40) rfl fo158_5 rfl rfl rfl rfl ?_
 refine fld (o' := 47) rfl fo82_7 rfl rfl rfl rfl ?_
 refine ld1 rfl T25 S (i := 1) rfl rfl rfl rfl rfl ?_
 refine lenS rfl htoS Tryd.underlying25 rfl rfl rfl ?_
 obtain ⟨ms_, hmS_, hmB_⟩ := hm5.parts
 refine slS (v := m5) (lo := 0) (hi := p.t.opts.length) (mx := capV m5) rfl hmS_ e25 rfl rfl rfl (i1 := none) (i2 := some p.t.opts.length) (i3 := none) trivial ⟨_, _, _, rfl, rfl⟩ trivial rfl rfl rfl (fun h => by first | rfl | cases h) (fun _ => by have := hmS_.cap; rw [List.length_append] at *; omega) ?_
 intro vc5 hvc_
 have ho5 := OS.take hmB_ hmB_.len (by rw [List.length_append]; omega) (hvc_ trivial).1
 rw [show (p.t.opts ++ [(⟨99, []⟩ : Opt)]).take p.t.opts.length = p.t.opts from by simp] at ho5
 refine fld (o' := 7) rfl fo82_7 rfl rfl rfl rfl ?_
 refine st1 rfl rfl T25 ho5.one S (i := 0) rfl rfl rfl ?_
 intro w7 S
 have S : St _ _ [.var b3 82 (encTcp p.t vc5 (cut u4 0 p.t.data.length (capV u4))), _] w7 := S
 refine Ro.nil ?_
 refine Nrm.code ?_
 refine Run.seq ?_
 refine Run.region ?_
 refine fld (o' := 49) rfl fo158_6 rfl rfl rfl rfl ?_
 refine ld1 rfl T25 S (i := 1) rfl rfl rfl rfl rfl ?_
 have S0 := S
 refine call (vs := [_]) ⟨⟨_, _, rfl, rfl⟩, trivial⟩ k152 rfl (c152 _ _ _ (hL.now S) hll' hld') ?_
 rintro _ w8 ⟨m7, w8, rfl, B1, hq⟩
 have S := S.call B1
 have hm7 := (hq _ S0.lt).1
 have hw8 := (hq _ S0.lt).2
 obtain ⟨N3, hN3, S_3⟩ := S.reb
 have hto := hto.st S; rw [hN3] at hto
 have htd := htd.st S; rw [hN3] at htd
 have hL := hL.st S; rw [hN3] at hL
 have hg1 := hg1.st S; rw [hN3] at hg1
 have hg2 := hg2.st S; rw [hN3] at hg2
 have hg3 := hg3.st S; rw [hN3] at hg3
 have htoS := htoS.st S; rw [hN3] at htoS
 have hLS := hLS.st S; rw [hN3] at hLS
 have hu4 := hu4.st S; rw [hN3] at hu4
 have hm5 := hm5.st S; rw [hN3] at hm5
 have hw6 := hw6.st S; rw [hN3] at hw6
 have hd4 := hd4.st S; rw [hN3] at hd4
 have ho5 := ho5.st S; rw [hN3] at ho5
 rw [hN3] at hm7
 rw [hN3] at hw8
 have SS := SS.tran hN2 S
 have S := S_3
 refine mv1 rfl rfl ?_
 refine extr1 rfl rfl rfl ?_
 refine extr1 rfl rfl rfl ?_
 refine asg1 rfl rfl ?_
 refine asg1 rfl rfl ?_
 refine Ro.nil ?_
 refine Nrm.code ?_
 refine Run.seq ?_
 refine Run.region ?_
 refine asg1 rfl rfl ?_
 refine Ro.nil ?_
 refine Nrm.code ?_
 refine Run.seq ?_
 refine Run.seq ?_
 refine Run.region ?_
 refine fld (o' := 0) rfl fo158_0 rfl rfl rfl rfl ?_
 refine ld1 rfl T3 S (i := 1) rfl rfl rfl rfl rfl ?_
 refine Ro.nil ?_
 refine Nrm.code ?_
 refine Run.block ?_
 refine Run.seq ?_
 refine Run.region ?_
 refine eql1 rfl rfl rfl ?_
 refine asg1 rfl rfl ?_
 refine Ro.nil ?_
 refine Nrm.code ?_
 refine Run.cond rfl (fun hc9 => ?_) (fun hc9 => ?_)
 ·
  try simp only [Bool.or_eq_true, Bool.and_eq_true, Bool.or_eq_false_iff, Bool.and_eq_false_iff, decide_eq_true_eq, decide_eq_false_iff_not, Bool.not_eq_true', Bool.not_eq_false', Bool.not_eq_true, Bool.not_eq_false] at hc9
  refine Run.seq ?_
  refine Run.region ?_
  refine ldW rfl T82 S (i := 0) rfl rfl rfl rfl rfl ?_
  refine calg (vs := [_]) rfl ⟨⟨_, _, rfl, rfl⟩, trivial⟩ k64 rfl (fun hG => c64 p.t vc5 (cut u4 0 p.t.data.length (capV u4)) _ (ho5.now S) (hd4.now S) hol' hoo' hdl' (hg3.now S)) ?_
  intro w9 B_; have S := S.call B_
  refine asg1 rfl rfl ?_
  refine Ro.nil ?_
  refine Nrm.code ?_
  refine Run.draw (by kernel_rfl) (by kernel_rfl) S ?_
  refine qmv rfl rfl rfl rfl ?_
  refine qcal (vs := [_]) rfl ⟨⟨_, _, rfl, rfl⟩, trivial⟩ k56 rfl (fun _ _ S B => S.call B) (fun hG w_ S => c56 (chkT p.t) _ (by have := chkT_bd p.t; omega)) ?_
  refine qfld (o' := 40) rfl fo158_5 rfl rfl rfl rfl ?_
  refine qldA (cs := encTcp p.t to_ td) rfl T82 (fun _ S => S) (i := 1) rfl rfl rfl (by decide) rfl rfl rfl ?_
  refine qcal (vs := [_]) rfl ⟨⟨_, _, rfl, rfl⟩, trivial⟩ k86 rfl (fun _ _ S B => S.call B) (fun hG w_ S => c86 p.t to_ td _ (hto.now S) (htd.now S) hol' hoo' hdl') ?_
  refine qeql rfl rfl rfl rfl rfl rfl ?_
  refine qasg rfl rfl rfl rfl ?_
  refine Qo.nil (fun w10 S => ?_)
  refine Nrm.blk ?_
  refine Nrm.code ?_
  refine Run.seq ?_
  refine Run.region ?_
  refine mv1 rfl rfl ?_
  refine mv1 rfl rfl ?_
  refine ldW rfl T82 S (i := 0) rfl rfl rfl rfl rfl ?_
  refine fld (o' := 40) rfl fo158_5 rfl rfl rfl rfl ?_
  refine ldA (cs := encTcp p.t to_ td) rfl T82 S (i := 1) rfl rfl rfl (by decide) rfl rfl rfl ?_
  refine calg (vs := [_, _]) rfl ⟨⟨_, _, rfl, rfl⟩, ⟨_, _, rfl, rfl⟩, trivial⟩ k63 rfl (fun hG => c63 p.t p.t _ _ _ _ _ (ho5.now S) (hd4.now S) (hto.now S) (htd.now S) (by exact hol')) ?_
  intro w11 B_; have S := S.call B_
  refine pkA rfl rfl rfl rfl rfl rfl ?_
  refine mv1 rfl rfl ?_
  refine mv rfl rfl rfl rfl ?_
  refine fld (o' := 40) rfl fo158_5 rfl rfl rfl rfl ?_
  refine fld (o' := 48) rfl fo82_8 rfl rfl rfl rfl ?_
  refine ld1 rfl T26 S (i := 1) rfl rfl rfl rfl rfl ?_
  refine calg (vs := [_, _]) rfl ⟨⟨_, _, rfl, rfl⟩, ⟨_, _, rfl, rfl⟩, trivial⟩ k68 rfl (fun hG => c68 _ _ _ _ _ (hu4.now S) (htd.now S) (by omega)) ?_
  intro w12 B_; have S := S.call B_
  refine pkA rfl rfl rfl rfl rfl rfl ?_
  refine mv1 rfl rfl ?_
  refine mv rfl rfl rfl rfl ?_
  refine mv rfl rfl rfl rfl ?_
  refine fld (o' := 40) rfl fo158_5 rfl rfl rfl rfl ?_
  refine fld (o' := 47) rfl fo82_7 rfl rfl rfl rfl ?_
  refine ld1 rfl T25 S (i := 1) rfl rfl rfl rfl rfl ?_
  refine calg (vs := [_, _, _]) rfl ⟨⟨_, _, rfl, rfl⟩, ⟨_, _, rfl, rfl⟩, ⟨_, _, rfl, rfl⟩, trivial⟩ k153 rfl (fun hG => c153 _ _ _ _ _ (hm5.now S) (hw6.now S) (hto.now S) hol' hoo') ?_
  intro w13 B_; have S := S.call B_
  refine pkA rfl rfl rfl rfl rfl rfl ?_
  refine mv1 rfl rfl ?_
  refine mv rfl rfl rfl rfl ?_
  refine mv rfl rfl rfl rfl ?_
  refine fld (o' := 49) rfl fo158_6 rfl rfl rfl rfl ?_
  refine ld1 rfl T25 S (i := 1) rfl rfl rfl rfl rfl ?_
  refine calg (vs := [_, _, _]) rfl ⟨⟨_, _, rfl, rfl⟩, ⟨_, _, rfl, rfl⟩, ⟨_, _, rfl, rfl⟩, trivial⟩ k153 rfl (fun hG => c153 _ _ _ _ _ (hm7.now S) (hw8.now S) (hL.now S) hll' hld') ?_
  intro w14 B_; have S := S.call B_
  refine pkA rfl rfl rfl rfl rfl rfl ?_
  refine asg1 rfl rfl ?_
  refine Ro.nil ?_
  refine Nrm.code ?_
  refine Run.ret ?_
  refine Rt.one rfl rfl ?_
  exact ⟨by simp [sameU_refl, sameT_refl, sameOs_refl], (SS.tran hN3 S).bl⟩
 ·
  try simp only [Bool.or_eq_true, Bool.and_eq_true, Bool.or_eq_false_iff, Bool.and_eq_false_iff, decide_eq_true_eq, decide_eq_false_iff_not, Bool.not_eq_true', Bool.not_eq_false', Bool.not_eq_true, Bool.not_eq_false] at hc9
  refine Run.seq ?_
  refine Run.region ?_
  refine eql1 rfl rfl rfl ?_
  refine asg1 rfl rfl ?_
  refine Ro.nil ?_
  refine Nrm.code ?_
  refine Run.cond rfl (fun hc12 => ?_) (fun hc12 => ?_)
  ·
   try simp only [Bool.or_eq_true, Bool.and_eq_true, Bool.or_eq_false_iff, Bool.and_eq_false_iff, decide_eq_true_eq, decide_eq_false_iff_not, Bool.not_eq_true', Bool.not_eq_false', Bool.not_eq_true, Bool.not_eq_false] at hc12
   refine Run.seq ?_
   refine Run.region ?_
   refine fld (o' := 1) rfl fo158_1 rfl rfl rfl rfl ?_
   refine ldA (cs := encIP p.s) rfl T24 S (i := 1) rfl rfl rfl (by decide) rfl rfl rfl ?_
   refine fld (o' := 18) rfl fo158_2 rfl rfl rfl rfl ?_
   refine ldA (cs := encIP p.d) rfl T24 S (i := 1) rfl rfl rfl (by decide) rfl rfl rfl ?_
   refine ldW rfl T82 S (i := 0) rfl rfl rfl rfl rfl ?_
   refine call (vs := [_, _, _]) ⟨⟨_, _, rfl, rfl⟩, ⟨_, _, rfl, rfl⟩, ⟨_, _, rfl, rfl⟩, trivial⟩ k61 rfl (c61 p.s p.d p.t _ _ _ hs ht (ho5.now S) (hd4.now S) (by exact hol') (by exact hoo') (by exact hdl') (hg2.now S) (hg3.now S)) ?_
   rintro _ w9 ⟨u11, rfl, hF⟩
   have S := S.fb hF
   refine mv1 rfl rfl ?_
   refine extr1 rfl rfl rfl ?_
   refine extr1 rfl rfl rfl ?_
   refine asg1 rfl rfl ?_
   refine asg1 rfl rfl ?_
   refine Ro.nil ?_
   refine Nrm.code ?_
   refine Run.seq ?_
   refine Run.region ?_
   refine fld (o' := 1) rfl fo158_1 rfl rfl rfl rfl ?_
   refine ldA (cs := encIP p.s) rfl T24 S (i := 2) rfl rfl rfl (by decide) rfl rfl rfl ?_
   refine fld (o' := 18) rfl fo158_2 rfl rfl rfl rfl ?_
   refine ldA (cs := encIP p.d) rfl T24 S (i := 2) rfl rfl rfl (by decide) rfl rfl rfl ?_
   refine fld (o' := 40) rfl fo158_5 rfl rfl rfl rfl ?_
   refine ldA (cs := encTcp p.t to_ td) rfl T82 S (i := 2) rfl rfl rfl (by decide) rfl rfl rfl ?_
   refine call (vs := [_, _, _]) ⟨⟨_, _, rfl, rfl⟩, ⟨_, _, rfl, rfl⟩, ⟨_, _, rfl, rfl⟩, trivial⟩ k81 rfl (c81 p.s p.d p.t _ _ _ hs ht (hto.now S) (htd.now S) (by exact hol') (by exact hoo') (by exact hdl')) ?_
   rintro _ w10 ⟨u13, rfl, hF⟩
   have S := S.fb hF
   refine mv1 rfl rfl ?_
   refine extr1 rfl rfl rfl ?_
   refine extr1 rfl rfl rfl ?_
   refine asg1 rfl rfl ?_
   refine asg1 rfl rfl ?_
   refine Ro.nil ?_
   refine Nrm.code ?_
   refine Run.region ?_
   have hby_u11 := putTL_byt hs ht hodt htd.1 (t := p.t)
   have hby_u13 := hby_u11
   refine mv1 rfl rfl ?_
   refine calg (vs := [_]) rfl ⟨⟨_, _, rfl, rfl⟩, trivial⟩ k56 rfl (fun hG => c56 (putTE p.s p.d p.t) _ (by have := putTE_bd p.s p.d p.t; omega)) ?_
   intro w11 B_; have S := S.call B_
   refine mv1 rfl rfl ?_
   refine eql1 rfl rfl rfl ?_
   refine mv1 rfl rfl ?_
   refine mv rfl rfl rfl rfl ?_
   refine mv rfl rfl rfl rfl ?_
   refine calg (vs := [_, _]) rfl ⟨⟨_, _, rfl, rfl⟩, ⟨_, _, rfl, rfl⟩, trivial⟩ k37 rfl (fun hG => c37 _ _ _ _ _ (S.bsI (i := 1) rfl hby_u11) (S.bsI (i := 0) rfl hby_u13)) ?_
   intro w12 B_; have S := S.call B_
   refine pkA rfl rfl rfl rfl rfl rfl ?_
   refine asg1 rfl rfl ?_
   refine Ro.nil ?_
   refine Nrm.blk ?_
   refine Nrm.code ?_
   refine Run.seq ?_
   refine Run.region ?_
   refine mv1 rfl rfl ?_
   refine mv1 rfl rfl ?_
   refine ldW rfl T82 S (i := 2) rfl rfl rfl rfl rfl ?_
   refine fld (o' := 40) rfl fo158_5 rfl rfl rfl rfl ?_
   refine ldA (cs := encTcp p.t to_ td) rfl T82 S (i := 3) rfl rfl rfl (by decide) rfl rfl rfl ?_
   refine calg (vs := [_, _]) rfl ⟨⟨_, _, rfl, rfl⟩, ⟨_, _, rfl, rfl⟩, trivial⟩ k63 rfl (fun hG => c63 p.t p.t _ _ _ _ _ (ho5.now S) (hd4.now S) (hto.now S) (htd.now S) (by exact hol')) ?_
   intro w13 B_; have S := S.call B_
   refine pkA rfl rfl rfl rfl rfl rfl ?_
   refine mv1 rfl rfl ?_
   refine mv rfl rfl rfl rfl ?_
   refine fld (o' := 40) rfl fo158_5 rfl rfl rfl rfl ?_
   refine fld (o' := 48) rfl fo82_8 rfl rfl rfl rfl ?_
   refine ld1 rfl T26 S (i := 3) rfl rfl rfl rfl rfl ?_
   refine calg (vs := [_, _]) rfl ⟨⟨_, _, rfl, rfl⟩, ⟨_, _, rfl, rfl⟩, trivial⟩ k68 rfl (fun hG => c68 _ _ _ _ _ (hu4.now S) (htd.now S) (by omega)) ?_
   intro w14 B_; have S := S.call B_
   refine pkA rfl rfl rfl rfl rfl rfl ?_
   refine mv1 rfl rfl ?_
   refine mv rfl rfl rfl rfl ?_
   refine mv rfl rfl rfl rfl ?_
   refine fld (o' := 40) rfl fo158_5 rfl rfl rfl rfl ?_
   refine fld (o' := 47) rfl fo82_7 rfl rfl rfl rfl ?_
   refine ld1 rfl T25 S (i := 3) rfl rfl rfl rfl rfl ?_
   refine calg (vs := [_, _, _]) rfl ⟨⟨_, _, rfl, rfl⟩, ⟨_, _, rfl, rfl⟩, ⟨_, _, rfl, rfl⟩, trivial⟩ k153 rfl (fun hG => c153 _ _ _ _ _ (hm5.now S) (hw6.now S) (hto.now S) hol' hoo') ?_
   intro w15 B_; have S := S.call B_
   refine pkA rfl rfl rfl rfl rfl rfl ?_
   refine mv1 rfl rfl ?_
   refine mv rfl rfl rfl rfl ?_
   refine mv rfl rfl rfl rfl ?_
   refine fld (o' := 49) rfl fo158_6 rfl rfl rfl rfl ?_
   refine ld1 rfl T25 S (i := 3) rfl rfl rfl rfl rfl ?_
   refine calg (vs := [_, _, _]) rfl ⟨⟨_, _, rfl, rfl⟩, ⟨_, _, rfl, rfl⟩, ⟨_, _, rfl, rfl⟩, trivial⟩ k153 rfl (fun hG => c153 _ _ _ _ _ (hm7.now S) (hw8.now S) (hL.now S) hll' hld') ?_
   intro w16 B_; have S := S.call B_
   refine pkA rfl rfl rfl rfl rfl rfl ?_
   refine asg1 rfl rfl ?_
   refine Ro.nil ?_
   refine Nrm.code ?_
   refine Run.ret ?_
   refine Rt.one rfl rfl ?_
   exact ⟨by simp [sameU_refl, sameT_refl, sameOs_refl], (SS.tran hN3 S).bl⟩
  ·
   try simp only [Bool.or_eq_true, Bool.and_eq_true, Bool.or_eq_false_iff, Bool.and_eq_false_iff, decide_eq_true_eq, decide_eq_false_iff_not, Bool.not_eq_true', Bool.not_eq_false', Bool.not_eq_true, Bool.not_eq_false] at hc12
   refine Run.seq ?_
   refine Run.region ?_
   refine eql1 rfl rfl rfl ?_
   refine asg1 rfl rfl ?_
   refine Ro.nil ?_
   refine Nrm.code ?_
   refine Run.cond rfl (fun hc16 => ?_) (fun hc16 => ?_)
   ·
    try simp only [Bool.or_eq_true, Bool.and_eq_true, Bool.or_eq_false_iff, Bool.and_eq_false_iff, decide_eq_true_eq, decide_eq_false_iff_not, Bool.not_eq_true', Bool.not_eq_false', Bool.not_eq_true, Bool.not_eq_false] at hc16
    refine Run.seq ?_
    refine Run.region ?_
    refine mv1 rfl rfl ?_
    refine fld (o' := 49) rfl fo158_6 rfl rfl rfl rfl ?_
    refine ld1 rfl T25 S (i := 1) rfl rfl rfl rfl rfl ?_
    refine lenS rfl hLS Tryd.underlying25 rfl rfl rfl ?_
    obtain ⟨ms_, hmS_, hmB_⟩ := hm7.parts
    refine slS (v := m7) (lo := 0) (hi := p.l.length) (mx := capV m7) rfl hmS_ e25 rfl rfl rfl (i1 := none) (i2 := some p.l.length) (i3 := none) trivial ⟨_, _, _, rfl, rfl⟩ trivial rfl rfl rfl (fun h => by first | rfl | cases h) (fun _ => by have := hmS_.cap; rw [List.length_append] at *; omega) ?_
    intro vc7 hvc_
    have ho7 := OS.take hmB_ hmB_.len (by rw [List.length_append]; omega) (hvc_ trivial).1
    rw [show (p.l ++ [(⟨99, []⟩ : Opt)]).take p.l.length = p.l from by simp] at ho7
    refine call (vs := [_]) ⟨⟨_, _, rfl, rfl⟩, trivial⟩ k73 rfl (c73 _ _ _ (ho7.now S) hll' hld' (hg3.now S)) ?_
    rintro _ w9 ⟨u15, rfl, hF⟩
    have S := S.fb hF
    refine mv1 rfl rfl ?_
    refine extr1 rfl rfl rfl ?_
    refine extr1 rfl rfl rfl ?_
    refine asg1 rfl rfl ?_
    refine asg1 rfl rfl ?_
    refine Ro.nil ?_
    refine Nrm.code ?_
    refine Run.seq ?_
    refine Run.region ?_
    refine fld (o' := 49) rfl fo158_6 rfl rfl rfl rfl ?_
    refine ld1 rfl T25 S (i := 2) rfl rfl rfl rfl rfl ?_
    refine call (vs := [_]) ⟨⟨_, _, rfl, rfl⟩, trivial⟩ k82 rfl (c82 _ _ _ (hL.now S) hll' hld') ?_
    rintro _ w10 ⟨u17, rfl, hF⟩
    have S := S.fb hF
    refine mv1 rfl rfl ?_
    refine extr1 rfl rfl rfl ?_
    refine extr1 rfl rfl rfl ?_
    refine asg1 rfl rfl ?_
    refine asg1 rfl rfl ?_
    refine Ro.nil ?_
    refine Nrm.code ?_
    refine Run.region ?_
    have hby_u15 : byt (tputL p.l) := tputL_byt hL.byt
    have hby_u17 := hby_u15
    refine mv1 rfl rfl ?_
    refine calg (vs := [_]) rfl ⟨⟨_, _, rfl, rfl⟩, trivial⟩ k56 rfl (fun hG => c56 (tputE p.l) _ (by have := tputE_or p.l; omega)) ?_
    intro w11 B_; have S := S.call B_
    refine mv1 rfl rfl ?_
    refine eql1 rfl rfl rfl ?_
    refine mv1 rfl rfl ?_
    refine mv rfl rfl rfl rfl ?_
    refine mv rfl rfl rfl rfl ?_
    refine calg (vs := [_, _]) rfl ⟨⟨_, _, rfl, rfl⟩, ⟨_, _, rfl, rfl⟩, trivial⟩ k37 rfl (fun hG => c37 _ _ _ _ _ (S.bsI (i := 1) rfl hby_u15) (S.bsI (i := 0) rfl hby_u17)) ?_
    intro w12 B_; have S := S.call B_
    refine pkA rfl rfl rfl rfl rfl rfl ?_
    refine asg1 rfl rfl ?_
    refine Ro.nil ?_
    refine Nrm.blk ?_
    refine Nrm.code ?_
    refine Run.seq ?_
    refine Run.region ?_
    refine mv1 rfl rfl ?_
    refine mv1 rfl rfl ?_
    refine ldW rfl T82 S (i := 2) rfl rfl rfl rfl rfl ?_
    refine fld (o' := 40) rfl fo158_5 rfl rfl rfl rfl ?_
    refine ldA (cs := encTcp p.t to_ td) rfl T82 S (i := 3) rfl rfl rfl (by decide) rfl rfl rfl ?_
    refine calg (vs := [_, _]) rfl ⟨⟨_, _, rfl, rfl⟩, ⟨_, _, rfl, rfl⟩, trivial⟩ k63 rfl (fun hG => c63 p.t p.t _ _ _ _ _ (ho5.now S) (hd4.now S) (hto.now S) (htd.now S) (by exact hol')) ?_
    intro w13 B_; have S := S.call B_
    refine pkA rfl rfl rfl rfl rfl rfl ?_
    refine mv1 rfl rfl ?_
    refine mv rfl rfl rfl rfl ?_
    refine fld (o' := 40) rfl fo158_5 rfl rfl rfl rfl ?_
    refine fld (o' := 48) rfl fo82_8 rfl rfl rfl rfl ?_
    refine ld1 rfl T26 S (i := 3) rfl rfl rfl rfl rfl ?_
    refine calg (vs := [_, _]) rfl ⟨⟨_, _, rfl, rfl⟩, ⟨_, _, rfl, rfl⟩, trivial⟩ k68 rfl (fun hG => c68 _ _ _ _ _ (hu4.now S) (htd.now S) (by omega)) ?_
    intro w14 B_; have S := S.call B_
    refine pkA rfl rfl rfl rfl rfl rfl ?_
    refine mv1 rfl rfl ?_
    refine mv rfl rfl rfl rfl ?_
    refine mv rfl rfl rfl rfl ?_
    refine fld (o' := 40) rfl fo158_5 rfl rfl rfl rfl ?_
    refine fld (o' := 47) rfl fo82_7 rfl rfl rfl rfl ?_
    refine ld1 rfl T25 S (i := 3) rfl rfl rfl rfl rfl ?_
    refine calg (vs := [_, _, _]) rfl ⟨⟨_, _, rfl, rfl⟩, ⟨_, _, rfl, rfl⟩, ⟨_, _, rfl, rfl⟩, trivial⟩ k153 rfl (fun hG => c153 _ _ _ _ _ (hm5.now S) (hw6.now S) (hto.now S) hol' hoo') ?_
    intro w15 B_; have S := S.call B_
    refine pkA rfl rfl rfl rfl rfl rfl ?_
    refine mv1 rfl rfl ?_
    refine mv rfl rfl rfl rfl ?_
    refine mv rfl rfl rfl rfl ?_
    refine fld (o' := 49) rfl fo158_6 rfl rfl rfl rfl ?_
    refine ld1 rfl T25 S (i := 3) rfl rfl rfl rfl rfl ?_
    refine calg (vs := [_, _, _]) rfl ⟨⟨_, _, rfl, rfl⟩, ⟨_, _, rfl, rfl⟩, ⟨_, _, rfl, rfl⟩, trivial⟩ k153 rfl (fun hG => c153 _ _ _ _ _ (hm7.now S) (hw8.now S) (hL.now S) hll' hld') ?_
    intro w16 B_; have S := S.call B_
    refine pkA rfl rfl rfl rfl rfl rfl ?_
    refine asg1 rfl rfl ?_
    refine Ro.nil ?_
    refine Nrm.code ?_
    refine Run.ret ?_
    refine Rt.one rfl rfl ?_
    exact ⟨by simp [sameU_refl, sameT_refl, sameOs_refl], (SS.tran hN3 S).bl⟩
   ·
    try simp only [Bool.or_eq_true, Bool.and_eq_true, Bool.or_eq_false_iff, Bool.and_eq_false_iff, decide_eq_true_eq, decide_eq_false_iff_not, Bool.not_eq_true', Bool.not_eq_false', Bool.not_eq_true, Bool.not_eq_false] at hc16
    refine Run.seq ?_
    refine Run.region ?_
    refine eql1 rfl rfl rfl ?_
    refine asg1 rfl rfl ?_
    refine Ro.nil ?_
    refine Nrm.code ?_
    refine Run.cond rfl (fun hc20 => ?_) (fun hc20 => ?_)
    ·
     try simp only [Bool.or_eq_true, Bool.and_eq_true, Bool.or_eq_false_iff, Bool.and_eq_false_iff, decide_eq_true_eq, decide_eq_false_iff_not, Bool.not_eq_true', Bool.not_eq_false', Bool.not_eq_true, Bool.not_eq_false] at hc20
     refine Run.seq ?_
     refine Run.region ?_
     refine ldW rfl T82 S (i := 0) rfl rfl rfl rfl rfl ?_
     refine calg (vs := [_]) rfl ⟨⟨_, _, rfl, rfl⟩, trivial⟩ k70 rfl (fun hG => c70 p.t vc5 (cut u4 0 p.t.data.length (capV u4)) _ (ho5.now S) (hd4.now S) hol' hoo' hdl') ?_
     intro w9 B_; have S := S.call B_
     refine mv1 rfl rfl ?_
     refine extr1 rfl rfl rfl ?_
     refine extr1 rfl rfl rfl ?_
     refine asg1 rfl rfl ?_
     refine asg1 rfl rfl ?_
     refine Ro.nil ?_
     refine Nrm.code ?_
     refine Run.seq ?_
     refine Run.region ?_
     refine fld (o' := 40) rfl fo158_5 rfl rfl rfl rfl ?_
     refine ldA (cs := encTcp p.t to_ td) rfl T82 S (i := 1) rfl rfl rfl (by decide) rfl rfl rfl ?_
     refine calg (vs := [_]) rfl ⟨⟨_, _, rfl, rfl⟩, trivial⟩ k84 rfl (fun hG => c84 p.t to_ td _ (hto.now S) (htd.now S) hol' hoo' hdl') ?_
     intro w10 B_; have S := S.call B_
     refine mv1 rfl rfl ?_
     refine extr1 rfl rfl rfl ?_
     refine extr1 rfl rfl rfl ?_
     refine asg1 rfl rfl ?_
     refine asg1 rfl rfl ?_
     refine Ro.nil ?_
     refine Nrm.code ?_
     refine Run.region ?_
     refine mv1 rfl rfl ?_
     refine mv1 rfl rfl ?_
     refine eql1 rfl rfl rfl ?_
     refine mv1 rfl rfl ?_
     refine mv rfl rfl rfl rfl ?_
     refine mv rfl rfl rfl rfl ?_
     refine eqB rfl rfl Tryd.underlying4 rfl rfl rfl rfl ?_
     refine pkA rfl rfl rfl rfl rfl rfl ?_
     refine asg1 rfl rfl ?_
     refine Ro.nil ?_
     refine Nrm.blk ?_
     refine Nrm.code ?_
     refine Run.seq ?_
     refine Run.region ?_
     refine mv1 rfl rfl ?_
     refine mv1 rfl rfl ?_
     refine ldW rfl T82 S (i := 0) rfl rfl rfl rfl rfl ?_
     refine fld (o' := 40) rfl fo158_5 rfl rfl rfl rfl ?_
     refine ldA (cs := encTcp p.t to_ td) rfl T82 S (i := 1) rfl rfl rfl (by decide) rfl rfl rfl ?_
     refine calg (vs := [_, _]) rfl ⟨⟨_, _, rfl, rfl⟩, ⟨_, _, rfl, rfl⟩, trivial⟩ k63 rfl (fun hG => c63 p.t p.t _ _ _ _ _ (ho5.now S) (hd4.now S) (hto.now S) (htd.now S) (by exact hol')) ?_
     intro w11 B_; have S := S.call B_
     refine pkA rfl rfl rfl rfl rfl rfl ?_
     refine mv1 rfl rfl ?_
     refine mv rfl rfl rfl rfl ?_
     refine fld (o' := 40) rfl fo158_5 rfl rfl rfl rfl ?_
     refine fld (o' := 48) rfl fo82_8 rfl rfl rfl rfl ?_
     refine ld1 rfl T26 S (i := 1) rfl rfl rfl rfl rfl ?_
     refine calg (vs := [_, _]) rfl ⟨⟨_, _, rfl, rfl⟩, ⟨_, _, rfl, rfl⟩, trivial⟩ k68 rfl (fun hG => c68 _ _ _ _ _ (hu4.now S) (htd.now S) (by omega)) ?_
     intro w12 B_; have S := S.call B_
     refine pkA rfl rfl rfl rfl rfl rfl ?_
     refine mv1 rfl rfl ?_
     refine mv rfl rfl rfl rfl ?_
     refine mv rfl rfl rfl rfl ?_
     refine fld (o' := 40) rfl fo158_5 rfl rfl rfl rfl ?_
     refine fld (o' := 47) rfl fo82_7 rfl rfl rfl rfl ?_
     refine ld1 rfl T25 S (i := 1) rfl rfl rfl rfl rfl ?_
     refine calg (vs := [_, _, _]) rfl ⟨⟨_, _, rfl, rfl⟩, ⟨_, _, rfl, rfl⟩, ⟨_, _, rfl, rfl⟩, trivial⟩ k153 rfl (fun hG => c153 _ _ _ _ _ (hm5.now S) (hw6.now S) (hto.now S) hol' hoo') ?_
     intro w13 B_; have S := S.call B_
     refine pkA rfl rfl rfl rfl rfl rfl ?_
     refine mv1 rfl rfl ?_
     refine mv rfl rfl rfl rfl ?_
     refine mv rfl rfl rfl rfl ?_
     refine fld (o' := 49) rfl fo158_6 rfl rfl rfl rfl ?_
     refine ld1 rfl T25 S (i := 1) rfl rfl rfl rfl rfl ?_
     refine calg (vs := [_, _, _]) rfl ⟨⟨_, _, rfl, rfl⟩, ⟨_, _, rfl, rfl⟩, ⟨_, _, rfl, rfl⟩, trivial⟩ k153 rfl (fun hG => c153 _ _ _ _ _ (hm7.now S) (hw8.now S) (hL.now S) hll' hld') ?_
     intro w14 B_; have S := S.call B_
     refine pkA rfl rfl rfl rfl rfl rfl ?_
     refine asg1 rfl rfl ?_
     refine Ro.nil ?_
     refine Nrm.code ?_
     refine Run.ret ?_
     refine Rt.one rfl rfl ?_
     exact ⟨by simp [sameU_refl, sameT_refl, sameOs_refl], (SS.tran hN3 S).bl⟩
    ·
     try simp only [Bool.or_eq_true, Bool.and_eq_true, Bool.or_eq_false_iff, Bool.and_eq_false_iff, decide_eq_true_eq, decide_eq_false_iff_not, Bool.not_eq_true', Bool.not_eq_false', Bool.not_eq_true, Bool.not_eq_false] at hc20
     refine Run.seq ?_
     refine Run.region ?_
     refine eql1 rfl rfl rfl ?_
     refine asg1 rfl rfl ?_
     refine Ro.nil ?_
     refine Nrm.code ?_
     refine Run.cond rfl (fun hc24 => ?_) (fun hc24 => ?_)
     ·
      try simp only [Bool.or_eq_true, Bool.and_eq_true, Bool.or_eq_false_iff, Bool.and_eq_false_iff, decide_eq_true_eq, decide_eq_false_iff_not, Bool.not_eq_true', Bool.not_eq_false', Bool.not_eq_true, Bool.not_eq_false] at hc24
      refine Run.seq ?_
      refine Run.region ?_
      refine ldW rfl T82 S (i := 0) rfl rfl rfl rfl rfl ?_
      refine fld (o' := 50) rfl fo158_7 rfl rfl rfl rfl ?_
      refine ld1 rfl T3 S (i := 1) rfl rfl rfl rfl rfl ?_
      have S0 := S
      refine call (vs := [_, _]) ⟨⟨_, _, rfl, rfl⟩, ⟨_, _, rfl, rfl⟩, trivial⟩ k69 rfl (c69 p.t p.n _ _ _ (ho5.now S) (hd4.now S) (by exact hol') (by exact hoo')) ?_
      rintro _ w9 ⟨o23, rfl, hFO⟩
      have S := S.call hFO.1
      have ho23 := hFO.2 _ S0.lt
      obtain ⟨N4, hN4, S_4⟩ := S.reb
      have hto := hto.st S; rw [hN4] at hto
      have htd := htd.st S; rw [hN4] at htd
      have hL := hL.st S; rw [hN4] at hL
      have hg1 := hg1.st S; rw [hN4] at hg1
      have hg2 := hg2.st S; rw [hN4] at hg2
      have hg3 := hg3.st S; rw [hN4] at hg3
      have htoS := htoS.st S; rw [hN4] at htoS
      have hLS := hLS.st S; rw [hN4] at hLS
      have hu4 := hu4.st S; rw [hN4] at hu4
      have hm5 := hm5.st S; rw [hN4] at hm5
      have hw6 := hw6.st S; rw [hN4] at hw6
      have hd4 := hd4.st S; rw [hN4] at hd4
      have ho5 := ho5.st S; rw [hN4] at ho5
      have hm7 := hm7.st S; rw [hN4] at hm7
      have hw8 := hw8.st S; rw [hN4] at hw8
      rw [hN4] at ho23
      have SS := SS.tran hN3 S
      have S := S_4
      obtain ⟨ds_o23, ho23S, ho23B⟩ := id ho23
      refine alc T82 S rfl ?_
      intro b23 w10 hb23 S B_
      refine stW rfl rfl T82 rfl rfl (one_cons rfl (one_cons rfl (one_cons rfl (one_cons rfl (one_cons rfl (one_cons rfl (one_cons rfl (one_cons ho23.one (one_cons hd4.one one_nil))))))))) S (i := 0) rfl rfl ?_
      intro w11 S
      refine Ro.nil ?_
      refine Nrm.code ?_
      refine Run.heldB (by kernel_rfl) S [true, true, true] rfl rfl rfl ?_
      intro w12 BD S SC
      refine Hb.take (i := 0) SC (fun _ _ S B => S.call B) Pp.body rfl (by kernel_rfl) (by kernel_rfl) (by kernel_rfl) rfl rfl ?_
      refine qldW rfl T82 (fun _ S => S) (i := 0) rfl rfl rfl rfl rfl ?_
      refine Hb.back ?_
      refine Hb.take (i := 1) SC (fun _ _ S B => S.call B) Pp.body rfl (by kernel_rfl) (by kernel_rfl) (by kernel_rfl) rfl rfl ?_
      refine qfld (o' := 40) rfl fo158_5 rfl rfl rfl rfl ?_
      refine Hb.back ?_
      refine Hb.take (i := 2) SC (fun _ _ S B => S.call B) Pp.body rfl (by kernel_rfl) (by kernel_rfl) (by kernel_rfl) rfl rfl ?_
      refine qldA (cs := encTcp p.t to_ td) rfl T82 (fun _ S => S) (i := 2) rfl rfl rfl (by decide) rfl rfl rfl ?_
      refine Hb.back ?_
      refine Hb.take (i := 3) SC (fun _ _ S B => S.call B) Pp.body rfl (by kernel_rfl) (by kernel_rfl) (by kernel_rfl) rfl rfl ?_
      refine qfld (o' := 50) rfl fo158_7 rfl rfl rfl rfl ?_
      refine Hb.back ?_
      refine Hb.take (i := 4) SC (fun _ _ S B => S.call B) Pp.body rfl (by kernel_rfl) (by kernel_rfl) (by kernel_rfl) rfl rfl ?_
      refine qld1 rfl T3 (fun _ S => S) (i := 2) rfl rfl rfl rfl rfl ?_
      refine Hb.back ?_
      refine Hb.one (i := 5) (by kernel_rfl) rfl rfl ?_
      intro w13 BD; have S := S.call BD
      have S0 := S
      refine call (vs := [_, _]) ⟨⟨_, _, rfl, rfl⟩, ⟨_, _, rfl, rfl⟩, trivial⟩ k83 rfl (c83 p.t p.n _ _ _ (hto.now S) (htd.now S) hol' hoo' hdl') ?_
      rintro _ w14 ⟨o155, d155, rfl, B1, hq_⟩
      have S := S.call B1
      have ho155 := (hq_ _ S0.lt).1
      have hd155 := (hq_ _ S0.lt).2
      obtain ⟨N5, hN5, S_5⟩ := S.reb
      have hto := hto.st S; rw [hN5] at hto
      have htd := htd.st S; rw [hN5] at htd
      have hL := hL.st S; rw [hN5] at hL
      have hg1 := hg1.st S; rw [hN5] at hg1
      have hg2 := hg2.st S; rw [hN5] at hg2
      have hg3 := hg3.st S; rw [hN5] at hg3
      have htoS := htoS.st S; rw [hN5] at htoS
      have hLS := hLS.st S; rw [hN5] at hLS
      have hu4 := hu4.st S; rw [hN5] at hu4
      have hm5 := hm5.st S; rw [hN5] at hm5
      have hw6 := hw6.st S; rw [hN5] at hw6
      have hd4 := hd4.st S; rw [hN5] at hd4
      have ho5 := ho5.st S; rw [hN5] at ho5
      have hm7 := hm7.st S; rw [hN5] at hm7
      have hw8 := hw8.st S; rw [hN5] at hw8
      have ho23 := ho23.st S; rw [hN5] at ho23
      rw [hN5] at ho155
      rw [hN5] at hd155
      have SS := SS.tran hN4 S
      have SH := S
      have S := S_5
      have SC := (SH.tran hN5 S).pick [true, true, true] rfl
      refine Hb.on SC ?_
      refine Hb.one (i := 6) (by kernel_rfl) rfl rfl ?_
      intro w15 BD; have S := S.call BD
      refine calg (vs := [_, _]) rfl ⟨⟨_, _, rfl, rfl⟩, ⟨_, _, rfl, rfl⟩, trivial⟩ k63 rfl (fun hG => c63 (clampT p.t p.n) (clampT p.t p.n) _ _ _ _ _ (ho23.now S) (hd4.now S) (ho155.now S) (hd155.now S) (by rw [show (clampT p.t p.n).opts.length = p.t.opts.length from by simp [clampT]]; exact hol')) ?_
      intro w16 B_; have S := S.call B_
      have SC := (SH.tran hN5 S).pick [true, true, true] rfl
      refine Hb.on SC ?_
      refine Hb.take (i := 7) SC (fun _ _ S B => S.call B) Pp.body rfl (by kernel_rfl) (by kernel_rfl) (by kernel_rfl) rfl rfl ?_
      refine qasg rfl rfl rfl rfl ?_
      refine Hb.back ?_
      refine Hb.done (by kernel_rfl) ?_
      intro w17 BD; have S := S.call BD
      refine Nrm.blk ?_
      refine Nrm.code ?_
      refine Run.seq ?_
      refine Run.region ?_
      refine mv1 rfl rfl ?_
      refine mv1 rfl rfl ?_
      refine ldW rfl T82 S (i := 1) rfl rfl rfl rfl rfl ?_
      refine fld (o' := 40) rfl fo158_5 rfl rfl rfl rfl ?_
      refine ldA (cs := encTcp p.t to_ td) rfl T82 S (i := 2) rfl rfl rfl (by decide) rfl rfl rfl ?_
      refine calg (vs := [_, _]) rfl ⟨⟨_, _, rfl, rfl⟩, ⟨_, _, rfl, rfl⟩, trivial⟩ k63 rfl (fun hG => c63 p.t p.t _ _ _ _ _ (ho5.now S) (hd4.now S) (hto.now S) (htd.now S) (by exact hol')) ?_
      intro w18 B_; have S := S.call B_
      refine pkA rfl rfl rfl rfl rfl rfl ?_
      refine mv1 rfl rfl ?_
      refine mv rfl rfl rfl rfl ?_
      refine fld (o' := 40) rfl fo158_5 rfl rfl rfl rfl ?_
      refine fld (o' := 48) rfl fo82_8 rfl rfl rfl rfl ?_
      refine ld1 rfl T26 S (i := 2) rfl rfl rfl rfl rfl ?_
      refine calg (vs := [_, _]) rfl ⟨⟨_, _, rfl, rfl⟩, ⟨_, _, rfl, rfl⟩, trivial⟩ k68 rfl (fun hG => c68 _ _ _ _ _ (hu4.now S) (htd.now S) (by omega)) ?_
      intro w19 B_; have S := S.call B_
      refine pkA rfl rfl rfl rfl rfl rfl ?_
      refine mv1 rfl rfl ?_
      refine mv rfl rfl rfl rfl ?_
      refine mv rfl rfl rfl rfl ?_
      refine fld (o' := 40) rfl fo158_5 rfl rfl rfl rfl ?_
      refine fld (o' := 47) rfl fo82_7 rfl rfl rfl rfl ?_
      refine ld1 rfl T25 S (i := 2) rfl rfl rfl rfl rfl ?_
      refine calg (vs := [_, _, _]) rfl ⟨⟨_, _, rfl, rfl⟩, ⟨_, _, rfl, rfl⟩, ⟨_, _, rfl, rfl⟩, trivial⟩ k153 rfl (fun hG => c153 _ _ _ _ _ (hm5.now S) (hw6.now S) (hto.now S) hol' hoo') ?_
      intro w20 B_; have S := S.call B_
      refine pkA rfl rfl rfl rfl rfl rfl ?_
      refine mv1 rfl rfl ?_
      refine mv rfl rfl rfl rfl ?_
      refine mv rfl rfl rfl rfl ?_
      refine fld (o' := 49) rfl fo158_6 rfl rfl rfl rfl ?_
      refine ld1 rfl T25 S (i := 2) rfl rfl rfl rfl rfl ?_
      refine calg (vs := [_, _, _]) rfl ⟨⟨_, _, rfl, rfl⟩, ⟨_, _, rfl, rfl⟩, ⟨_, _, rfl, rfl⟩, trivial⟩ k153 rfl (fun hG => c153 _ _ _ _ _ (hm7.now S) (hw8.now S) (hL.now S) hll' hld') ?_
      intro w21 B_; have S := S.call B_
      refine pkA rfl rfl rfl rfl rfl rfl ?_
      refine asg1 rfl rfl ?_
      refine Ro.nil ?_
      refine Nrm.code ?_
      refine Run.ret ?_
      refine Rt.one rfl rfl ?_
      exact ⟨by simp [sameU_refl, sameT_refl, sameOs_refl], (SS.tran hN5 S).bl⟩
     ·
      try simp only [Bool.or_eq_true, Bool.and_eq_true, Bool.or_eq_false_iff, Bool.and_eq_false_iff, decide_eq_true_eq, decide_eq_false_iff_not, Bool.not_eq_true', Bool.not_eq_false', Bool.not_eq_true, Bool.not_eq_false] at hc24
      refine Run.skip ?_
      refine Nrm.blk ?_
      refine Nrm.code ?_
      refine Run.seq ?_
      refine Run.region ?_
      refine mv1 rfl rfl ?_
      refine mv1 rfl rfl ?_
      refine ldW rfl T82 S (i := 0) rfl rfl rfl rfl rfl ?_
      refine fld (o' := 40) rfl fo158_5 rfl rfl rfl rfl ?_
      refine ldA (cs := encTcp p.t to_ td) rfl T82 S (i := 1) rfl rfl rfl (by decide) rfl rfl rfl ?_
      refine calg (vs := [_, _]) rfl ⟨⟨_, _, rfl, rfl⟩, ⟨_, _, rfl, rfl⟩, trivial⟩ k63 rfl (fun hG => c63 p.t p.t _ _ _ _ _ (ho5.now S) (hd4.now S) (hto.now S) (htd.now S) (by exact hol')) ?_
      intro w9 B_; have S := S.call B_
      refine pkA rfl rfl rfl rfl rfl rfl ?_
      refine mv1 rfl rfl ?_
      refine mv rfl rfl rfl rfl ?_
      refine fld (o' := 40) rfl fo158_5 rfl rfl rfl rfl ?_
      refine fld (o' := 48) rfl fo82_8 rfl rfl rfl rfl ?_
      refine ld1 rfl T26 S (i := 1) rfl rfl rfl rfl rfl ?_
      refine calg (vs := [_, _]) rfl ⟨⟨_, _, rfl, rfl⟩, ⟨_, _, rfl, rfl⟩, trivial⟩ k68 rfl (fun hG => c68 _ _ _ _ _ (hu4.now S) (htd.now S) (by omega)) ?_
      intro w10 B_; have S := S.call B_
      refine pkA rfl rfl rfl rfl rfl rfl ?_
      refine mv1 rfl rfl ?_
      refine mv rfl rfl rfl rfl ?_
      refine mv rfl rfl rfl rfl ?_
      refine fld (o' := 40) rfl fo158_5 rfl rfl rfl rfl ?_
      refine fld (o' := 47) rfl fo82_7 rfl rfl rfl rfl ?_
      refine ld1 rfl T25 S (i := 1) rfl rfl rfl rfl rfl ?_
      refine calg (vs := [_, _, _]) rfl ⟨⟨_, _, rfl, rfl⟩, ⟨_, _, rfl, rfl⟩, ⟨_, _, rfl, rfl⟩, trivial⟩ k153 rfl (fun hG => c153 _ _ _ _ _ (hm5.now S) (hw6.now S) (hto.now S) hol' hoo') ?_
      intro w11 B_; have S := S.call B_
      refine pkA rfl rfl rfl rfl rfl rfl ?_
      refine mv1 rfl rfl ?_
      refine mv rfl rfl rfl rfl ?_
      refine mv rfl rfl rfl rfl ?_
      refine fld (o' := 49) rfl fo158_6 rfl rfl rfl rfl ?_
      refine ld1 rfl T25 S (i := 1) rfl rfl rfl rfl rfl ?_
      refine calg (vs := [_, _, _]) rfl ⟨⟨_, _, rfl, rfl⟩, ⟨_, _, rfl, rfl⟩, ⟨_, _, rfl, rfl⟩, trivial⟩ k153 rfl (fun hG => c153 _ _ _ _ _ (hm7.now S) (hw8.now S) (hL.now S) hll' hld') ?_
      intro w12 B_; have S := S.call B_
      refine pkA rfl rfl rfl rfl rfl rfl ?_
      refine asg1 rfl rfl ?_
      refine Ro.nil ?_
      refine Nrm.code ?_
      refine Run.ret ?_
      refine Rt.one rfl rfl ?_
      exact ⟨by simp [sameU_refl, sameT_refl, sameOs_refl], (SS.tran hN3 S).bl⟩
end Go.Proofs.YtkahmepenjhcpaaDoor.W
/- Contracts: scripts of layer 6. No statement of the seat is proved here. -/
namespace Go.Proofs.YtkahmepenjhcpaaDoor.W
open Go
set_option linter.unusedSimpArgs false
set_option linter.unusedVariables false
theorem flat_at {α : Type} {sz : Nat} : ∀ {cs : List (List α)} {i : Nat}, (∀ c ∈ cs, c.length = sz) → i < cs.length → i * sz + sz ≤ cs.flatten.length ∧ (cs.flatten.drop (i * sz)).take sz = cs.getD i []
  | [], i, _, h => by simp at h
  | c :: cs, 0, h, _ => by
    have hc := h c (by simp)
    simp only [List.flatten_cons, List.length_append, Nat.zero_mul, List.drop_zero, List.getD_cons_zero]
    exact ⟨by omega, List.take_left' hc⟩
  | c :: cs, i + 1, h, hi => by
    have hc := h c (by simp)
    have ih := flat_at (sz := sz) (cs := cs) (i := i) (fun x hx => h x (by simp [hx])) (by simpa using hi)
    have e : (i + 1) * sz = c.length + i * sz := by rw [Nat.add_mul, Nat.one_mul, hc]; omega
    simp only [List.flatten_cons, List.length_append, List.getD_cons_succ]
    refine ⟨by omega, ?_⟩
    rw [e, ← List.drop_drop, List.drop_left]
    exact ih.2
def opz : Op6 := ⟨0, [], ⟨0, 0, false, false, 0, 0, 0, ⟨0, fun _ => 0⟩, ⟨0, fun _ => 0⟩, [], []⟩, []⟩
/-- one call of a script, as it is read -/
structure O6 (N : List Nat) (w : World) (c : List Value) (p : Op6) : Prop where
  ex : ∃ vB o d vL, c = encOp6 p vB o d vL ∧ BS N w vB p.b ∧ OS N w o p.h.opts ∧ BS N w d p.h.data ∧ OS N w vL p.l
theorem O6.st {N0 : List Nat} {w0 w : World} {L : List Own} {c : List Value} {p : Op6} (h : O6 N0 w0 c p) (S : St N0 w0 L w) : O6 (idsL L) w c p :=
  let ⟨vB, o, d, vL, h1, h2, h3, h4, h5⟩ := h.ex; ⟨vB, o, d, vL, h1, h2.st S, h3.st S, h4.st S, h5.st S⟩
theorem O6.len {N : List Nat} {w : World} {c : List Value} {p : Op6} (h : O6 N w c p) : c.length = 46 := by
  obtain ⟨vB, o, d, vL, rfl, _⟩ := h.ex; rfl
structure Op6.ok (p : Op6) : Prop where
  b : p.b.length ≤ 1099511627000
  o : p.h.opts.length ≤ 1099511627000
  d : p.h.data.length ≤ 1099511627000
  od : ∀ x ∈ p.h.opts, x.data.length ≤ 1099511627000
  l : p.l.length ≤ 1099511627000
  ld : ∀ x ∈ p.l, x.data.length ≤ 1099511627000
  s : p.h.src.ok
  t : p.h.dst.ok
/-- a script -/
def OPL (N : List Nat) (w : World) (v : Value) (ps : List Op6) : Prop :=
  ∃ cs : List (List Value), Sl N w 46 v ps.length cs.flatten ∧ cs.length = ps.length ∧ ∀ i, i < ps.length → O6 N w (cs.getD i []) (ps.getD i opz)
theorem OPL.all {N : List Nat} {w : World} {cs : List (List Value)} {ps : List Op6} (hl : cs.length = ps.length) (h : ∀ i, i < ps.length → O6 N w (cs.getD i []) (ps.getD i opz)) : ∀ c ∈ cs, c.length = 46 := by
  intro c hc
  obtain ⟨i, hi, rfl⟩ := List.getElem_of_mem hc
  have := (h i (by omega)).len
  rwa [List.getD_eq_getElem?_getD, List.getElem?_eq_getElem hi] at this
set_option maxHeartbeats 1000000 in
theorem c38 (v : Value) (ps : List Op6) (lo hi : Int) (w : World) (hP : OPL [] w v ps) (hok : ∀ p ∈ ps, p.ok) (hl : ps.length ≤ 1099511627000) (hg : GV [] w 0 130 (W4.map i64)) :
  CallsD Tryd.prog 38 #[v, .int .i64 lo, .int .i64 hi] w (.bool true) := by
 refine enter Tryd.func38 rfl Tryd.ntmps38 (l := [(0, [], _), (1, [], _), (2, [], _)]) rfl rfl ?_
 have S := St.refl [] w
 obtain ⟨cs, hPS, hcl, hPO⟩ := hP
 have hall := OPL.all hcl hPO
 refine Run.seq ?_
 refine Run.region ?_
 refine asg1 rfl rfl ?_
 refine Ro.nil ?_
 refine Nrm.code ?_
 refine Run.seq ?_
 refine Run.region ?_
 refine calg (vs := []) rfl trivial k28 rfl (fun hG => c28 _ (hg.now S)) ?_
 intro w1 B_; have S := S.call B_
 refine asg1 rfl rfl ?_
 refine Ro.nil ?_
 refine Nrm.code ?_
 refine Run.seq ?_
 refine Run.seq ?_
 refine Run.region ?_
 refine asg1 rfl rfl ?_
 refine Ro.nil ?_
 refine Nrm.code ?_
 refine Run.block ?_
 refine Run.loop1 (fun (i : Nat) w_ => i ≤ ps.length ∧ St [] w [] w_) (fun (i : Nat) => [(0, [], v), (1, [], .int .i64 lo), (2, [], .int .i64 hi), (7, [], .bool true), (8, [], .int .i64 i)]) (fun (i : Nat) => ps.length - i) (0) ⟨Nat.zero_le _, S⟩ ⟨rfl, rfl, rfl, rfl, rfl, trivial⟩ ?_
 rintro i w2 ⟨hi, S⟩
 refine Run.seq ?_
 refine Run.seq ?_
 refine Run.region ?_
 refine mv1 rfl rfl ?_
 refine mv1 rfl rfl ?_
 refine lenS rfl hPS Tryd.underlying43 rfl rfl rfl ?_
 refine lss1 rfl rfl rfl ?_
 refine mv1 rfl rfl ?_
 refine mv rfl rfl rfl rfl ?_
 refine pkA rfl rfl rfl rfl rfl rfl ?_
 refine Ro.nil ?_
 refine Nrm.code ?_
 refine Run.cond rfl (fun hc3 => ?_) (fun hc3 => ?_)
 ·
  try simp only [Bool.or_eq_true, Bool.and_eq_true, Bool.or_eq_false_iff, Bool.and_eq_false_iff, decide_eq_true_eq, decide_eq_false_iff_not, Bool.not_eq_true', Bool.not_eq_false', Bool.not_eq_true, Bool.not_eq_false] at hc3
  refine Run.skip ?_
  refine Nrm.code ?_
  refine Run.seq ?_
  refine Run.block ?_
  refine Run.seq ?_
  refine Run.region ?_
  have hil : i < ps.length := by omega
  obtain ⟨vB, o, d, vL, he, hB, hO, hd, hL⟩ := (hPO i hil).ex
  have hi2 : (i : Int).toNat * 46 + 46 ≤ cs.flatten.length ∧ (cs.flatten.drop ((i : Int).toNat * 46)).take 46 = encOp6 (ps.getD i opz) vB o d vL := by have h2 := flat_at hall (i := i) (by omega); rw [he] at h2; exact h2
  have hpo := hok _ (getD_mem' (d := opz) hil)
  refine mv1 rfl rfl ?_
  refine mv1 rfl rfl ?_
  refine ixa rfl rfl hPS e43 rfl rfl rfl rfl (fun _ => by first | omega | (simp only [List.length_cons, List.length_nil]; omega)) ?_
  refine ldEA rfl hPS S T144 rfl rfl rfl (by decide) rfl (fun _ => hi2) ?_
  refine alc T144 S rfl ?_
  intro b9 w3 hb9 S B_
  refine stW rfl rfl T144 rfl rfl (one_cons rfl (one_cons hB.one (one_cons rfl (one_cons rfl (one_cons rfl (one_cons rfl (one_cons rfl (one_cons rfl (one_cons rfl (one_cons rfl (one_cons rfl (one_cons rfl (one_cons rfl (one_cons rfl (one_cons rfl (one_cons rfl (one_cons rfl (one_cons rfl (one_cons rfl (one_cons rfl (one_cons rfl (one_cons rfl (one_cons rfl (one_cons rfl (one_cons rfl (one_cons rfl (one_cons rfl (one_cons rfl (one_cons rfl (one_cons rfl (one_cons rfl (one_cons rfl (one_cons rfl (one_cons rfl (one_cons rfl (one_cons rfl (one_cons rfl (one_cons rfl (one_cons rfl (one_cons rfl (one_cons rfl (one_cons rfl (one_cons rfl (one_cons hO.one (one_cons hd.one (one_cons hL.one one_nil)))))))))))))))))))))))))))))))))))))))))))))) S (i := 0) rfl rfl ?_
  intro w4 S
  refine Ro.nil ?_
  refine Nrm.code ?_
  refine Run.seq ?_
  refine Run.seq ?_
  refine Run.region ?_
  refine fld (o' := 0) rfl fo144_0 rfl rfl rfl rfl ?_
  refine ld1 rfl T3 S (i := 0) rfl rfl rfl rfl rfl ?_
  refine mv1 rfl rfl ?_
  refine lss1 rfl rfl rfl ?_
  refine mv1 rfl rfl ?_
  refine fld (o' := 0) rfl fo144_0 rfl rfl rfl rfl ?_
  refine ld1 rfl T3 S (i := 0) rfl rfl rfl rfl rfl ?_
  refine mv rfl rfl rfl rfl ?_
  refine gtr rfl rfl rfl rfl rfl rfl ?_
  refine pkO rfl rfl rfl rfl rfl rfl ?_
  refine Ro.nil ?_
  refine Nrm.code ?_
  refine Run.cond rfl (fun hc6 => ?_) (fun hc6 => ?_)
  ·
   try simp only [Bool.or_eq_true, Bool.and_eq_true, Bool.or_eq_false_iff, Bool.and_eq_false_iff, decide_eq_true_eq, decide_eq_false_iff_not, Bool.not_eq_true', Bool.not_eq_false', Bool.not_eq_true, Bool.not_eq_false] at hc6
   refine Run.exit ?_
   refine Lv.code ?_
   refine Lv.hit ?_
   refine Nrm.code ?_
   refine Run.region ?_
   refine mv1 rfl rfl ?_
   refine add1 rfl rfl rfl (w64 (by omega)) ?_
   refine asg1 rfl rfl ?_
   refine Ro.nil ?_
   refine Nrm.loop1 (i + 1) ⟨by omega, S.clear⟩ (by omega) ⟨rfl, rfl, rfl, rfl, rfl, trivial⟩
  ·
   try simp only [Bool.or_eq_true, Bool.and_eq_true, Bool.or_eq_false_iff, Bool.and_eq_false_iff, decide_eq_true_eq, decide_eq_false_iff_not, Bool.not_eq_true', Bool.not_eq_false', Bool.not_eq_true, Bool.not_eq_false] at hc6
   refine Run.skip ?_
   refine Nrm.code ?_
   refine Run.seq ?_
   refine Run.region ?_
   refine fld (o' := 0) rfl fo144_0 rfl rfl rfl rfl ?_
   refine ld1 rfl T3 S (i := 0) rfl rfl rfl rfl rfl ?_
   refine eql1 rfl rfl rfl ?_
   refine mv1 rfl rfl ?_
   refine fld (o' := 0) rfl fo144_0 rfl rfl rfl rfl ?_
   refine ld1 rfl T3 S (i := 0) rfl rfl rfl rfl rfl ?_
   refine eql rfl rfl rfl rfl rfl rfl ?_
   refine pkO rfl rfl rfl rfl rfl rfl ?_
   refine mv1 rfl rfl ?_
   refine fld (o' := 0) rfl fo144_0 rfl rfl rfl rfl ?_
   refine ld1 rfl T3 S (i := 0) rfl rfl rfl rfl rfl ?_
   refine eql rfl rfl rfl rfl rfl rfl ?_
   refine pkO rfl rfl rfl rfl rfl rfl ?_
   refine Ro.nil ?_
   refine Nrm.code ?_
   refine Run.cond rfl (fun hc7 => ?_) (fun hc7 => ?_)
   ·
    try simp only [Bool.or_eq_true, Bool.and_eq_true, Bool.or_eq_false_iff, Bool.and_eq_false_iff, decide_eq_true_eq, decide_eq_false_iff_not, Bool.not_eq_true', Bool.not_eq_false', Bool.not_eq_true, Bool.not_eq_false] at hc7
    refine Run.region ?_
    refine ldW rfl T144 S (i := 0) rfl rfl rfl rfl rfl ?_
    refine calg (vs := [_]) rfl ⟨⟨_, _, rfl, rfl⟩, trivial⟩ k106 rfl (fun hG => c106 _ vB o d vL _ hB.one (hO.now S) (hd.now S) (hL.now S) hpo.o hpo.d hpo.od hpo.l hpo.ld hpo.s hpo.t (hg.now S)) ?_
    intro w5 B_; have S := S.call B_
    refine asg1 rfl rfl ?_
    refine Ro.nil ?_
    refine Nrm.blk ?_
    refine Nrm.code ?_
    refine Run.region ?_
    refine mv1 rfl rfl ?_
    refine add1 rfl rfl rfl (w64 (by omega)) ?_
    refine asg1 rfl rfl ?_
    refine Ro.nil ?_
    refine Nrm.loop1 (i + 1) ⟨by omega, S.clear⟩ (by omega) ⟨rfl, rfl, rfl, rfl, rfl, trivial⟩
   ·
    try simp only [Bool.or_eq_true, Bool.and_eq_true, Bool.or_eq_false_iff, Bool.and_eq_false_iff, decide_eq_true_eq, decide_eq_false_iff_not, Bool.not_eq_true', Bool.not_eq_false', Bool.not_eq_true, Bool.not_eq_false] at hc7
    refine Run.region ?_
    refine ldW rfl T144 S (i := 0) rfl rfl rfl rfl rfl ?_
    refine calg (vs := [_]) rfl ⟨⟨_, _, rfl, rfl⟩, trivial⟩ k107 rfl (fun hG => c107 _ vB o d vL _ (hB.now S) hpo.b (hg.now S)) ?_
    intro w5 B_; have S := S.call B_
    refine asg1 rfl rfl ?_
    refine Ro.nil ?_
    refine Nrm.blk ?_
    refine Nrm.code ?_
    refine Run.region ?_
    refine mv1 rfl rfl ?_
    refine add1 rfl rfl rfl (w64 (by omega)) ?_
    refine asg1 rfl rfl ?_
    refine Ro.nil ?_
    refine Nrm.loop1 (i + 1) ⟨by omega, S.clear⟩ (by omega) ⟨rfl, rfl, rfl, rfl, rfl, trivial⟩
 ·
  try simp only [Bool.or_eq_true, Bool.and_eq_true, Bool.or_eq_false_iff, Bool.and_eq_false_iff, decide_eq_true_eq, decide_eq_false_iff_not, Bool.not_eq_true', Bool.not_eq_false', Bool.not_eq_true, Bool.not_eq_false] at hc3
  refine Run.exit ?_
  refine Lv.code ?_
  refine Lv.back ?_
  refine Lv.hit ?_
  refine Nrm.code ?_
  refine Run.seq ?_
  refine Run.region ?_
  refine mv1 rfl rfl ?_
  refine asg1 rfl rfl ?_
  refine Ro.nil ?_
  refine Nrm.code ?_
  refine Run.ret ?_
  refine Rt.one rfl rfl ?_
  exact ⟨rfl, S.bl⟩
set_option maxHeartbeats 1000000 in
theorem c6 (v : Value) (ps : List Op6) (w : World) (hP : OPL [] w v ps) (hok : ∀ p ∈ ps, p.ok) (hl : ps.length ≤ 1099511627000) (hg : GV [] w 0 130 (W4.map i64)) :
  CallsD Tryd.prog 6 #[v] w (.bool true) := by
 refine enter Tryd.func6 rfl Tryd.ntmps6 (l := [(0, [], _)]) rfl rfl ?_
 have S := St.refl [] w
 refine Run.seq ?_
 refine Run.region ?_
 refine asg1 rfl rfl ?_
 refine Ro.nil ?_
 refine Nrm.code ?_
 refine Run.seq ?_
 refine Run.region ?_
 refine mv1 rfl rfl ?_
 refine calg (vs := [_, _, _]) rfl ⟨⟨_, _, rfl, rfl⟩, ⟨_, _, rfl, rfl⟩, ⟨_, _, rfl, rfl⟩, trivial⟩ k38 rfl (fun hG => c38 _ ps _ _ _ hP hok hl hg) ?_
 intro w1 B_; have S := S.call B_
 refine asg1 rfl rfl ?_
 refine Ro.nil ?_
 refine Nrm.code ?_
 refine Run.ret ?_
 refine Rt.one rfl rfl ?_
 exact ⟨rfl, S.bl⟩
set_option maxHeartbeats 1000000 in
theorem c7 (v : Value) (ps : List Op6) (w : World) (hP : OPL [] w v ps) (hok : ∀ p ∈ ps, p.ok) (hl : ps.length ≤ 1099511627000) (hg : GV [] w 0 130 (W4.map i64)) :
  CallsD Tryd.prog 7 #[v] w (.bool true) := by
 refine enter Tryd.func7 rfl Tryd.ntmps7 (l := [(0, [], _)]) rfl rfl ?_
 have S := St.refl [] w
 refine Run.seq ?_
 refine Run.region ?_
 refine asg1 rfl rfl ?_
 refine Ro.nil ?_
 refine Nrm.code ?_
 refine Run.seq ?_
 refine Run.region ?_
 refine mv1 rfl rfl ?_
 refine calg (vs := [_, _, _]) rfl ⟨⟨_, _, rfl, rfl⟩, ⟨_, _, rfl, rfl⟩, ⟨_, _, rfl, rfl⟩, trivial⟩ k38 rfl (fun hG => c38 _ ps _ _ _ hP hok hl hg) ?_
 intro w1 B_; have S := S.call B_
 refine asg1 rfl rfl ?_
 refine Ro.nil ?_
 refine Nrm.code ?_
 refine Run.ret ?_
 refine Rt.one rfl rfl ?_
 exact ⟨rfl, S.bl⟩
set_option maxHeartbeats 1000000 in
theorem c8 (v : Value) (ps : List Op6) (w : World) (hP : OPL [] w v ps) (hok : ∀ p ∈ ps, p.ok) (hl : ps.length ≤ 1099511627000) (hg : GV [] w 0 130 (W4.map i64)) :
  CallsD Tryd.prog 8 #[v] w (.bool true) := by
 refine enter Tryd.func8 rfl Tryd.ntmps8 (l := [(0, [], _)]) rfl rfl ?_
 have S := St.refl [] w
 refine Run.seq ?_
 refine Run.region ?_
 refine asg1 rfl rfl ?_
 refine Ro.nil ?_
 refine Nrm.code ?_
 refine Run.seq ?_
 refine Run.region ?_
 refine mv1 rfl rfl ?_
 refine calg (vs := [_, _, _]) rfl ⟨⟨_, _, rfl, rfl⟩, ⟨_, _, rfl, rfl⟩, ⟨_, _, rfl, rfl⟩, trivial⟩ k38 rfl (fun hG => c38 _ ps _ _ _ hP hok hl hg) ?_
 intro w1 B_; have S := S.call B_
 refine asg1 rfl rfl ?_
 refine Ro.nil ?_
 refine Nrm.code ?_
 refine Run.ret ?_
 refine Rt.one rfl rfl ?_
 exact ⟨rfl, S.bl⟩
end Go.Proofs.YtkahmepenjhcpaaDoor.W
/- Contracts: scripts of layer 9. No statement of the seat is proved here. -/
namespace Go.Proofs.YtkahmepenjhcpaaDoor.W
open Go
set_option linter.unusedSimpArgs false
set_option linter.unusedVariables false
theorem e69 : ElT Tryd.prog 69 158 51 264 [.int .i64 0, .int .i64 0, .int .u8 0, .int .u8 0, .int .u8 0, .int .u8 0, .int .u8 0, .int .u8 0, .int .u8 0, .int .u8 0, .int .u8 0, .int .u8 0, .int .u8 0, .int .u8 0, .int .u8 0, .int .u8 0, .int .u8 0, .int .u8 0, .int .i64 0, .int .u8 0, .int .u8 0, .int .u8 0, .int .u8 0, .int .u8 0, .int .u8 0, .int .u8 0, .int .u8 0, .int .u8 0, .int .u8 0, .int .u8 0, .int .u8 0, .int .u8 0, .int .u8 0, .int .u8 0, .int .u8 0, .slice none 0 0, .int .i64 0, .int .i64 0, .bool false, .slice none 0 0, .int .i64 0, .int .i64 0, .int .i64 0, .int .i64 0, .int .i64 0, .int .i64 0, .int .i64 0, .slice none 0 0, .slice none 0 0, .slice none 0 0, .int .i64 0] := ⟨Tryd.underlying69, by kernel_rfl, rfl, by decide⟩
def opz9 : Op9 := ⟨0, ⟨0, fun _ => 0⟩, ⟨0, fun _ => 0⟩, [], u00, t00, [], 0⟩
/-- one call of a script, as it is read -/
structure O9 (N : List Nat) (w : World) (c : List Value) (p : Op9) : Prop where
  ex : ∃ vB ud to_ td vL, c = encOp9 p vB ud to_ td vL ∧ BS N w vB p.b ∧ BS N w ud p.u.data ∧ OS N w to_ p.t.opts ∧ BS N w td p.t.data ∧ OS N w vL p.l
theorem O9.st {N0 : List Nat} {w0 w : World} {L : List Own} {c : List Value} {p : Op9} (h : O9 N0 w0 c p) (S : St N0 w0 L w) : O9 (idsL L) w c p :=
  let ⟨vB, ud, to_, td, vL, h1, h2, h3, h4, h5, h6⟩ := h.ex; ⟨vB, ud, to_, td, vL, h1, h2.st S, h3.st S, h4.st S, h5.st S, h6.st S⟩
theorem O9.len {N : List Nat} {w : World} {c : List Value} {p : Op9} (h : O9 N w c p) : c.length = 51 := by
  obtain ⟨vB, ud, to_, td, vL, rfl, _⟩ := h.ex; rfl
structure Op9.ok (p : Op9) : Prop where
  b : p.b.length ≤ 1099511627000
  ud : p.u.data.length ≤ 1099511627000
  o : p.t.opts.length ≤ 1099511627000
  od : ∀ x ∈ p.t.opts, x.data.length ≤ 1099511627000
  d : p.t.data.length ≤ 1099511627000
  l : p.l.length ≤ 1099511627000
  ld : ∀ x ∈ p.l, x.data.length ≤ 1099511627000
  s : p.s.ok
  t : p.d.ok
/-- a script -/
def OPL9 (N : List Nat) (w : World) (v : Value) (ps : List Op9) : Prop :=
  ∃ cs : List (List Value), Sl N w 51 v ps.length cs.flatten ∧ cs.length = ps.length ∧ ∀ i, i < ps.length → O9 N w (cs.getD i []) (ps.getD i opz9)
theorem OPL9.all {N : List Nat} {w : World} {cs : List (List Value)} {ps : List Op9} (hl : cs.length = ps.length) (h : ∀ i, i < ps.length → O9 N w (cs.getD i []) (ps.getD i opz9)) : ∀ c ∈ cs, c.length = 51 := by
  intro c hc
  obtain ⟨i, hi, rfl⟩ := List.getElem_of_mem hc
  have := (h i (by omega)).len
  rwa [List.getD_eq_getElem?_getD, List.getElem?_eq_getElem hi] at this
set_option maxHeartbeats 1000000 in
theorem c53 (v : Value) (ps : List Op9) (lo hi : Int) (w : World) (hP : OPL9 [] w v ps) (hok : ∀ p ∈ ps, p.ok) (hl : ps.length ≤ 1099511627000) (hg1 : GV [] w 1 163 (W16.map i64)) (hg2 : GV [] w 2 166 (W10.map i64)) (hg3 : GV [] w 3 183 (lenT.map u64)) :
  CallsD Tryd.prog 53 #[v, .int .i64 lo, .int .i64 hi] w (.bool true) := by
 refine enter Tryd.func53 rfl Tryd.ntmps53 (l := [(0, [], _), (1, [], _), (2, [], _)]) rfl rfl ?_
 have S := St.refl [] w
 obtain ⟨cs, hPS, hcl, hPO⟩ := hP
 have hall := OPL9.all hcl hPO
 refine Run.seq ?_
 refine Run.region ?_
 refine asg1 rfl rfl ?_
 refine Ro.nil ?_
 refine Nrm.code ?_
 refine Run.seq ?_
 refine Run.region ?_
 refine calg (vs := []) rfl trivial k54 rfl (fun hG => c54 _ (hg1.now S) (hg2.now S) (hg3.now S)) ?_
 intro w1 B_; have S := S.call B_
 refine asg1 rfl rfl ?_
 refine Ro.nil ?_
 refine Nrm.code ?_
 refine Run.seq ?_
 refine Run.seq ?_
 refine Run.region ?_
 refine asg1 rfl rfl ?_
 refine Ro.nil ?_
 refine Nrm.code ?_
 refine Run.block ?_
 refine Run.loop1 (fun (i : Nat) w_ => i ≤ ps.length ∧ St [] w [] w_) (fun (i : Nat) => [(0, [], v), (1, [], .int .i64 lo), (2, [], .int .i64 hi), (7, [], .bool true), (8, [], .int .i64 i)]) (fun (i : Nat) => ps.length - i) (0) ⟨Nat.zero_le _, S⟩ ⟨rfl, rfl, rfl, rfl, rfl, trivial⟩ ?_
 rintro i w2 ⟨hi, S⟩
 refine Run.seq ?_
 refine Run.seq ?_
 refine Run.region ?_
 refine mv1 rfl rfl ?_
 refine mv1 rfl rfl ?_
 refine lenS rfl hPS Tryd.underlying69 rfl rfl rfl ?_
 refine lss1 rfl rfl rfl ?_
 refine mv1 rfl rfl ?_
 refine mv rfl rfl rfl rfl ?_
 refine pkA rfl rfl rfl rfl rfl rfl ?_
 refine Ro.nil ?_
 refine Nrm.code ?_
 refine Run.cond rfl (fun hc3 => ?_) (fun hc3 => ?_)
 ·
  try simp only [Bool.or_eq_true, Bool.and_eq_true, Bool.or_eq_false_iff, Bool.and_eq_false_iff, decide_eq_true_eq, decide_eq_false_iff_not, Bool.not_eq_true', Bool.not_eq_false', Bool.not_eq_true, Bool.not_eq_false] at hc3
  refine Run.skip ?_
  refine Nrm.code ?_
  refine Run.seq ?_
  refine Run.block ?_
  refine Run.seq ?_
  refine Run.region ?_
  have hil : i < ps.length := by omega
  obtain ⟨vB, ud, to_, td, vL, he, hB, hud, hto, htd, hL⟩ := (hPO i hil).ex
  have hi2 : (i : Int).toNat * 51 + 51 ≤ cs.flatten.length ∧ (cs.flatten.drop ((i : Int).toNat * 51)).take 51 = encOp9 (ps.getD i opz9) vB ud to_ td vL := by have h2 := flat_at hall (i := i) (by omega); rw [he] at h2; exact h2
  have hpo := hok _ (getD_mem' (d := opz9) hil)
  refine mv1 rfl rfl ?_
  refine mv1 rfl rfl ?_
  refine ixa rfl rfl hPS e69 rfl rfl rfl rfl (fun _ => by first | omega | (simp only [List.length_cons, List.length_nil]; omega)) ?_
  refine ldEA rfl hPS S T158 rfl rfl rfl (by decide) rfl (fun _ => hi2) ?_
  refine alc T158 S rfl ?_
  intro b9 w3 hb9 S B_
  refine stW rfl rfl T158 rfl rfl (one_cons rfl (one_cons rfl (one_cons rfl (one_cons rfl (one_cons rfl (one_cons rfl (one_cons rfl (one_cons rfl (one_cons rfl (one_cons rfl (one_cons rfl (one_cons rfl (one_cons rfl (one_cons rfl (one_cons rfl (one_cons rfl (one_cons rfl (one_cons rfl (one_cons rfl (one_cons rfl (one_cons rfl (one_cons rfl (one_cons rfl (one_cons rfl (one_cons rfl (one_cons rfl (one_cons rfl (one_cons rfl (one_cons rfl (one_cons rfl (one_cons rfl (one_cons rfl (one_cons rfl (one_cons rfl (one_cons rfl (one_cons hB.one (one_cons rfl (one_cons rfl (one_cons rfl (one_cons hud.one (one_cons rfl (one_cons rfl (one_cons rfl (one_cons rfl (one_cons rfl (one_cons rfl (one_cons rfl (one_cons hto.one (one_cons htd.one (one_cons hL.one (one_cons rfl one_nil))))))))))))))))))))))))))))))))))))))))))))))))))) S (i := 0) rfl rfl ?_
  intro w4 S
  refine Ro.nil ?_
  refine Nrm.code ?_
  refine Run.block ?_
  refine Run.seq ?_
  refine Run.region ?_
  refine fld (o' := 0) rfl fo158_0 rfl rfl rfl rfl ?_
  refine ld1 rfl T3 S (i := 0) rfl rfl rfl rfl rfl ?_
  refine mv1 rfl rfl ?_
  refine lss1 rfl rfl rfl ?_
  refine mv1 rfl rfl ?_
  refine fld (o' := 0) rfl fo158_0 rfl rfl rfl rfl ?_
  refine ld1 rfl T3 S (i := 0) rfl rfl rfl rfl rfl ?_
  refine mv rfl rfl rfl rfl ?_
  refine gtr rfl rfl rfl rfl rfl rfl ?_
  refine pkO rfl rfl rfl rfl rfl rfl ?_
  refine asg1 rfl rfl ?_
  refine Ro.nil ?_
  refine Nrm.code ?_
  refine Run.cond rfl (fun hc7 => ?_) (fun hc7 => ?_)
  ·
   try simp only [Bool.or_eq_true, Bool.and_eq_true, Bool.or_eq_false_iff, Bool.and_eq_false_iff, decide_eq_true_eq, decide_eq_false_iff_not, Bool.not_eq_true', Bool.not_eq_false', Bool.not_eq_true, Bool.not_eq_false] at hc7
   refine Run.skip ?_
   refine Nrm.blk ?_
   refine Nrm.blk ?_
   refine Nrm.code ?_
   refine Run.region ?_
   refine mv1 rfl rfl ?_
   refine add1 rfl rfl rfl (w64 (by omega)) ?_
   refine asg1 rfl rfl ?_
   refine Ro.nil ?_
   refine Nrm.loop1 (i + 1) ⟨by omega, S.clear⟩ (by omega) ⟨rfl, rfl, rfl, rfl, rfl, trivial⟩
  ·
   try simp only [Bool.or_eq_true, Bool.and_eq_true, Bool.or_eq_false_iff, Bool.and_eq_false_iff, decide_eq_true_eq, decide_eq_false_iff_not, Bool.not_eq_true', Bool.not_eq_false', Bool.not_eq_true, Bool.not_eq_false] at hc7
   refine Run.seq ?_
   refine Run.region ?_
   refine fld (o' := 0) rfl fo158_0 rfl rfl rfl rfl ?_
   refine ld1 rfl T3 S (i := 0) rfl rfl rfl rfl rfl ?_
   refine eql1 rfl rfl rfl ?_
   refine mv1 rfl rfl ?_
   refine fld (o' := 0) rfl fo158_0 rfl rfl rfl rfl ?_
   refine ld1 rfl T3 S (i := 0) rfl rfl rfl rfl rfl ?_
   refine eql rfl rfl rfl rfl rfl rfl ?_
   refine pkO rfl rfl rfl rfl rfl rfl ?_
   refine mv1 rfl rfl ?_
   refine fld (o' := 0) rfl fo158_0 rfl rfl rfl rfl ?_
   refine ld1 rfl T3 S (i := 0) rfl rfl rfl rfl rfl ?_
   refine eql rfl rfl rfl rfl rfl rfl ?_
   refine pkO rfl rfl rfl rfl rfl rfl ?_
   refine asg1 rfl rfl ?_
   refine Ro.nil ?_
   refine Nrm.code ?_
   refine Run.cond rfl (fun hc8 => ?_) (fun hc8 => ?_)
   ·
    try simp only [Bool.or_eq_true, Bool.and_eq_true, Bool.or_eq_false_iff, Bool.and_eq_false_iff, decide_eq_true_eq, decide_eq_false_iff_not, Bool.not_eq_true', Bool.not_eq_false', Bool.not_eq_true, Bool.not_eq_false] at hc8
    refine Run.region ?_
    refine ldW rfl T158 S (i := 0) rfl rfl rfl rfl rfl ?_
    refine calg (vs := [_]) rfl ⟨⟨_, _, rfl, rfl⟩, trivial⟩ k119 rfl (fun hG => c119 _ vB ud to_ td vL _ (hB.now S) hpo.b hpo.s hpo.t (hg1.now S) (hg2.now S) (hg3.now S)) ?_
    intro w5 B_; have S := S.call B_
    refine asg1 rfl rfl ?_
    refine Ro.nil ?_
    refine Nrm.blk ?_
    refine Nrm.blk ?_
    refine Nrm.code ?_
    refine Run.region ?_
    refine mv1 rfl rfl ?_
    refine add1 rfl rfl rfl (w64 (by omega)) ?_
    refine asg1 rfl rfl ?_
    refine Ro.nil ?_
    refine Nrm.loop1 (i + 1) ⟨by omega, S.clear⟩ (by omega) ⟨rfl, rfl, rfl, rfl, rfl, trivial⟩
   ·
    try simp only [Bool.or_eq_true, Bool.and_eq_true, Bool.or_eq_false_iff, Bool.and_eq_false_iff, decide_eq_true_eq, decide_eq_false_iff_not, Bool.not_eq_true', Bool.not_eq_false', Bool.not_eq_true, Bool.not_eq_false] at hc8
    refine Run.seq ?_
    refine Run.region ?_
    refine fld (o' := 0) rfl fo158_0 rfl rfl rfl rfl ?_
    refine ld1 rfl T3 S (i := 0) rfl rfl rfl rfl rfl ?_
    refine eql1 rfl rfl rfl ?_
    refine mv1 rfl rfl ?_
    refine fld (o' := 0) rfl fo158_0 rfl rfl rfl rfl ?_
    refine ld1 rfl T3 S (i := 0) rfl rfl rfl rfl rfl ?_
    refine eql rfl rfl rfl rfl rfl rfl ?_
    refine pkO rfl rfl rfl rfl rfl rfl ?_
    refine asg1 rfl rfl ?_
    refine Ro.nil ?_
    refine Nrm.code ?_
    refine Run.cond rfl (fun hc10 => ?_) (fun hc10 => ?_)
    ·
     try simp only [Bool.or_eq_true, Bool.and_eq_true, Bool.or_eq_false_iff, Bool.and_eq_false_iff, decide_eq_true_eq, decide_eq_false_iff_not, Bool.not_eq_true', Bool.not_eq_false', Bool.not_eq_true, Bool.not_eq_false] at hc10
     refine Run.region ?_
     refine ldW rfl T158 S (i := 0) rfl rfl rfl rfl rfl ?_
     refine calg (vs := [_]) rfl ⟨⟨_, _, rfl, rfl⟩, trivial⟩ k120 rfl (fun hG => c120 _ vB ud to_ td vL _ (hud.now S) hpo.ud hpo.s hpo.t (hg1.now S) (hg2.now S) (hg3.now S)) ?_
     intro w5 B_; have S := S.call B_
     refine asg1 rfl rfl ?_
     refine Ro.nil ?_
     refine Nrm.blk ?_
     refine Nrm.blk ?_
     refine Nrm.code ?_
     refine Run.region ?_
     refine mv1 rfl rfl ?_
     refine add1 rfl rfl rfl (w64 (by omega)) ?_
     refine asg1 rfl rfl ?_
     refine Ro.nil ?_
     refine Nrm.loop1 (i + 1) ⟨by omega, S.clear⟩ (by omega) ⟨rfl, rfl, rfl, rfl, rfl, trivial⟩
    ·
     try simp only [Bool.or_eq_true, Bool.and_eq_true, Bool.or_eq_false_iff, Bool.and_eq_false_iff, decide_eq_true_eq, decide_eq_false_iff_not, Bool.not_eq_true', Bool.not_eq_false', Bool.not_eq_true, Bool.not_eq_false] at hc10
     refine Run.region ?_
     refine ldW rfl T158 S (i := 0) rfl rfl rfl rfl rfl ?_
     refine calg (vs := [_]) rfl ⟨⟨_, _, rfl, rfl⟩, trivial⟩ k121 rfl (fun hG => c121 _ vB ud to_ td vL _ (hto.now S) (htd.now S) (hL.now S) hpo.o hpo.od hpo.d hpo.l hpo.ld hpo.s hpo.t (hg1.now S) (hg2.now S) (hg3.now S)) ?_
     intro w5 B_; have S := S.call B_
     refine asg1 rfl rfl ?_
     refine Ro.nil ?_
     refine Nrm.blk ?_
     refine Nrm.blk ?_
     refine Nrm.code ?_
     refine Run.region ?_
     refine mv1 rfl rfl ?_
     refine add1 rfl rfl rfl (w64 (by omega)) ?_
     refine asg1 rfl rfl ?_
     refine Ro.nil ?_
     refine Nrm.loop1 (i + 1) ⟨by omega, S.clear⟩ (by omega) ⟨rfl, rfl, rfl, rfl, rfl, trivial⟩
 ·
  try simp only [Bool.or_eq_true, Bool.and_eq_true, Bool.or_eq_false_iff, Bool.and_eq_false_iff, decide_eq_true_eq, decide_eq_false_iff_not, Bool.not_eq_true', Bool.not_eq_false', Bool.not_eq_true, Bool.not_eq_false] at hc3
  refine Run.exit ?_
  refine Lv.code ?_
  refine Lv.back ?_
  refine Lv.hit ?_
  refine Nrm.code ?_
  refine Run.seq ?_
  refine Run.region ?_
  refine mv1 rfl rfl ?_
  refine asg1 rfl rfl ?_
  refine Ro.nil ?_
  refine Nrm.code ?_
  refine Run.ret ?_
  refine Rt.one rfl rfl ?_
  exact ⟨rfl, S.bl⟩
set_option maxHeartbeats 1000000 in
theorem c14 (v : Value) (ps : List Op9) (w : World) (hP : OPL9 [] w v ps) (hok : ∀ p ∈ ps, p.ok) (hl : ps.length ≤ 1099511627000) (hg1 : GV [] w 1 163 (W16.map i64)) (hg2 : GV [] w 2 166 (W10.map i64)) (hg3 : GV [] w 3 183 (lenT.map u64)) :
  CallsD Tryd.prog 14 #[v] w (.bool true) := by
 refine enter Tryd.func14 rfl Tryd.ntmps14 (l := [(0, [], _)]) rfl rfl ?_
 have S := St.refl [] w
 refine Run.seq ?_
 refine Run.region ?_
 refine asg1 rfl rfl ?_
 refine Ro.nil ?_
 refine Nrm.code ?_
 refine Run.seq ?_
 refine Run.region ?_
 refine mv1 rfl rfl ?_
 refine calg (vs := [_, _, _]) rfl ⟨⟨_, _, rfl, rfl⟩, ⟨_, _, rfl, rfl⟩, ⟨_, _, rfl, rfl⟩, trivial⟩ k53 rfl (fun hG => c53 _ ps _ _ _ hP hok hl hg1 hg2 hg3) ?_
 intro w1 B_; have S := S.call B_
 refine asg1 rfl rfl ?_
 refine Ro.nil ?_
 refine Nrm.code ?_
 refine Run.ret ?_
 refine Rt.one rfl rfl ?_
 exact ⟨rfl, S.bl⟩
set_option maxHeartbeats 1000000 in
theorem c15 (v : Value) (ps : List Op9) (w : World) (hP : OPL9 [] w v ps) (hok : ∀ p ∈ ps, p.ok) (hl : ps.length ≤ 1099511627000) (hg1 : GV [] w 1 163 (W16.map i64)) (hg2 : GV [] w 2 166 (W10.map i64)) (hg3 : GV [] w 3 183 (lenT.map u64)) :
  CallsD Tryd.prog 15 #[v] w (.bool true) := by
 refine enter Tryd.func15 rfl Tryd.ntmps15 (l := [(0, [], _)]) rfl rfl ?_
 have S := St.refl [] w
 refine Run.seq ?_
 refine Run.region ?_
 refine asg1 rfl rfl ?_
 refine Ro.nil ?_
 refine Nrm.code ?_
 refine Run.seq ?_
 refine Run.region ?_
 refine mv1 rfl rfl ?_
 refine calg (vs := [_, _, _]) rfl ⟨⟨_, _, rfl, rfl⟩, ⟨_, _, rfl, rfl⟩, ⟨_, _, rfl, rfl⟩, trivial⟩ k53 rfl (fun hG => c53 _ ps _ _ _ hP hok hl hg1 hg2 hg3) ?_
 intro w1 B_; have S := S.call B_
 refine asg1 rfl rfl ?_
 refine Ro.nil ?_
 refine Nrm.code ?_
 refine Run.ret ?_
 refine Rt.one rfl rfl ?_
 exact ⟨rfl, S.bl⟩
set_option maxHeartbeats 1000000 in
theorem c16 (v : Value) (ps : List Op9) (w : World) (hP : OPL9 [] w v ps) (hok : ∀ p ∈ ps, p.ok) (hl : ps.length ≤ 1099511627000) (hg1 : GV [] w 1 163 (W16.map i64)) (hg2 : GV [] w 2 166 (W10.map i64)) (hg3 : GV [] w 3 183 (lenT.map u64)) :
  CallsD Tryd.prog 16 #[v] w (.bool true) := by
 refine enter Tryd.func16 rfl Tryd.ntmps16 (l := [(0, [], _)]) rfl rfl ?_
 have S := St.refl [] w
 refine Run.seq ?_
 refine Run.region ?_
 refine asg1 rfl rfl ?_
 refine Ro.nil ?_
 refine Nrm.code ?_
 refine Run.seq ?_
 refine Run.region ?_
 refine mv1 rfl rfl ?_
 refine calg (vs := [_, _, _]) rfl ⟨⟨_, _, rfl, rfl⟩, ⟨_, _, rfl, rfl⟩, ⟨_, _, rfl, rfl⟩, trivial⟩ k53 rfl (fun hG => c53 _ ps _ _ _ hP hok hl hg1 hg2 hg3) ?_
 intro w1 B_; have S := S.call B_
 refine asg1 rfl rfl ?_
 refine Ro.nil ?_
 refine Nrm.code ?_
 refine Run.ret ?_
 refine Rt.one rfl rfl ?_
 exact ⟨rfl, S.bl⟩
set_option maxHeartbeats 1000000 in
theorem c17 (v : Value) (ps : List Op9) (w : World) (hP : OPL9 [] w v ps) (hok : ∀ p ∈ ps, p.ok) (hl : ps.length ≤ 1099511627000) (hg1 : GV [] w 1 163 (W16.map i64)) (hg2 : GV [] w 2 166 (W10.map i64)) (hg3 : GV [] w 3 183 (lenT.map u64)) :
  CallsD Tryd.prog 17 #[v] w (.bool true) := by
 refine enter Tryd.func17 rfl Tryd.ntmps17 (l := [(0, [], _)]) rfl rfl ?_
 have S := St.refl [] w
 refine Run.seq ?_
 refine Run.region ?_
 refine asg1 rfl rfl ?_
 refine Ro.nil ?_
 refine Nrm.code ?_
 refine Run.seq ?_
 refine Run.region ?_
 refine mv1 rfl rfl ?_
 refine calg (vs := [_, _, _]) rfl ⟨⟨_, _, rfl, rfl⟩, ⟨_, _, rfl, rfl⟩, ⟨_, _, rfl, rfl⟩, trivial⟩ k53 rfl (fun hG => c53 _ ps _ _ _ hP hok hl hg1 hg2 hg3) ?_
 intro w1 B_; have S := S.call B_
 refine asg1 rfl rfl ?_
 refine Ro.nil ?_
 refine Nrm.code ?_
 refine Run.ret ?_
 refine Rt.one rfl rfl ?_
 exact ⟨rfl, S.bl⟩
end Go.Proofs.YtkahmepenjhcpaaDoor.W
/- What the reading of a script of layer 9 gives. No statement of the seat is proved here. -/
namespace Go.Proofs.YtkahmepenjhcpaaDoor.W
open Go
set_option linter.unusedVariables false
set_option linter.unusedSimpArgs false
section
variable {H : Type} {enc : TypeId × Value → H} {W : World} {hd : Bool} {n : Nat} {cs : List Value} {x : DataW H × List MemPlace}
theorem cells158 : Tryd.prog.cellsOf 158 = 51 := by kernel_rfl
theorem cells73' : Tryd.prog.cellsOf 73 = 4 := by kernel_rfl
theorem cells82' : Tryd.prog.cellsOf 82 = 9 := by kernel_rfl
/-- one call, read -/
theorem rd_op9 (h : DataW.trod enc Tryd.prog W 0 (fun _ => true) hd n 158 cs = some x) (hb : Rows.uptoBulk x.1 ≤ 1048576) : ∃ p : Op9, O9 [] W cs p ∧ p.ok := by
  have hl := rd_len Tryd.underlying158 h
  rw [cells158] at hl
  obtain ⟨y0, k0, g0, b0⟩ := rd_field Tryd.underlying158 h 0 (ft := 3) (off := 0) rfl cells3
  obtain ⟨y1, k1, g1, b1⟩ := rd_field Tryd.underlying158 h 1 (ft := 24) (off := 1) rfl cells24
  obtain ⟨y2, k2, g2, b2⟩ := rd_field Tryd.underlying158 h 2 (ft := 24) (off := 18) rfl cells24
  obtain ⟨y3, k3, g3, b3⟩ := rd_field Tryd.underlying158 h 3 (ft := 26) (off := 35) rfl cells26
  obtain ⟨y4, k4, g4, b4⟩ := rd_field Tryd.underlying158 h 4 (ft := 73) (off := 36) rfl cells73'
  obtain ⟨y5, k5, g5, b5⟩ := rd_field Tryd.underlying158 h 5 (ft := 82) (off := 40) rfl cells82'
  obtain ⟨y6, k6, g6, b6⟩ := rd_field Tryd.underlying158 h 6 (ft := 25) (off := 49) rfl cells25
  obtain ⟨y7, k7, g7, b7⟩ := rd_field Tryd.underlying158 h 7 (ft := 3) (off := 50) rfl cells3
  obtain ⟨v0, e0, i0⟩ := rd_int g0
  obtain ⟨sA, e1, o1⟩ := rd_ip g1
  obtain ⟨dA, e2, o2⟩ := rd_ip g2
  obtain ⟨vB, e3⟩ := take_one (cs := cs) (a := 35) (by omega)
  obtain ⟨u, ud, e4, hud, huok, hul⟩ := rd_udp g4
  obtain ⟨t, to_, td, e5, hto, htd, htok, htl1, htl2, htl3⟩ := rd_tcp g5
  obtain ⟨vL, e6⟩ := take_one (cs := cs) (a := 49) (by omega)
  obtain ⟨v7, e7, i7⟩ := rd_int g7
  rw [e3] at g3
  rw [e6] at g6
  obtain ⟨b, hB, hbl⟩ := rd_bytes g3
  obtain ⟨l, hL, hL1, hL2⟩ := rd_opts g6
  refine ⟨⟨v0, sA, dA, b, u, t, l, v7⟩, ⟨vB, ud, to_, td, vL, ?_, hB, hud, hto, htd, hL⟩, ⟨by show b.length ≤ _; omega, by show u.data.length ≤ _; omega, by show t.opts.length ≤ _; omega, fun p hp => by have := htl2 p hp; omega, by show t.data.length ≤ _; omega, by show l.length ≤ _; omega, fun p hp => by have := (hL2 p hp).2; omega, o1, o2⟩⟩
  have c0 := cut_at e0
  rw [List.drop_zero] at c0
  rw [c0, cut_at e1, cut_at e2, cut_at e3, cut_at e4, cut_at e5, cut_at e6, cut_at e7, List.drop_eq_nil_of_le (by omega)]
  simp [encOp9]
/-- a script, read -/
theorem rd_ops9 {v : Value} (h : DataW.trod enc Tryd.prog W 0 (fun _ => true) hd n 69 [v] = some x) (hb : Rows.uptoBulk x.1 ≤ 1048576) : ∃ ps : List Op9, OPL9 [] W v ps ∧ (∀ p ∈ ps, p.ok) ∧ ps.length ≤ 1048576 := by
  obtain ⟨cs, hS, hall, hl, hg⟩ := rd_slice Tryd.underlying69 cells158 (by decide) h
  have hx : ∀ i, ∃ p : Op9, i < cs.length → O9 [] W (cs.getD i []) p ∧ p.ok := by
    intro i
    by_cases hi : i < cs.length
    · obtain ⟨y, k, g1, g2⟩ := hg i hi
      obtain ⟨p, h1, h2⟩ := rd_op9 g1 (Nat.le_trans g2 hb)
      exact ⟨p, fun _ => ⟨h1, h2⟩⟩
    · exact ⟨opz9, fun h => absurd h hi⟩
  obtain ⟨f, hf⟩ := Classical.axiomOfChoice hx
  have hfl : ((List.range cs.length).map f).length = cs.length := by simp
  refine ⟨(List.range cs.length).map f, ⟨cs, by rw [hfl]; exact hS, by rw [hfl], fun i hi => ?_⟩, fun p hp => ?_, by rw [hfl]; omega⟩
  · rw [hfl] at hi
    have e : ((List.range cs.length).map f).getD i opz9 = f i := by simp [List.getD_eq_getElem?_getD, List.getElem?_map, List.getElem?_range hi]
    rw [e]; exact (hf i hi).1
  · obtain ⟨i, hi, rfl⟩ := List.mem_map.1 hp
    exact (hf i (List.mem_range.1 hi)).2
end
end Go.Proofs.YtkahmepenjhcpaaDoor.W
/- A reading of the arguments stands behind a call that leaves what was there. No statement of the seat is proved here. -/
namespace Go.Proofs.YtkahmepenjhcpaaDoor.W
open Go
set_option linter.unusedVariables false
theorem laidOut : laidOutB Tryd.prog = true := by kernel_rfl
theorem mapsR : mapsRowed Tryd.prog = true := by kernel_rfl
def sizedB (P : Program) : Bool := (List.range P.types.size).all fun t => match P.underlying t with
  | some (.slice e) => decide (0 < P.cellsOf e)
  | _ => true
theorem sizedAll : sizedB Tryd.prog = true := by kernel_rfl
theorem sized {t e : TypeId} (ht : t < Tryd.prog.types.size) (hu : Tryd.prog.underlying t = some (.slice e)) : 0 < Tryd.prog.cellsOf e := by
  have h := sizedAll
  unfold sizedB at h
  rw [List.all_eq_true] at h
  have := h t (List.mem_range.2 ht)
  rw [hu] at this
  simpa using this
theorem stays {H : Type} {enc : TypeId × Value → H} {W W' : World} {t : TypeId} {v : Value} {d : DataW H} {p : List MemPlace} (B : Bl W W') (ht : t < Tryd.prog.types.size)
    (h : DataW.Trod enc Tryd.prog W 0 (fun _ => true) true t v d p) (sp : Nat → Bool) (hs : ∀ q ∈ p, sp q.block = true) : DataW.Trod enc Tryd.prog W' 0 sp true t v d p := by
  obtain ⟨n, h⟩ := h
  exact ⟨n, DataW.trod_stays (T := (· < Tryd.prog.types.size)) (kids_rows laidOut mapsR) (fun ht hu => sized ht hu) (fun h => by cases h) ht h
    (fun q hq => Go.RowKit.Below.same B (DataW.trod_lt n t _ _ h q hq)) hs⟩
/-- what a call that only reads leaves: the row's own answer -/
theorem post_kept {H : Type} {enc : TypeId × Value → H} {P : Program} {s : ChangeSpec} {f : Func} {apart fresh handsOn again : Bool} {W W' : World} {args : Array Value} {v : Value} {ds gs : List (DataW H)} {before pa : List MemPlace}
    (hW : DataW.Whole enc P f.params.toList s.vars apart W args.toList ds gs before)
    (hres : ∀ (b : Nat) (sp : Nat → Bool) (hd : Bool), DataW.TrodAll enc P W' b sp hd f.resultTypes.toList (v.resultList f.resultTypes.size) (s.fn H (ds ++ gs)).results [])
    (hargs : ∀ sp : Nat → Bool, (∀ p ∈ before, sp p.block = true) → DataW.TrodAll enc P W' 0 sp true f.params.toList args.toList (s.fn H (ds ++ gs)).args pa)
    (hvars : ∀ sp : Nat → Bool, DataW.TrodVars enc P W' sp s.vars (s.fn H (ds ++ gs)).vars [])
    (hps : before = pa) (B : Bl W W')
    (hok : ∀ (j : Nat) (t : TypeId) (r : Value), f.resultTypes[j]? = some t → (v.resultList f.resultTypes.size)[j]? = some r → Value.okWide P W' .any 0 t r) :
    s.post enc P f apart fresh handsOn again W args v W' := by
  have hlt := fun p hp => hW.lt p hp
  have hold : ∀ p ∈ before, (fun b => decide (b < W.heap.size)) p.block = true := fun p hp => by simpa using hlt p hp
  subst hps
  refine ⟨ds, gs, before, [], before, [], hW, hres _ _ _, hargs _ hold, hvars _, Go.RowKit.Below.frame B _, fun _ => ?_⟩
  obtain ⟨_, _, _, _, _, hz, hn⟩ := hW
  refine ⟨hok, _, _, ([] ++ before) ++ [], ⟨[] ++ before, [], Go.ChangeShapes.trodAll_append (hargs _ (fun _ _ => rfl)) (hres _ _ _), hvars _, rfl, ?_, ?_⟩, ?_⟩
  · intro b off hp
    have hp' : MemPlace.cell b off ∈ before := by simpa using hp
    rw [Go.RowKit.Below.frozen B (hlt _ hp')]
    exact hz b off hp'
  · intro ha
    have := hn ha
    simpa using this
  · intro p hp _
    simpa using hp
end Go.Proofs.YtkahmepenjhcpaaDoor.W
