/- Texts of the proofs of this seat, packed into one (Lq). No statement of the seat is proved here. -/
import Derived.Test.YtkahmepenjhcpaaDoorId
/- The walk of L4Ends. No statement of the seat is proved here. -/
namespace Go.Proofs.YtkahmepenjhcpaaDoor.W
open Go
set_option linter.unusedSimpArgs false
set_option linter.unusedVariables false


theorem ends_yes {a b c e : Int} {n : Bool} (hU : a = 0 → n = false → b = 93) (hT : c = 0 → e = 96) : Value.bool (((decide (a ≠ 0) || n) || decide (b = 93)) && (decide (c ≠ 0) || decide (e = 96))) = Value.bool true := by
  by_cases ha : a = 0
  · by_cases hc : c = 0
    · cases n with
      | true => simp [hT hc]
      | false => simp [hT hc, hU ha rfl]
    · cases n with
      | true => simp [hc]
      | false => simp [hc, hU ha rfl]
  · by_cases hc : c = 0
    · simp [ha, hT hc]
    · simp [ha, hc]

set_option maxHeartbeats 1000000 in
theorem c22 (s d : IP) (u : Udp) (ud : Value) (t : Tcp) (o td : Value) (k : Int) (w : World) (hs : s.ok) (ht : d.ok) (hud : BS [] w ud u.data) (hul : u.data.length ≤ 1099511627776) (hO : OS [] w o t.opts) (hd : BS [] w td t.data) (hol : t.opts.length ≤ 1099511627776) (hoo : ∀ p ∈ t.opts, p.data.length ≤ 1099511627776) (hdl : t.data.length ≤ 1099511627776) (hg1 : GV [] w 1 163 (W16.map i64)) (hg2 : GV [] w 2 166 (W10.map i64)) (hg3 : GV [] w 3 183 (lenT.map u64)) :
    CallsD Tryd.prog 22 #[.agg (encIP s).toArray, .agg (encIP d).toArray, .agg (encUdp u ud).toArray, .agg (encTcp t o td).toArray, .int .i64 k] w (.bool true) := by
  refine enter Tryd.func22 rfl Tryd.ntmps22 (l := [(0, [], _), (1, [], _), (2, [], _), (3, [], _), (4, [], _)]) rfl rfl ?_
  have S := St.refl [] w
  have hLu := putUL_le s d u
  have hLt := putTL_le s d t
  refine Run.seq ?_
  refine Run.region ?_
  refine boxA rfl S rfl ?_
  intro b5 w1 hb5 S B_
  refine boxA rfl S rfl ?_
  intro b6 w2 hb6 S B_
  refine boxA rfl S rfl ?_
  intro b7 w3 hb7 S B_
  refine boxA rfl S rfl ?_
  intro b8 w4 hb8 S B_
  refine asg1 rfl rfl ?_
  refine Ro.nil ?_
  refine Nrm.code ?_
  refine Run.seq ?_
  refine Run.region ?_
  refine calg (vs := []) rfl trivial k54 rfl (fun hG => c54 _ (hg1.now S) (hg2.now S) (hg3.now S)) ?_
  intro w5 B_; have S := S.call B_
  refine asg1 rfl rfl ?_
  refine Ro.nil ?_
  refine Nrm.code ?_
  refine Run.seq ?_
  refine Run.region ?_
  refine asg1 rfl rfl ?_
  refine Ro.nil ?_
  refine Nrm.code ?_
  refine Run.seq ?_
  refine Run.seq ?_
  refine Run.region ?_
  refine fld (o' := 0) rfl fo24_0 rfl rfl rfl rfl ?_
  refine ld1 rfl T3 S (i := 3) rfl rfl rfl rfl rfl ?_
  refine eql1 rfl rfl rfl ?_
  refine Ro.nil ?_
  refine Nrm.code ?_
  refine Run.cond rfl (fun hc3 => ?_) (fun hc3 => ?_)
  ·
    try simp only [Bool.or_eq_true, Bool.and_eq_true, Bool.or_eq_false_iff, Bool.and_eq_false_iff, decide_eq_true_eq, decide_eq_false_iff_not, Bool.not_eq_true', Bool.not_eq_false', Bool.not_eq_true, Bool.not_eq_false] at hc3
    have hv6 : s.v = 6 := by simpa using hc3
    refine Run.region ?_
    refine asg1 rfl rfl ?_
    refine Ro.nil ?_
    refine Nrm.code ?_
    refine Run.seq ?_
    refine Run.seq ?_
    refine Run.region ?_
    refine mv1 rfl rfl ?_
    refine nt1 rfl rfl ?_
    refine mv1 rfl rfl ?_
    refine mv rfl rfl rfl rfl ?_
    refine lss rfl rfl rfl rfl rfl rfl ?_
    refine pkO rfl rfl rfl rfl rfl rfl ?_
    refine mv1 rfl rfl ?_
    refine mv rfl rfl rfl rfl ?_
    refine mv rfl rfl rfl rfl ?_
    refine mul rfl rfl rfl rfl rfl rfl (fun hG => by first | exact w64 (by omega) | (simp [allT] at hG; exact w64 (by omega))) ?_
    refine geq rfl rfl rfl rfl rfl rfl ?_
    refine pkO rfl rfl rfl rfl rfl rfl ?_
    refine Ro.nil ?_
    refine Nrm.code ?_
    refine Run.cond rfl (fun hc5 => ?_) (fun hc5 => ?_)
    ·
      try simp only [Bool.or_eq_true, Bool.and_eq_true, Bool.or_eq_false_iff, Bool.and_eq_false_iff, decide_eq_true_eq, decide_eq_false_iff_not, Bool.not_eq_true', Bool.not_eq_false', Bool.not_eq_true, Bool.not_eq_false] at hc5
      refine Run.seq ?_
      refine Run.region ?_
      refine mv1 rfl rfl ?_
      refine asg1 rfl rfl ?_
      refine Ro.nil ?_
      refine Nrm.code ?_
      refine Run.ret ?_
      refine Rt.one rfl rfl ?_
      exact ⟨rfl, S.bl⟩
    ·
      try simp only [Bool.or_eq_true, Bool.and_eq_true, Bool.or_eq_false_iff, Bool.and_eq_false_iff, decide_eq_true_eq, decide_eq_false_iff_not, Bool.not_eq_true', Bool.not_eq_false', Bool.not_eq_true, Bool.not_eq_false] at hc5
      have hk0 : ¬ k < 0 := by simp at hc5; omega
      refine Run.skip ?_
      refine Nrm.code ?_
      refine Run.seq ?_
      refine Run.region ?_
      refine ldW rfl T24 S (i := 3) rfl rfl rfl rfl rfl ?_
      refine alc T24 S rfl ?_
      intro b13 w6 hb13 S B_
      refine stW rfl rfl T24 rfl rfl (encIP_all1 _) S (i := 0) rfl rfl ?_
      intro w7 S
      refine Ro.nil ?_
      refine Nrm.code ?_
      refine Run.seq ?_
      refine Run.region ?_
      refine ldW rfl T24 S (i := 3) rfl rfl rfl rfl rfl ?_
      refine alc T24 S rfl ?_
      intro b14 w8 hb14 S B_
      refine stW rfl rfl T24 rfl rfl (encIP_all1 _) S (i := 0) rfl rfl ?_
      intro w9 S
      refine Ro.nil ?_
      refine Nrm.code ?_
      refine Run.seq ?_
      refine Run.seq ?_
      refine Run.region ?_
      refine mv1 rfl rfl ?_
      refine mv1 rfl rfl ?_
      refine lss1 rfl rfl rfl ?_
      refine Ro.nil ?_
      refine Nrm.code ?_
      refine Run.cond rfl (fun hc9 => ?_) (fun hc9 => ?_)
      ·
        try simp only [Bool.or_eq_true, Bool.and_eq_true, Bool.or_eq_false_iff, Bool.and_eq_false_iff, decide_eq_true_eq, decide_eq_false_iff_not, Bool.not_eq_true', Bool.not_eq_false', Bool.not_eq_true, Bool.not_eq_false] at hc9
        refine Run.held (by kernel_rfl) S [true, false, true, true, true, true] rfl rfl rfl ?_
        intro w10 BD S SC
        refine Ho.take (i := 0) SC Pp.body rfl (by kernel_rfl) (by kernel_rfl) (by kernel_rfl) rfl rfl ?_
        refine qmv rfl rfl rfl rfl ?_
        refine Ho.back ?_
        refine Ho.take (i := 1) SC Pp.body rfl (by kernel_rfl) (by kernel_rfl) (by kernel_rfl) rfl rfl ?_
        refine qquo rfl rfl rfl rfl rfl rfl (fun _ => by decide) (fun _ => q64 (by omega)) ?_
        refine Ho.back ?_
        refine Ho.take (i := 2) SC Pp.body rfl (by kernel_rfl) (by kernel_rfl) (by kernel_rfl) rfl rfl ?_
        refine qmv rfl rfl rfl rfl ?_
        refine Ho.back ?_
        refine Ho.take (i := 3) SC Pp.body rfl (by kernel_rfl) (by kernel_rfl) (by kernel_rfl) rfl rfl ?_
        refine qquo rfl rfl rfl rfl rfl rfl (fun _ => by decide) (fun _ => q64 (by omega)) ?_
        refine Ho.back ?_
        refine Ho.take (i := 4) SC Pp.body rfl (by kernel_rfl) (by kernel_rfl) (by kernel_rfl) rfl rfl ?_
        refine qfld (o' := 1) rfl fo24_1 rfl rfl rfl rfl ?_
        refine Ho.back ?_
        refine Ho.take (i := 5) SC Pp.body rfl (by kernel_rfl) (by kernel_rfl) (by kernel_rfl) rfl rfl ?_
        refine qixP rfl rfl Tryd.underlying22 T5 rfl rfl rfl rfl (fun _ => by omega) rfl ?_
        refine Ho.back ?_
        refine Ho.take (i := 7) SC Pp.body rfl (by kernel_rfl) (by kernel_rfl) (by kernel_rfl) rfl rfl ?_
        refine qmv rfl rfl rfl rfl ?_
        refine Ho.back ?_
        refine Ho.take (i := 8) SC Pp.body rfl (by kernel_rfl) (by kernel_rfl) (by kernel_rfl) rfl rfl ?_
        refine qrem rfl rfl rfl rfl rfl rfl (fun _ => by decide) (fun _ => r64 (by omega)) ?_
        refine Ho.back ?_
        refine Ho.take (i := 9) SC Pp.body rfl (by kernel_rfl) (by kernel_rfl) (by kernel_rfl) rfl rfl ?_
        refine qshr rfl rfl rfl rfl rfl rfl (fun _ => by omega) (fun _ => rfl) ?_
        refine Ho.back ?_
        refine Ho.take (i := 11) SC Pp.body rfl (by kernel_rfl) (by kernel_rfl) (by kernel_rfl) rfl rfl ?_
        refine qfld (o' := 1) rfl fo24_1 rfl rfl rfl rfl ?_
        refine Ho.back ?_
        refine Ho.one (i := 6) (by kernel_rfl) rfl rfl ?_
        refine ld1 rfl T5 S (i := 1) rfl (v := u8 (s.a (k / 8).toNat)) (by rw [show 1 + (k / 8).toNat * 1 = 1 + (k / 8).toNat from by omega]; exact encIP_get s _ (by omega)) rfl rfl rfl ?_
        have SC := S.pick [true, false, true, true, true, true] rfl
        refine Ho.on SC ?_
        refine Ho.take (i := 10) SC Pp.body rfl (by kernel_rfl) (by kernel_rfl) (by kernel_rfl) rfl rfl ?_
        refine qbxor rfl rfl rfl rfl rfl rfl (fun _ => rfl) ?_
        refine Ho.back ?_
        refine Ho.take (i := 12) SC Pp.body rfl (by kernel_rfl) (by kernel_rfl) (by kernel_rfl) rfl rfl ?_
        refine qixP rfl rfl Tryd.underlying22 T5 rfl rfl rfl rfl (fun _ => by omega) rfl ?_
        refine Ho.back ?_
        refine Ho.one (i := 13) (by kernel_rfl) rfl rfl ?_
        refine st1 rfl rfl T5 rfl S (i := 1) rfl (by rw [show 1 + (k / 8).toNat * 1 = 1 + (k / 8).toNat from by omega]; exact putN_flip s _ (k % 8) (by omega)) rfl ?_
        intro w11 S
        have SC := S.pick [true, false, true, true, true, true] rfl
        refine Ho.on SC ?_
        refine Ho.done (by kernel_rfl) ?_
        refine Nrm.code ?_
        refine Run.seq ?_
        refine Run.region ?_
        refine ldW rfl T24 S (i := 5) rfl rfl rfl rfl rfl ?_
        refine ldW rfl T24 S (i := 4) rfl rfl rfl rfl rfl ?_
        refine ldW rfl T73 S (i := 3) rfl rfl rfl rfl rfl ?_
        refine call (vs := [_, _, _]) ⟨⟨_, _, rfl, rfl⟩, ⟨_, _, rfl, rfl⟩, ⟨_, _, rfl, rfl⟩, trivial⟩ k55 rfl (c55 s d u _ _ hs ht (hud.now S) (by omega) (hg1.now S)) ?_
        rintro _ w12 ⟨u15, rfl, hF⟩
        have S := S.fb hF
        obtain ⟨hu15, S⟩ := S.layBI (i := 0) rfl rfl (putUL_byt hs ht hud.1)
        obtain ⟨N1, hN1, S_1⟩ := S.reb
        have hud := hud.st S; rw [hN1] at hud
        have hO := hO.st S; rw [hN1] at hO
        have hd := hd.st S; rw [hN1] at hd
        have hg1 := hg1.st S; rw [hN1] at hg1
        have hg2 := hg2.st S; rw [hN1] at hg2
        have hg3 := hg3.st S; rw [hN1] at hg3
        rw [hN1] at hu15
        have SS := S
        have S := S_1
        refine mv1 rfl rfl ?_
        refine extr1 rfl rfl rfl ?_
        refine extr1 rfl rfl rfl ?_
        refine asg1 rfl rfl ?_
        refine asg1 rfl rfl ?_
        refine Ro.nil ?_
        refine Nrm.code ?_
        refine Run.seq ?_
        refine Run.region ?_
        refine ldW rfl T24 S (i := 5) rfl rfl rfl rfl rfl ?_
        refine ldW rfl T24 S (i := 4) rfl rfl rfl rfl rfl ?_
        refine ldW rfl T82 S (i := 2) rfl rfl rfl rfl rfl ?_
        refine call (vs := [_, _, _]) ⟨⟨_, _, rfl, rfl⟩, ⟨_, _, rfl, rfl⟩, ⟨_, _, rfl, rfl⟩, trivial⟩ k61 rfl (c61 s d t _ _ _ hs ht (hO.now S) (hd.now S) (by exact hol) (by exact hoo) (by exact hdl) (hg2.now S) (hg3.now S)) ?_
        rintro _ w13 ⟨u17, rfl, hF⟩
        have S := S.fb hF
        obtain ⟨hu17, S⟩ := S.layBI (i := 0) rfl rfl (putTL_byt hs ht hO.byt hd.1)
        obtain ⟨N2, hN2, S_2⟩ := S.reb
        have hud := hud.st S; rw [hN2] at hud
        have hO := hO.st S; rw [hN2] at hO
        have hd := hd.st S; rw [hN2] at hd
        have hg1 := hg1.st S; rw [hN2] at hg1
        have hg2 := hg2.st S; rw [hN2] at hg2
        have hg3 := hg3.st S; rw [hN2] at hg3
        have hu15 := hu15.st S; rw [hN2] at hu15
        rw [hN2] at hu17
        have SS := SS.tran hN1 S
        have S := S_2
        refine mv1 rfl rfl ?_
        refine extr1 rfl rfl rfl ?_
        refine extr1 rfl rfl rfl ?_
        refine asg1 rfl rfl ?_
        refine asg1 rfl rfl ?_
        refine Ro.nil ?_
        refine Nrm.code ?_
        refine Run.seq ?_
        refine Run.region ?_
        refine ldW rfl T24 S (i := 1) rfl rfl rfl rfl rfl ?_
        refine ldW rfl T24 S (i := 0) rfl rfl rfl rfl rfl ?_
        refine mv1 rfl rfl ?_
        refine call (vs := [_, _, _]) ⟨⟨_, _, rfl, rfl⟩, ⟨_, _, rfl, rfl⟩, ⟨_, _, rfl, rfl⟩, trivial⟩ k57 rfl (c57 (flipJ s (k / 8).toNat (k % 8)) d _ _ _ (flipJ_ok hs (by omega)) ht (hu15.now S) (hg1.now S)) ?_
        rintro _ w14 ⟨d19, rfl, B1, hw_⟩
        have S := S.call B1
        have hd19 := hw_ _ _ hu15
        refine mv1 rfl rfl ?_
        refine extr1 rfl rfl rfl ?_
        refine extr1 rfl rfl rfl ?_
        refine alc T73 S rfl ?_
        intro b19 w15 hb19 S B_
        refine stW rfl rfl T73 rfl rfl (one_cons rfl (one_cons rfl (one_cons rfl (one_cons hd19.one one_nil)))) S (i := 0) rfl rfl ?_
        intro w16 S
        refine asg1 rfl rfl ?_
        refine Ro.nil ?_
        refine Nrm.code ?_
        refine Run.seq ?_
        refine Run.region ?_
        refine ldW rfl T24 S (i := 2) rfl rfl rfl rfl rfl ?_
        refine ldW rfl T24 S (i := 1) rfl rfl rfl rfl rfl ?_
        refine mv1 rfl rfl ?_
        refine call (vs := [_, _, _]) ⟨⟨_, _, rfl, rfl⟩, ⟨_, _, rfl, rfl⟩, ⟨_, _, rfl, rfl⟩, trivial⟩ k62 rfl (c62 (flipJ s (k / 8).toNat (k % 8)) d _ _ _ (flipJ_ok hs (by omega)) ht (hu17.now S) (hg2.now S) (hg3.now S)) ?_
        rintro _ w17 ⟨o21, d21, vs21, rfl, hF, hw_⟩
        have S := S.fo hF
        have hd21 := (hw_ _ _ hu17).2
        have ho_ := (hw_ _ _ hu17).1
        obtain ⟨ho21, S⟩ := S.layOI (i := 0) rfl rfl ho_
        obtain ⟨N3, hN3, S_3⟩ := S.reb
        have hud := hud.st S; rw [hN3] at hud
        have hO := hO.st S; rw [hN3] at hO
        have hd := hd.st S; rw [hN3] at hd
        have hg1 := hg1.st S; rw [hN3] at hg1
        have hg2 := hg2.st S; rw [hN3] at hg2
        have hg3 := hg3.st S; rw [hN3] at hg3
        have hu15 := hu15.st S; rw [hN3] at hu15
        have hu17 := hu17.st S; rw [hN3] at hu17
        have hd19 := hd19.st S; rw [hN3] at hd19
        have hd21 := hd21.st S; rw [hN3] at hd21
        rw [hN3] at ho21
        have SS := SS.tran hN2 S
        have S := S_3
        refine mv1 rfl rfl ?_
        refine extr1 rfl rfl rfl ?_
        refine extr1 rfl rfl rfl ?_
        refine alc T82 S rfl ?_
        intro b21 w18 hb21 S B_
        refine stW rfl rfl T82 rfl rfl (one_cons rfl (one_cons rfl (one_cons rfl (one_cons rfl (one_cons rfl (one_cons rfl (one_cons rfl (one_cons ho21.one (one_cons hd21.one one_nil))))))))) S (i := 0) rfl rfl ?_
        intro w19 S
        refine asg1 rfl rfl ?_
        refine Ro.nil ?_
        refine Nrm.code ?_
        refine Run.seq ?_
        refine Run.region ?_
        refine mv1 rfl rfl ?_
        refine calg (vs := [_]) rfl ⟨⟨_, _, rfl, rfl⟩, trivial⟩ k56 rfl (fun hG => c56 (putUE s d u) _ (by have := putUE_bd s d u; omega)) ?_
        intro w20 B_; have S := S.call B_
        refine neq1 rfl rfl rfl ?_
        refine mv1 rfl rfl ?_
        refine fld (o' := 2) rfl fo73_2 rfl rfl rfl rfl ?_
        refine ld1 rfl T4 S (i := 5) rfl rfl rfl rfl rfl ?_
        refine pkO rfl rfl rfl rfl rfl rfl ?_
        refine mv1 rfl rfl ?_
        refine mv rfl rfl rfl rfl ?_
        refine calg (vs := [_]) rfl ⟨⟨_, _, rfl, rfl⟩, trivial⟩ k56 rfl (fun hG => c56 (udpE (flipJ s (k / 8).toNat (k % 8)) d (putUL s d u)) _ (by have := udpE_bd (flipJ s (k / 8).toNat (k % 8)) d (putUL s d u); omega)) ?_
        intro w21 B_; have S := S.call B_
        refine eql rfl rfl rfl rfl rfl rfl ?_
        refine pkO rfl rfl rfl rfl rfl rfl ?_
        refine mv1 rfl rfl ?_
        refine mv rfl rfl rfl rfl ?_
        refine calg (vs := [_]) rfl ⟨⟨_, _, rfl, rfl⟩, trivial⟩ k56 rfl (fun hG => c56 (putTE s d t) _ (by have := putTE_bd s d t; omega)) ?_
        intro w22 B_; have S := S.call B_
        refine neq rfl rfl rfl rfl rfl rfl ?_
        refine mv rfl rfl rfl rfl ?_
        refine mv rfl rfl rfl rfl ?_
        refine calg (vs := [_]) rfl ⟨⟨_, _, rfl, rfl⟩, trivial⟩ k56 rfl (fun hG => c56 (tcpE (flipJ s (k / 8).toNat (k % 8)) d (putTL s d t)) _ (by have := tcpE_bd (flipJ s (k / 8).toNat (k % 8)) d (putTL s d t); omega)) ?_
        intro w23 B_; have S := S.call B_
        refine eql rfl rfl rfl rfl rfl rfl ?_
        refine pkO rfl rfl rfl rfl rfl rfl ?_
        refine pkA rfl rfl rfl rfl rfl rfl ?_
        refine asg1 rfl rfl ?_
        refine Ro.nil ?_
        refine Nrm.code ?_
        refine Run.ret ?_
        refine Rt.one rfl rfl ?_
        have hF : fitE s d = 0 → Flip s d (flipJ s (k / 8).toNat (k % 8)) d := fun hf => flip_src (j := (k / 8).toNat) (r := k % 8) hf (by omega) (by omega)
        have hUE : putUE s d u = 0 → u.nosum = false → udpE (flipJ s (k / 8).toNat (k % 8)) d (putUL s d u) = 93 := fun he hn => udp_ends hs ht hud.1 he hn (hF (putUE_zero he).1)
        have hTE : putTE s d t = 0 → tcpE (flipJ s (k / 8).toNat (k % 8)) d (putTL s d t) = 96 := fun he => tcp_ends hs ht hO.byt hd.1 he (hF (putTE_zero he).1)
        exact ⟨ends_yes hUE hTE, (SS.tran hN3 S).bl⟩
      ·
        try simp only [Bool.or_eq_true, Bool.and_eq_true, Bool.or_eq_false_iff, Bool.and_eq_false_iff, decide_eq_true_eq, decide_eq_false_iff_not, Bool.not_eq_true', Bool.not_eq_false', Bool.not_eq_true, Bool.not_eq_false] at hc9
        refine Run.held (by kernel_rfl) S [false, true, true, true, true, true] rfl rfl rfl ?_
        intro w10 BD S SC
        refine Ho.take (i := 0) SC Pp.body rfl (by kernel_rfl) (by kernel_rfl) (by kernel_rfl) rfl rfl ?_
        refine qmv rfl rfl rfl rfl ?_
        refine Ho.back ?_
        refine Ho.take (i := 1) SC Pp.body rfl (by kernel_rfl) (by kernel_rfl) (by kernel_rfl) rfl rfl ?_
        refine qquo rfl rfl rfl rfl rfl rfl (fun _ => by decide) (fun _ => q64 (by omega)) ?_
        refine Ho.back ?_
        refine Ho.take (i := 2) SC Pp.body rfl (by kernel_rfl) (by kernel_rfl) (by kernel_rfl) rfl rfl ?_
        refine qmv rfl rfl rfl rfl ?_
        refine Ho.back ?_
        refine Ho.take (i := 3) SC Pp.body rfl (by kernel_rfl) (by kernel_rfl) (by kernel_rfl) rfl rfl ?_
        refine qquo rfl rfl rfl rfl rfl rfl (fun _ => by decide) (fun _ => q64 (by omega)) ?_
        refine Ho.back ?_
        refine Ho.take (i := 4) SC Pp.body rfl (by kernel_rfl) (by kernel_rfl) (by kernel_rfl) rfl rfl ?_
        refine qsub rfl rfl rfl rfl rfl rfl (fun _ => w64 (by omega)) ?_
        refine Ho.back ?_
        refine Ho.take (i := 5) SC Pp.body rfl (by kernel_rfl) (by kernel_rfl) (by kernel_rfl) rfl rfl ?_
        refine qmv rfl rfl rfl rfl ?_
        refine Ho.back ?_
        refine Ho.take (i := 6) SC Pp.body rfl (by kernel_rfl) (by kernel_rfl) (by kernel_rfl) rfl rfl ?_
        refine qquo rfl rfl rfl rfl rfl rfl (fun _ => by decide) (fun _ => q64 (by omega)) ?_
        refine Ho.back ?_
        refine Ho.take (i := 7) SC Pp.body rfl (by kernel_rfl) (by kernel_rfl) (by kernel_rfl) rfl rfl ?_
        refine qmv rfl rfl rfl rfl ?_
        refine Ho.back ?_
        refine Ho.take (i := 8) SC Pp.body rfl (by kernel_rfl) (by kernel_rfl) (by kernel_rfl) rfl rfl ?_
        refine qquo rfl rfl rfl rfl rfl rfl (fun _ => by decide) (fun _ => q64 (by omega)) ?_
        refine Ho.back ?_
        refine Ho.take (i := 9) SC Pp.body rfl (by kernel_rfl) (by kernel_rfl) (by kernel_rfl) rfl rfl ?_
        refine qsub rfl rfl rfl rfl rfl rfl (fun _ => w64 (by omega)) ?_
        refine Ho.back ?_
        refine Ho.take (i := 10) SC Pp.body rfl (by kernel_rfl) (by kernel_rfl) (by kernel_rfl) rfl rfl ?_
        refine qfld (o' := 1) rfl fo24_1 rfl rfl rfl rfl ?_
        refine Ho.back ?_
        refine Ho.take (i := 11) SC Pp.body rfl (by kernel_rfl) (by kernel_rfl) (by kernel_rfl) rfl rfl ?_
        refine qixP rfl rfl Tryd.underlying22 T5 rfl rfl rfl rfl (fun _ => by omega) rfl ?_
        refine Ho.back ?_
        refine Ho.take (i := 13) SC Pp.body rfl (by kernel_rfl) (by kernel_rfl) (by kernel_rfl) rfl rfl ?_
        refine qmv rfl rfl rfl rfl ?_
        refine Ho.back ?_
        refine Ho.take (i := 14) SC Pp.body rfl (by kernel_rfl) (by kernel_rfl) (by kernel_rfl) rfl rfl ?_
        refine qrem rfl rfl rfl rfl rfl rfl (fun _ => by decide) (fun _ => r64 (by omega)) ?_
        refine Ho.back ?_
        refine Ho.take (i := 15) SC Pp.body rfl (by kernel_rfl) (by kernel_rfl) (by kernel_rfl) rfl rfl ?_
        refine qshr rfl rfl rfl rfl rfl rfl (fun _ => by omega) (fun _ => rfl) ?_
        refine Ho.back ?_
        refine Ho.take (i := 17) SC Pp.body rfl (by kernel_rfl) (by kernel_rfl) (by kernel_rfl) rfl rfl ?_
        refine qfld (o' := 1) rfl fo24_1 rfl rfl rfl rfl ?_
        refine Ho.back ?_
        refine Ho.one (i := 12) (by kernel_rfl) rfl rfl ?_
        refine ld1 rfl T5 S (i := 0) rfl (v := u8 (d.a (k / 8 - 128 / 8).toNat)) (by rw [show 1 + (k / 8 - 128 / 8).toNat * 1 = 1 + (k / 8 - 128 / 8).toNat from by omega]; exact encIP_get d _ (by omega)) rfl rfl rfl ?_
        have SC := S.pick [false, true, true, true, true, true] rfl
        refine Ho.on SC ?_
        refine Ho.take (i := 16) SC Pp.body rfl (by kernel_rfl) (by kernel_rfl) (by kernel_rfl) rfl rfl ?_
        refine qbxor rfl rfl rfl rfl rfl rfl (fun _ => rfl) ?_
        refine Ho.back ?_
        refine Ho.take (i := 18) SC Pp.body rfl (by kernel_rfl) (by kernel_rfl) (by kernel_rfl) rfl rfl ?_
        refine qixP rfl rfl Tryd.underlying22 T5 rfl rfl rfl rfl (fun _ => by omega) rfl ?_
        refine Ho.back ?_
        refine Ho.one (i := 19) (by kernel_rfl) rfl rfl ?_
        refine st1 rfl rfl T5 rfl S (i := 0) rfl (by rw [show 1 + (k / 8 - 128 / 8).toNat * 1 = 1 + (k / 8 - 128 / 8).toNat from by omega]; exact putN_flip d _ (k % 8) (by omega)) rfl ?_
        intro w11 S
        have SC := S.pick [false, true, true, true, true, true] rfl
        refine Ho.on SC ?_
        refine Ho.done (by kernel_rfl) ?_
        refine Nrm.code ?_
        refine Run.seq ?_
        refine Run.region ?_
        refine ldW rfl T24 S (i := 5) rfl rfl rfl rfl rfl ?_
        refine ldW rfl T24 S (i := 4) rfl rfl rfl rfl rfl ?_
        refine ldW rfl T73 S (i := 3) rfl rfl rfl rfl rfl ?_
        refine call (vs := [_, _, _]) ⟨⟨_, _, rfl, rfl⟩, ⟨_, _, rfl, rfl⟩, ⟨_, _, rfl, rfl⟩, trivial⟩ k55 rfl (c55 s d u _ _ hs ht (hud.now S) (by omega) (hg1.now S)) ?_
        rintro _ w12 ⟨u15, rfl, hF⟩
        have S := S.fb hF
        obtain ⟨hu15, S⟩ := S.layBI (i := 0) rfl rfl (putUL_byt hs ht hud.1)
        obtain ⟨N4, hN4, S_4⟩ := S.reb
        have hud := hud.st S; rw [hN4] at hud
        have hO := hO.st S; rw [hN4] at hO
        have hd := hd.st S; rw [hN4] at hd
        have hg1 := hg1.st S; rw [hN4] at hg1
        have hg2 := hg2.st S; rw [hN4] at hg2
        have hg3 := hg3.st S; rw [hN4] at hg3
        rw [hN4] at hu15
        have SS := S
        have S := S_4
        refine mv1 rfl rfl ?_
        refine extr1 rfl rfl rfl ?_
        refine extr1 rfl rfl rfl ?_
        refine asg1 rfl rfl ?_
        refine asg1 rfl rfl ?_
        refine Ro.nil ?_
        refine Nrm.code ?_
        refine Run.seq ?_
        refine Run.region ?_
        refine ldW rfl T24 S (i := 5) rfl rfl rfl rfl rfl ?_
        refine ldW rfl T24 S (i := 4) rfl rfl rfl rfl rfl ?_
        refine ldW rfl T82 S (i := 2) rfl rfl rfl rfl rfl ?_
        refine call (vs := [_, _, _]) ⟨⟨_, _, rfl, rfl⟩, ⟨_, _, rfl, rfl⟩, ⟨_, _, rfl, rfl⟩, trivial⟩ k61 rfl (c61 s d t _ _ _ hs ht (hO.now S) (hd.now S) (by exact hol) (by exact hoo) (by exact hdl) (hg2.now S) (hg3.now S)) ?_
        rintro _ w13 ⟨u17, rfl, hF⟩
        have S := S.fb hF
        obtain ⟨hu17, S⟩ := S.layBI (i := 0) rfl rfl (putTL_byt hs ht hO.byt hd.1)
        obtain ⟨N5, hN5, S_5⟩ := S.reb
        have hud := hud.st S; rw [hN5] at hud
        have hO := hO.st S; rw [hN5] at hO
        have hd := hd.st S; rw [hN5] at hd
        have hg1 := hg1.st S; rw [hN5] at hg1
        have hg2 := hg2.st S; rw [hN5] at hg2
        have hg3 := hg3.st S; rw [hN5] at hg3
        have hu15 := hu15.st S; rw [hN5] at hu15
        rw [hN5] at hu17
        have SS := SS.tran hN4 S
        have S := S_5
        refine mv1 rfl rfl ?_
        refine extr1 rfl rfl rfl ?_
        refine extr1 rfl rfl rfl ?_
        refine asg1 rfl rfl ?_
        refine asg1 rfl rfl ?_
        refine Ro.nil ?_
        refine Nrm.code ?_
        refine Run.seq ?_
        refine Run.region ?_
        refine ldW rfl T24 S (i := 1) rfl rfl rfl rfl rfl ?_
        refine ldW rfl T24 S (i := 0) rfl rfl rfl rfl rfl ?_
        refine mv1 rfl rfl ?_
        refine call (vs := [_, _, _]) ⟨⟨_, _, rfl, rfl⟩, ⟨_, _, rfl, rfl⟩, ⟨_, _, rfl, rfl⟩, trivial⟩ k57 rfl (c57 s (flipJ d (k / 8 - 128 / 8).toNat (k % 8)) _ _ _ hs (flipJ_ok ht (by omega)) (hu15.now S) (hg1.now S)) ?_
        rintro _ w14 ⟨d19, rfl, B1, hw_⟩
        have S := S.call B1
        have hd19 := hw_ _ _ hu15
        refine mv1 rfl rfl ?_
        refine extr1 rfl rfl rfl ?_
        refine extr1 rfl rfl rfl ?_
        refine alc T73 S rfl ?_
        intro b19 w15 hb19 S B_
        refine stW rfl rfl T73 rfl rfl (one_cons rfl (one_cons rfl (one_cons rfl (one_cons hd19.one one_nil)))) S (i := 0) rfl rfl ?_
        intro w16 S
        refine asg1 rfl rfl ?_
        refine Ro.nil ?_
        refine Nrm.code ?_
        refine Run.seq ?_
        refine Run.region ?_
        refine ldW rfl T24 S (i := 2) rfl rfl rfl rfl rfl ?_
        refine ldW rfl T24 S (i := 1) rfl rfl rfl rfl rfl ?_
        refine mv1 rfl rfl ?_
        refine call (vs := [_, _, _]) ⟨⟨_, _, rfl, rfl⟩, ⟨_, _, rfl, rfl⟩, ⟨_, _, rfl, rfl⟩, trivial⟩ k62 rfl (c62 s (flipJ d (k / 8 - 128 / 8).toNat (k % 8)) _ _ _ hs (flipJ_ok ht (by omega)) (hu17.now S) (hg2.now S) (hg3.now S)) ?_
        rintro _ w17 ⟨o21, d21, vs21, rfl, hF, hw_⟩
        have S := S.fo hF
        have hd21 := (hw_ _ _ hu17).2
        have ho_ := (hw_ _ _ hu17).1
        obtain ⟨ho21, S⟩ := S.layOI (i := 0) rfl rfl ho_
        obtain ⟨N6, hN6, S_6⟩ := S.reb
        have hud := hud.st S; rw [hN6] at hud
        have hO := hO.st S; rw [hN6] at hO
        have hd := hd.st S; rw [hN6] at hd
        have hg1 := hg1.st S; rw [hN6] at hg1
        have hg2 := hg2.st S; rw [hN6] at hg2
        have hg3 := hg3.st S; rw [hN6] at hg3
        have hu15 := hu15.st S; rw [hN6] at hu15
        have hu17 := hu17.st S; rw [hN6] at hu17
        have hd19 := hd19.st S; rw [hN6] at hd19
        have hd21 := hd21.st S; rw [hN6] at hd21
        rw [hN6] at ho21
        have SS := SS.tran hN5 S
        have S := S_6
        refine mv1 rfl rfl ?_
        refine extr1 rfl rfl rfl ?_
        refine extr1 rfl rfl rfl ?_
        refine alc T82 S rfl ?_
        intro b21 w18 hb21 S B_
        refine stW rfl rfl T82 rfl rfl (one_cons rfl (one_cons rfl (one_cons rfl (one_cons rfl (one_cons rfl (one_cons rfl (one_cons rfl (one_cons ho21.one (one_cons hd21.one one_nil))))))))) S (i := 0) rfl rfl ?_
        intro w19 S
        refine asg1 rfl rfl ?_
        refine Ro.nil ?_
        refine Nrm.code ?_
        refine Run.seq ?_
        refine Run.region ?_
        refine mv1 rfl rfl ?_
        refine calg (vs := [_]) rfl ⟨⟨_, _, rfl, rfl⟩, trivial⟩ k56 rfl (fun hG => c56 (putUE s d u) _ (by have := putUE_bd s d u; omega)) ?_
        intro w20 B_; have S := S.call B_
        refine neq1 rfl rfl rfl ?_
        refine mv1 rfl rfl ?_
        refine fld (o' := 2) rfl fo73_2 rfl rfl rfl rfl ?_
        refine ld1 rfl T4 S (i := 5) rfl rfl rfl rfl rfl ?_
        refine pkO rfl rfl rfl rfl rfl rfl ?_
        refine mv1 rfl rfl ?_
        refine mv rfl rfl rfl rfl ?_
        refine calg (vs := [_]) rfl ⟨⟨_, _, rfl, rfl⟩, trivial⟩ k56 rfl (fun hG => c56 (udpE s (flipJ d (k / 8 - 128 / 8).toNat (k % 8)) (putUL s d u)) _ (by have := udpE_bd s (flipJ d (k / 8 - 128 / 8).toNat (k % 8)) (putUL s d u); omega)) ?_
        intro w21 B_; have S := S.call B_
        refine eql rfl rfl rfl rfl rfl rfl ?_
        refine pkO rfl rfl rfl rfl rfl rfl ?_
        refine mv1 rfl rfl ?_
        refine mv rfl rfl rfl rfl ?_
        refine calg (vs := [_]) rfl ⟨⟨_, _, rfl, rfl⟩, trivial⟩ k56 rfl (fun hG => c56 (putTE s d t) _ (by have := putTE_bd s d t; omega)) ?_
        intro w22 B_; have S := S.call B_
        refine neq rfl rfl rfl rfl rfl rfl ?_
        refine mv rfl rfl rfl rfl ?_
        refine mv rfl rfl rfl rfl ?_
        refine calg (vs := [_]) rfl ⟨⟨_, _, rfl, rfl⟩, trivial⟩ k56 rfl (fun hG => c56 (tcpE s (flipJ d (k / 8 - 128 / 8).toNat (k % 8)) (putTL s d t)) _ (by have := tcpE_bd s (flipJ d (k / 8 - 128 / 8).toNat (k % 8)) (putTL s d t); omega)) ?_
        intro w23 B_; have S := S.call B_
        refine eql rfl rfl rfl rfl rfl rfl ?_
        refine pkO rfl rfl rfl rfl rfl rfl ?_
        refine pkA rfl rfl rfl rfl rfl rfl ?_
        refine asg1 rfl rfl ?_
        refine Ro.nil ?_
        refine Nrm.code ?_
        refine Run.ret ?_
        refine Rt.one rfl rfl ?_
        have hF : fitE s d = 0 → Flip s d s (flipJ d (k / 8 - 128 / 8).toNat (k % 8)) := fun hf => flip_dst (j := (k / 8 - 128 / 8).toNat) (r := k % 8) hf (by omega) (by omega)
        have hUE : putUE s d u = 0 → u.nosum = false → udpE s (flipJ d (k / 8 - 128 / 8).toNat (k % 8)) (putUL s d u) = 93 := fun he hn => udp_ends hs ht hud.1 he hn (hF (putUE_zero he).1)
        have hTE : putTE s d t = 0 → tcpE s (flipJ d (k / 8 - 128 / 8).toNat (k % 8)) (putTL s d t) = 96 := fun he => tcp_ends hs ht hO.byt hd.1 he (hF (putTE_zero he).1)
        exact ⟨ends_yes hUE hTE, (SS.tran hN6 S).bl⟩
  ·
    try simp only [Bool.or_eq_true, Bool.and_eq_true, Bool.or_eq_false_iff, Bool.and_eq_false_iff, decide_eq_true_eq, decide_eq_false_iff_not, Bool.not_eq_true', Bool.not_eq_false', Bool.not_eq_true, Bool.not_eq_false] at hc3
    refine Run.skip ?_
    refine Nrm.code ?_
    refine Run.seq ?_
    refine Run.seq ?_
    refine Run.region ?_
    refine mv1 rfl rfl ?_
    refine nt1 rfl rfl ?_
    refine mv1 rfl rfl ?_
    refine mv rfl rfl rfl rfl ?_
    refine lss rfl rfl rfl rfl rfl rfl ?_
    refine pkO rfl rfl rfl rfl rfl rfl ?_
    refine mv1 rfl rfl ?_
    refine mv rfl rfl rfl rfl ?_
    refine mv rfl rfl rfl rfl ?_
    refine mul rfl rfl rfl rfl rfl rfl (fun hG => by first | exact w64 (by omega) | (simp [allT] at hG; exact w64 (by omega))) ?_
    refine geq rfl rfl rfl rfl rfl rfl ?_
    refine pkO rfl rfl rfl rfl rfl rfl ?_
    refine Ro.nil ?_
    refine Nrm.code ?_
    refine Run.cond rfl (fun hc5 => ?_) (fun hc5 => ?_)
    ·
      try simp only [Bool.or_eq_true, Bool.and_eq_true, Bool.or_eq_false_iff, Bool.and_eq_false_iff, decide_eq_true_eq, decide_eq_false_iff_not, Bool.not_eq_true', Bool.not_eq_false', Bool.not_eq_true, Bool.not_eq_false] at hc5
      refine Run.seq ?_
      refine Run.region ?_
      refine mv1 rfl rfl ?_
      refine asg1 rfl rfl ?_
      refine Ro.nil ?_
      refine Nrm.code ?_
      refine Run.ret ?_
      refine Rt.one rfl rfl ?_
      exact ⟨rfl, S.bl⟩
    ·
      try simp only [Bool.or_eq_true, Bool.and_eq_true, Bool.or_eq_false_iff, Bool.and_eq_false_iff, decide_eq_true_eq, decide_eq_false_iff_not, Bool.not_eq_true', Bool.not_eq_false', Bool.not_eq_true, Bool.not_eq_false] at hc5
      have hk0 : ¬ k < 0 := by simp at hc5; omega
      refine Run.skip ?_
      refine Nrm.code ?_
      refine Run.seq ?_
      refine Run.region ?_
      refine ldW rfl T24 S (i := 3) rfl rfl rfl rfl rfl ?_
      refine alc T24 S rfl ?_
      intro b13 w6 hb13 S B_
      refine stW rfl rfl T24 rfl rfl (encIP_all1 _) S (i := 0) rfl rfl ?_
      intro w7 S
      refine Ro.nil ?_
      refine Nrm.code ?_
      refine Run.seq ?_
      refine Run.region ?_
      refine ldW rfl T24 S (i := 3) rfl rfl rfl rfl rfl ?_
      refine alc T24 S rfl ?_
      intro b14 w8 hb14 S B_
      refine stW rfl rfl T24 rfl rfl (encIP_all1 _) S (i := 0) rfl rfl ?_
      intro w9 S
      refine Ro.nil ?_
      refine Nrm.code ?_
      refine Run.seq ?_
      refine Run.seq ?_
      refine Run.region ?_
      refine mv1 rfl rfl ?_
      refine mv1 rfl rfl ?_
      refine lss1 rfl rfl rfl ?_
      refine Ro.nil ?_
      refine Nrm.code ?_
      refine Run.cond rfl (fun hc9 => ?_) (fun hc9 => ?_)
      ·
        try simp only [Bool.or_eq_true, Bool.and_eq_true, Bool.or_eq_false_iff, Bool.and_eq_false_iff, decide_eq_true_eq, decide_eq_false_iff_not, Bool.not_eq_true', Bool.not_eq_false', Bool.not_eq_true, Bool.not_eq_false] at hc9
        refine Run.held (by kernel_rfl) S [true, false, true, true, true, true] rfl rfl rfl ?_
        intro w10 BD S SC
        refine Ho.take (i := 0) SC Pp.body rfl (by kernel_rfl) (by kernel_rfl) (by kernel_rfl) rfl rfl ?_
        refine qmv rfl rfl rfl rfl ?_
        refine Ho.back ?_
        refine Ho.take (i := 1) SC Pp.body rfl (by kernel_rfl) (by kernel_rfl) (by kernel_rfl) rfl rfl ?_
        refine qquo rfl rfl rfl rfl rfl rfl (fun _ => by decide) (fun _ => q64 (by omega)) ?_
        refine Ho.back ?_
        refine Ho.take (i := 2) SC Pp.body rfl (by kernel_rfl) (by kernel_rfl) (by kernel_rfl) rfl rfl ?_
        refine qmv rfl rfl rfl rfl ?_
        refine Ho.back ?_
        refine Ho.take (i := 3) SC Pp.body rfl (by kernel_rfl) (by kernel_rfl) (by kernel_rfl) rfl rfl ?_
        refine qquo rfl rfl rfl rfl rfl rfl (fun _ => by decide) (fun _ => q64 (by omega)) ?_
        refine Ho.back ?_
        refine Ho.take (i := 4) SC Pp.body rfl (by kernel_rfl) (by kernel_rfl) (by kernel_rfl) rfl rfl ?_
        refine qfld (o' := 1) rfl fo24_1 rfl rfl rfl rfl ?_
        refine Ho.back ?_
        refine Ho.take (i := 5) SC Pp.body rfl (by kernel_rfl) (by kernel_rfl) (by kernel_rfl) rfl rfl ?_
        refine qixP rfl rfl Tryd.underlying22 T5 rfl rfl rfl rfl (fun _ => by omega) rfl ?_
        refine Ho.back ?_
        refine Ho.take (i := 7) SC Pp.body rfl (by kernel_rfl) (by kernel_rfl) (by kernel_rfl) rfl rfl ?_
        refine qmv rfl rfl rfl rfl ?_
        refine Ho.back ?_
        refine Ho.take (i := 8) SC Pp.body rfl (by kernel_rfl) (by kernel_rfl) (by kernel_rfl) rfl rfl ?_
        refine qrem rfl rfl rfl rfl rfl rfl (fun _ => by decide) (fun _ => r64 (by omega)) ?_
        refine Ho.back ?_
        refine Ho.take (i := 9) SC Pp.body rfl (by kernel_rfl) (by kernel_rfl) (by kernel_rfl) rfl rfl ?_
        refine qshr rfl rfl rfl rfl rfl rfl (fun _ => by omega) (fun _ => rfl) ?_
        refine Ho.back ?_
        refine Ho.take (i := 11) SC Pp.body rfl (by kernel_rfl) (by kernel_rfl) (by kernel_rfl) rfl rfl ?_
        refine qfld (o' := 1) rfl fo24_1 rfl rfl rfl rfl ?_
        refine Ho.back ?_
        refine Ho.one (i := 6) (by kernel_rfl) rfl rfl ?_
        refine ld1 rfl T5 S (i := 1) rfl (v := u8 (s.a (k / 8).toNat)) (by rw [show 1 + (k / 8).toNat * 1 = 1 + (k / 8).toNat from by omega]; exact encIP_get s _ (by omega)) rfl rfl rfl ?_
        have SC := S.pick [true, false, true, true, true, true] rfl
        refine Ho.on SC ?_
        refine Ho.take (i := 10) SC Pp.body rfl (by kernel_rfl) (by kernel_rfl) (by kernel_rfl) rfl rfl ?_
        refine qbxor rfl rfl rfl rfl rfl rfl (fun _ => rfl) ?_
        refine Ho.back ?_
        refine Ho.take (i := 12) SC Pp.body rfl (by kernel_rfl) (by kernel_rfl) (by kernel_rfl) rfl rfl ?_
        refine qixP rfl rfl Tryd.underlying22 T5 rfl rfl rfl rfl (fun _ => by omega) rfl ?_
        refine Ho.back ?_
        refine Ho.one (i := 13) (by kernel_rfl) rfl rfl ?_
        refine st1 rfl rfl T5 rfl S (i := 1) rfl (by rw [show 1 + (k / 8).toNat * 1 = 1 + (k / 8).toNat from by omega]; exact putN_flip s _ (k % 8) (by omega)) rfl ?_
        intro w11 S
        have SC := S.pick [true, false, true, true, true, true] rfl
        refine Ho.on SC ?_
        refine Ho.done (by kernel_rfl) ?_
        refine Nrm.code ?_
        refine Run.seq ?_
        refine Run.region ?_
        refine ldW rfl T24 S (i := 5) rfl rfl rfl rfl rfl ?_
        refine ldW rfl T24 S (i := 4) rfl rfl rfl rfl rfl ?_
        refine ldW rfl T73 S (i := 3) rfl rfl rfl rfl rfl ?_
        refine call (vs := [_, _, _]) ⟨⟨_, _, rfl, rfl⟩, ⟨_, _, rfl, rfl⟩, ⟨_, _, rfl, rfl⟩, trivial⟩ k55 rfl (c55 s d u _ _ hs ht (hud.now S) (by omega) (hg1.now S)) ?_
        rintro _ w12 ⟨u15, rfl, hF⟩
        have S := S.fb hF
        obtain ⟨hu15, S⟩ := S.layBI (i := 0) rfl rfl (putUL_byt hs ht hud.1)
        obtain ⟨N7, hN7, S_7⟩ := S.reb
        have hud := hud.st S; rw [hN7] at hud
        have hO := hO.st S; rw [hN7] at hO
        have hd := hd.st S; rw [hN7] at hd
        have hg1 := hg1.st S; rw [hN7] at hg1
        have hg2 := hg2.st S; rw [hN7] at hg2
        have hg3 := hg3.st S; rw [hN7] at hg3
        rw [hN7] at hu15
        have SS := S
        have S := S_7
        refine mv1 rfl rfl ?_
        refine extr1 rfl rfl rfl ?_
        refine extr1 rfl rfl rfl ?_
        refine asg1 rfl rfl ?_
        refine asg1 rfl rfl ?_
        refine Ro.nil ?_
        refine Nrm.code ?_
        refine Run.seq ?_
        refine Run.region ?_
        refine ldW rfl T24 S (i := 5) rfl rfl rfl rfl rfl ?_
        refine ldW rfl T24 S (i := 4) rfl rfl rfl rfl rfl ?_
        refine ldW rfl T82 S (i := 2) rfl rfl rfl rfl rfl ?_
        refine call (vs := [_, _, _]) ⟨⟨_, _, rfl, rfl⟩, ⟨_, _, rfl, rfl⟩, ⟨_, _, rfl, rfl⟩, trivial⟩ k61 rfl (c61 s d t _ _ _ hs ht (hO.now S) (hd.now S) (by exact hol) (by exact hoo) (by exact hdl) (hg2.now S) (hg3.now S)) ?_
        rintro _ w13 ⟨u17, rfl, hF⟩
        have S := S.fb hF
        obtain ⟨hu17, S⟩ := S.layBI (i := 0) rfl rfl (putTL_byt hs ht hO.byt hd.1)
        obtain ⟨N8, hN8, S_8⟩ := S.reb
        have hud := hud.st S; rw [hN8] at hud
        have hO := hO.st S; rw [hN8] at hO
        have hd := hd.st S; rw [hN8] at hd
        have hg1 := hg1.st S; rw [hN8] at hg1
        have hg2 := hg2.st S; rw [hN8] at hg2
        have hg3 := hg3.st S; rw [hN8] at hg3
        have hu15 := hu15.st S; rw [hN8] at hu15
        rw [hN8] at hu17
        have SS := SS.tran hN7 S
        have S := S_8
        refine mv1 rfl rfl ?_
        refine extr1 rfl rfl rfl ?_
        refine extr1 rfl rfl rfl ?_
        refine asg1 rfl rfl ?_
        refine asg1 rfl rfl ?_
        refine Ro.nil ?_
        refine Nrm.code ?_
        refine Run.seq ?_
        refine Run.region ?_
        refine ldW rfl T24 S (i := 1) rfl rfl rfl rfl rfl ?_
        refine ldW rfl T24 S (i := 0) rfl rfl rfl rfl rfl ?_
        refine mv1 rfl rfl ?_
        refine call (vs := [_, _, _]) ⟨⟨_, _, rfl, rfl⟩, ⟨_, _, rfl, rfl⟩, ⟨_, _, rfl, rfl⟩, trivial⟩ k57 rfl (c57 (flipJ s (k / 8).toNat (k % 8)) d _ _ _ (flipJ_ok hs (by omega)) ht (hu15.now S) (hg1.now S)) ?_
        rintro _ w14 ⟨d19, rfl, B1, hw_⟩
        have S := S.call B1
        have hd19 := hw_ _ _ hu15
        refine mv1 rfl rfl ?_
        refine extr1 rfl rfl rfl ?_
        refine extr1 rfl rfl rfl ?_
        refine alc T73 S rfl ?_
        intro b19 w15 hb19 S B_
        refine stW rfl rfl T73 rfl rfl (one_cons rfl (one_cons rfl (one_cons rfl (one_cons hd19.one one_nil)))) S (i := 0) rfl rfl ?_
        intro w16 S
        refine asg1 rfl rfl ?_
        refine Ro.nil ?_
        refine Nrm.code ?_
        refine Run.seq ?_
        refine Run.region ?_
        refine ldW rfl T24 S (i := 2) rfl rfl rfl rfl rfl ?_
        refine ldW rfl T24 S (i := 1) rfl rfl rfl rfl rfl ?_
        refine mv1 rfl rfl ?_
        refine call (vs := [_, _, _]) ⟨⟨_, _, rfl, rfl⟩, ⟨_, _, rfl, rfl⟩, ⟨_, _, rfl, rfl⟩, trivial⟩ k62 rfl (c62 (flipJ s (k / 8).toNat (k % 8)) d _ _ _ (flipJ_ok hs (by omega)) ht (hu17.now S) (hg2.now S) (hg3.now S)) ?_
        rintro _ w17 ⟨o21, d21, vs21, rfl, hF, hw_⟩
        have S := S.fo hF
        have hd21 := (hw_ _ _ hu17).2
        have ho_ := (hw_ _ _ hu17).1
        obtain ⟨ho21, S⟩ := S.layOI (i := 0) rfl rfl ho_
        obtain ⟨N9, hN9, S_9⟩ := S.reb
        have hud := hud.st S; rw [hN9] at hud
        have hO := hO.st S; rw [hN9] at hO
        have hd := hd.st S; rw [hN9] at hd
        have hg1 := hg1.st S; rw [hN9] at hg1
        have hg2 := hg2.st S; rw [hN9] at hg2
        have hg3 := hg3.st S; rw [hN9] at hg3
        have hu15 := hu15.st S; rw [hN9] at hu15
        have hu17 := hu17.st S; rw [hN9] at hu17
        have hd19 := hd19.st S; rw [hN9] at hd19
        have hd21 := hd21.st S; rw [hN9] at hd21
        rw [hN9] at ho21
        have SS := SS.tran hN8 S
        have S := S_9
        refine mv1 rfl rfl ?_
        refine extr1 rfl rfl rfl ?_
        refine extr1 rfl rfl rfl ?_
        refine alc T82 S rfl ?_
        intro b21 w18 hb21 S B_
        refine stW rfl rfl T82 rfl rfl (one_cons rfl (one_cons rfl (one_cons rfl (one_cons rfl (one_cons rfl (one_cons rfl (one_cons rfl (one_cons ho21.one (one_cons hd21.one one_nil))))))))) S (i := 0) rfl rfl ?_
        intro w19 S
        refine asg1 rfl rfl ?_
        refine Ro.nil ?_
        refine Nrm.code ?_
        refine Run.seq ?_
        refine Run.region ?_
        refine mv1 rfl rfl ?_
        refine calg (vs := [_]) rfl ⟨⟨_, _, rfl, rfl⟩, trivial⟩ k56 rfl (fun hG => c56 (putUE s d u) _ (by have := putUE_bd s d u; omega)) ?_
        intro w20 B_; have S := S.call B_
        refine neq1 rfl rfl rfl ?_
        refine mv1 rfl rfl ?_
        refine fld (o' := 2) rfl fo73_2 rfl rfl rfl rfl ?_
        refine ld1 rfl T4 S (i := 5) rfl rfl rfl rfl rfl ?_
        refine pkO rfl rfl rfl rfl rfl rfl ?_
        refine mv1 rfl rfl ?_
        refine mv rfl rfl rfl rfl ?_
        refine calg (vs := [_]) rfl ⟨⟨_, _, rfl, rfl⟩, trivial⟩ k56 rfl (fun hG => c56 (udpE (flipJ s (k / 8).toNat (k % 8)) d (putUL s d u)) _ (by have := udpE_bd (flipJ s (k / 8).toNat (k % 8)) d (putUL s d u); omega)) ?_
        intro w21 B_; have S := S.call B_
        refine eql rfl rfl rfl rfl rfl rfl ?_
        refine pkO rfl rfl rfl rfl rfl rfl ?_
        refine mv1 rfl rfl ?_
        refine mv rfl rfl rfl rfl ?_
        refine calg (vs := [_]) rfl ⟨⟨_, _, rfl, rfl⟩, trivial⟩ k56 rfl (fun hG => c56 (putTE s d t) _ (by have := putTE_bd s d t; omega)) ?_
        intro w22 B_; have S := S.call B_
        refine neq rfl rfl rfl rfl rfl rfl ?_
        refine mv rfl rfl rfl rfl ?_
        refine mv rfl rfl rfl rfl ?_
        refine calg (vs := [_]) rfl ⟨⟨_, _, rfl, rfl⟩, trivial⟩ k56 rfl (fun hG => c56 (tcpE (flipJ s (k / 8).toNat (k % 8)) d (putTL s d t)) _ (by have := tcpE_bd (flipJ s (k / 8).toNat (k % 8)) d (putTL s d t); omega)) ?_
        intro w23 B_; have S := S.call B_
        refine eql rfl rfl rfl rfl rfl rfl ?_
        refine pkO rfl rfl rfl rfl rfl rfl ?_
        refine pkA rfl rfl rfl rfl rfl rfl ?_
        refine asg1 rfl rfl ?_
        refine Ro.nil ?_
        refine Nrm.code ?_
        refine Run.ret ?_
        refine Rt.one rfl rfl ?_
        have hF : fitE s d = 0 → Flip s d (flipJ s (k / 8).toNat (k % 8)) d := fun hf => flip_src (j := (k / 8).toNat) (r := k % 8) hf (by omega) (by omega)
        have hUE : putUE s d u = 0 → u.nosum = false → udpE (flipJ s (k / 8).toNat (k % 8)) d (putUL s d u) = 93 := fun he hn => udp_ends hs ht hud.1 he hn (hF (putUE_zero he).1)
        have hTE : putTE s d t = 0 → tcpE (flipJ s (k / 8).toNat (k % 8)) d (putTL s d t) = 96 := fun he => tcp_ends hs ht hO.byt hd.1 he (hF (putTE_zero he).1)
        exact ⟨ends_yes hUE hTE, (SS.tran hN9 S).bl⟩
      ·
        try simp only [Bool.or_eq_true, Bool.and_eq_true, Bool.or_eq_false_iff, Bool.and_eq_false_iff, decide_eq_true_eq, decide_eq_false_iff_not, Bool.not_eq_true', Bool.not_eq_false', Bool.not_eq_true, Bool.not_eq_false] at hc9
        refine Run.held (by kernel_rfl) S [false, true, true, true, true, true] rfl rfl rfl ?_
        intro w10 BD S SC
        refine Ho.take (i := 0) SC Pp.body rfl (by kernel_rfl) (by kernel_rfl) (by kernel_rfl) rfl rfl ?_
        refine qmv rfl rfl rfl rfl ?_
        refine Ho.back ?_
        refine Ho.take (i := 1) SC Pp.body rfl (by kernel_rfl) (by kernel_rfl) (by kernel_rfl) rfl rfl ?_
        refine qquo rfl rfl rfl rfl rfl rfl (fun _ => by decide) (fun _ => q64 (by omega)) ?_
        refine Ho.back ?_
        refine Ho.take (i := 2) SC Pp.body rfl (by kernel_rfl) (by kernel_rfl) (by kernel_rfl) rfl rfl ?_
        refine qmv rfl rfl rfl rfl ?_
        refine Ho.back ?_
        refine Ho.take (i := 3) SC Pp.body rfl (by kernel_rfl) (by kernel_rfl) (by kernel_rfl) rfl rfl ?_
        refine qquo rfl rfl rfl rfl rfl rfl (fun _ => by decide) (fun _ => q64 (by omega)) ?_
        refine Ho.back ?_
        refine Ho.take (i := 4) SC Pp.body rfl (by kernel_rfl) (by kernel_rfl) (by kernel_rfl) rfl rfl ?_
        refine qsub rfl rfl rfl rfl rfl rfl (fun _ => w64 (by omega)) ?_
        refine Ho.back ?_
        refine Ho.take (i := 5) SC Pp.body rfl (by kernel_rfl) (by kernel_rfl) (by kernel_rfl) rfl rfl ?_
        refine qmv rfl rfl rfl rfl ?_
        refine Ho.back ?_
        refine Ho.take (i := 6) SC Pp.body rfl (by kernel_rfl) (by kernel_rfl) (by kernel_rfl) rfl rfl ?_
        refine qquo rfl rfl rfl rfl rfl rfl (fun _ => by decide) (fun _ => q64 (by omega)) ?_
        refine Ho.back ?_
        refine Ho.take (i := 7) SC Pp.body rfl (by kernel_rfl) (by kernel_rfl) (by kernel_rfl) rfl rfl ?_
        refine qmv rfl rfl rfl rfl ?_
        refine Ho.back ?_
        refine Ho.take (i := 8) SC Pp.body rfl (by kernel_rfl) (by kernel_rfl) (by kernel_rfl) rfl rfl ?_
        refine qquo rfl rfl rfl rfl rfl rfl (fun _ => by decide) (fun _ => q64 (by omega)) ?_
        refine Ho.back ?_
        refine Ho.take (i := 9) SC Pp.body rfl (by kernel_rfl) (by kernel_rfl) (by kernel_rfl) rfl rfl ?_
        refine qsub rfl rfl rfl rfl rfl rfl (fun _ => w64 (by omega)) ?_
        refine Ho.back ?_
        refine Ho.take (i := 10) SC Pp.body rfl (by kernel_rfl) (by kernel_rfl) (by kernel_rfl) rfl rfl ?_
        refine qfld (o' := 1) rfl fo24_1 rfl rfl rfl rfl ?_
        refine Ho.back ?_
        refine Ho.take (i := 11) SC Pp.body rfl (by kernel_rfl) (by kernel_rfl) (by kernel_rfl) rfl rfl ?_
        refine qixP rfl rfl Tryd.underlying22 T5 rfl rfl rfl rfl (fun _ => by omega) rfl ?_
        refine Ho.back ?_
        refine Ho.take (i := 13) SC Pp.body rfl (by kernel_rfl) (by kernel_rfl) (by kernel_rfl) rfl rfl ?_
        refine qmv rfl rfl rfl rfl ?_
        refine Ho.back ?_
        refine Ho.take (i := 14) SC Pp.body rfl (by kernel_rfl) (by kernel_rfl) (by kernel_rfl) rfl rfl ?_
        refine qrem rfl rfl rfl rfl rfl rfl (fun _ => by decide) (fun _ => r64 (by omega)) ?_
        refine Ho.back ?_
        refine Ho.take (i := 15) SC Pp.body rfl (by kernel_rfl) (by kernel_rfl) (by kernel_rfl) rfl rfl ?_
        refine qshr rfl rfl rfl rfl rfl rfl (fun _ => by omega) (fun _ => rfl) ?_
        refine Ho.back ?_
        refine Ho.take (i := 17) SC Pp.body rfl (by kernel_rfl) (by kernel_rfl) (by kernel_rfl) rfl rfl ?_
        refine qfld (o' := 1) rfl fo24_1 rfl rfl rfl rfl ?_
        refine Ho.back ?_
        refine Ho.one (i := 12) (by kernel_rfl) rfl rfl ?_
        refine ld1 rfl T5 S (i := 0) rfl (v := u8 (d.a (k / 8 - 32 / 8).toNat)) (by rw [show 1 + (k / 8 - 32 / 8).toNat * 1 = 1 + (k / 8 - 32 / 8).toNat from by omega]; exact encIP_get d _ (by omega)) rfl rfl rfl ?_
        have SC := S.pick [false, true, true, true, true, true] rfl
        refine Ho.on SC ?_
        refine Ho.take (i := 16) SC Pp.body rfl (by kernel_rfl) (by kernel_rfl) (by kernel_rfl) rfl rfl ?_
        refine qbxor rfl rfl rfl rfl rfl rfl (fun _ => rfl) ?_
        refine Ho.back ?_
        refine Ho.take (i := 18) SC Pp.body rfl (by kernel_rfl) (by kernel_rfl) (by kernel_rfl) rfl rfl ?_
        refine qixP rfl rfl Tryd.underlying22 T5 rfl rfl rfl rfl (fun _ => by omega) rfl ?_
        refine Ho.back ?_
        refine Ho.one (i := 19) (by kernel_rfl) rfl rfl ?_
        refine st1 rfl rfl T5 rfl S (i := 0) rfl (by rw [show 1 + (k / 8 - 32 / 8).toNat * 1 = 1 + (k / 8 - 32 / 8).toNat from by omega]; exact putN_flip d _ (k % 8) (by omega)) rfl ?_
        intro w11 S
        have SC := S.pick [false, true, true, true, true, true] rfl
        refine Ho.on SC ?_
        refine Ho.done (by kernel_rfl) ?_
        refine Nrm.code ?_
        refine Run.seq ?_
        refine Run.region ?_
        refine ldW rfl T24 S (i := 5) rfl rfl rfl rfl rfl ?_
        refine ldW rfl T24 S (i := 4) rfl rfl rfl rfl rfl ?_
        refine ldW rfl T73 S (i := 3) rfl rfl rfl rfl rfl ?_
        refine call (vs := [_, _, _]) ⟨⟨_, _, rfl, rfl⟩, ⟨_, _, rfl, rfl⟩, ⟨_, _, rfl, rfl⟩, trivial⟩ k55 rfl (c55 s d u _ _ hs ht (hud.now S) (by omega) (hg1.now S)) ?_
        rintro _ w12 ⟨u15, rfl, hF⟩
        have S := S.fb hF
        obtain ⟨hu15, S⟩ := S.layBI (i := 0) rfl rfl (putUL_byt hs ht hud.1)
        obtain ⟨N10, hN10, S_10⟩ := S.reb
        have hud := hud.st S; rw [hN10] at hud
        have hO := hO.st S; rw [hN10] at hO
        have hd := hd.st S; rw [hN10] at hd
        have hg1 := hg1.st S; rw [hN10] at hg1
        have hg2 := hg2.st S; rw [hN10] at hg2
        have hg3 := hg3.st S; rw [hN10] at hg3
        rw [hN10] at hu15
        have SS := S
        have S := S_10
        refine mv1 rfl rfl ?_
        refine extr1 rfl rfl rfl ?_
        refine extr1 rfl rfl rfl ?_
        refine asg1 rfl rfl ?_
        refine asg1 rfl rfl ?_
        refine Ro.nil ?_
        refine Nrm.code ?_
        refine Run.seq ?_
        refine Run.region ?_
        refine ldW rfl T24 S (i := 5) rfl rfl rfl rfl rfl ?_
        refine ldW rfl T24 S (i := 4) rfl rfl rfl rfl rfl ?_
        refine ldW rfl T82 S (i := 2) rfl rfl rfl rfl rfl ?_
        refine call (vs := [_, _, _]) ⟨⟨_, _, rfl, rfl⟩, ⟨_, _, rfl, rfl⟩, ⟨_, _, rfl, rfl⟩, trivial⟩ k61 rfl (c61 s d t _ _ _ hs ht (hO.now S) (hd.now S) (by exact hol) (by exact hoo) (by exact hdl) (hg2.now S) (hg3.now S)) ?_
        rintro _ w13 ⟨u17, rfl, hF⟩
        have S := S.fb hF
        obtain ⟨hu17, S⟩ := S.layBI (i := 0) rfl rfl (putTL_byt hs ht hO.byt hd.1)
        obtain ⟨N11, hN11, S_11⟩ := S.reb
        have hud := hud.st S; rw [hN11] at hud
        have hO := hO.st S; rw [hN11] at hO
        have hd := hd.st S; rw [hN11] at hd
        have hg1 := hg1.st S; rw [hN11] at hg1
        have hg2 := hg2.st S; rw [hN11] at hg2
        have hg3 := hg3.st S; rw [hN11] at hg3
        have hu15 := hu15.st S; rw [hN11] at hu15
        rw [hN11] at hu17
        have SS := SS.tran hN10 S
        have S := S_11
        refine mv1 rfl rfl ?_
        refine extr1 rfl rfl rfl ?_
        refine extr1 rfl rfl rfl ?_
        refine asg1 rfl rfl ?_
        refine asg1 rfl rfl ?_
        refine Ro.nil ?_
        refine Nrm.code ?_
        refine Run.seq ?_
        refine Run.region ?_
        refine ldW rfl T24 S (i := 1) rfl rfl rfl rfl rfl ?_
        refine ldW rfl T24 S (i := 0) rfl rfl rfl rfl rfl ?_
        refine mv1 rfl rfl ?_
        refine call (vs := [_, _, _]) ⟨⟨_, _, rfl, rfl⟩, ⟨_, _, rfl, rfl⟩, ⟨_, _, rfl, rfl⟩, trivial⟩ k57 rfl (c57 s (flipJ d (k / 8 - 32 / 8).toNat (k % 8)) _ _ _ hs (flipJ_ok ht (by omega)) (hu15.now S) (hg1.now S)) ?_
        rintro _ w14 ⟨d19, rfl, B1, hw_⟩
        have S := S.call B1
        have hd19 := hw_ _ _ hu15
        refine mv1 rfl rfl ?_
        refine extr1 rfl rfl rfl ?_
        refine extr1 rfl rfl rfl ?_
        refine alc T73 S rfl ?_
        intro b19 w15 hb19 S B_
        refine stW rfl rfl T73 rfl rfl (one_cons rfl (one_cons rfl (one_cons rfl (one_cons hd19.one one_nil)))) S (i := 0) rfl rfl ?_
        intro w16 S
        refine asg1 rfl rfl ?_
        refine Ro.nil ?_
        refine Nrm.code ?_
        refine Run.seq ?_
        refine Run.region ?_
        refine ldW rfl T24 S (i := 2) rfl rfl rfl rfl rfl ?_
        refine ldW rfl T24 S (i := 1) rfl rfl rfl rfl rfl ?_
        refine mv1 rfl rfl ?_
        refine call (vs := [_, _, _]) ⟨⟨_, _, rfl, rfl⟩, ⟨_, _, rfl, rfl⟩, ⟨_, _, rfl, rfl⟩, trivial⟩ k62 rfl (c62 s (flipJ d (k / 8 - 32 / 8).toNat (k % 8)) _ _ _ hs (flipJ_ok ht (by omega)) (hu17.now S) (hg2.now S) (hg3.now S)) ?_
        rintro _ w17 ⟨o21, d21, vs21, rfl, hF, hw_⟩
        have S := S.fo hF
        have hd21 := (hw_ _ _ hu17).2
        have ho_ := (hw_ _ _ hu17).1
        obtain ⟨ho21, S⟩ := S.layOI (i := 0) rfl rfl ho_
        obtain ⟨N12, hN12, S_12⟩ := S.reb
        have hud := hud.st S; rw [hN12] at hud
        have hO := hO.st S; rw [hN12] at hO
        have hd := hd.st S; rw [hN12] at hd
        have hg1 := hg1.st S; rw [hN12] at hg1
        have hg2 := hg2.st S; rw [hN12] at hg2
        have hg3 := hg3.st S; rw [hN12] at hg3
        have hu15 := hu15.st S; rw [hN12] at hu15
        have hu17 := hu17.st S; rw [hN12] at hu17
        have hd19 := hd19.st S; rw [hN12] at hd19
        have hd21 := hd21.st S; rw [hN12] at hd21
        rw [hN12] at ho21
        have SS := SS.tran hN11 S
        have S := S_12
        refine mv1 rfl rfl ?_
        refine extr1 rfl rfl rfl ?_
        refine extr1 rfl rfl rfl ?_
        refine alc T82 S rfl ?_
        intro b21 w18 hb21 S B_
        refine stW rfl rfl T82 rfl rfl (one_cons rfl (one_cons rfl (one_cons rfl (one_cons rfl (one_cons rfl (one_cons rfl (one_cons rfl (one_cons ho21.one (one_cons hd21.one one_nil))))))))) S (i := 0) rfl rfl ?_
        intro w19 S
        refine asg1 rfl rfl ?_
        refine Ro.nil ?_
        refine Nrm.code ?_
        refine Run.seq ?_
        refine Run.region ?_
        refine mv1 rfl rfl ?_
        refine calg (vs := [_]) rfl ⟨⟨_, _, rfl, rfl⟩, trivial⟩ k56 rfl (fun hG => c56 (putUE s d u) _ (by have := putUE_bd s d u; omega)) ?_
        intro w20 B_; have S := S.call B_
        refine neq1 rfl rfl rfl ?_
        refine mv1 rfl rfl ?_
        refine fld (o' := 2) rfl fo73_2 rfl rfl rfl rfl ?_
        refine ld1 rfl T4 S (i := 5) rfl rfl rfl rfl rfl ?_
        refine pkO rfl rfl rfl rfl rfl rfl ?_
        refine mv1 rfl rfl ?_
        refine mv rfl rfl rfl rfl ?_
        refine calg (vs := [_]) rfl ⟨⟨_, _, rfl, rfl⟩, trivial⟩ k56 rfl (fun hG => c56 (udpE s (flipJ d (k / 8 - 32 / 8).toNat (k % 8)) (putUL s d u)) _ (by have := udpE_bd s (flipJ d (k / 8 - 32 / 8).toNat (k % 8)) (putUL s d u); omega)) ?_
        intro w21 B_; have S := S.call B_
        refine eql rfl rfl rfl rfl rfl rfl ?_
        refine pkO rfl rfl rfl rfl rfl rfl ?_
        refine mv1 rfl rfl ?_
        refine mv rfl rfl rfl rfl ?_
        refine calg (vs := [_]) rfl ⟨⟨_, _, rfl, rfl⟩, trivial⟩ k56 rfl (fun hG => c56 (putTE s d t) _ (by have := putTE_bd s d t; omega)) ?_
        intro w22 B_; have S := S.call B_
        refine neq rfl rfl rfl rfl rfl rfl ?_
        refine mv rfl rfl rfl rfl ?_
        refine mv rfl rfl rfl rfl ?_
        refine calg (vs := [_]) rfl ⟨⟨_, _, rfl, rfl⟩, trivial⟩ k56 rfl (fun hG => c56 (tcpE s (flipJ d (k / 8 - 32 / 8).toNat (k % 8)) (putTL s d t)) _ (by have := tcpE_bd s (flipJ d (k / 8 - 32 / 8).toNat (k % 8)) (putTL s d t); omega)) ?_
        intro w23 B_; have S := S.call B_
        refine eql rfl rfl rfl rfl rfl rfl ?_
        refine pkO rfl rfl rfl rfl rfl rfl ?_
        refine pkA rfl rfl rfl rfl rfl rfl ?_
        refine asg1 rfl rfl ?_
        refine Ro.nil ?_
        refine Nrm.code ?_
        refine Run.ret ?_
        refine Rt.one rfl rfl ?_
        have hF : fitE s d = 0 → Flip s d s (flipJ d (k / 8 - 32 / 8).toNat (k % 8)) := fun hf => flip_dst (j := (k / 8 - 32 / 8).toNat) (r := k % 8) hf (by omega) (by omega)
        have hUE : putUE s d u = 0 → u.nosum = false → udpE s (flipJ d (k / 8 - 32 / 8).toNat (k % 8)) (putUL s d u) = 93 := fun he hn => udp_ends hs ht hud.1 he hn (hF (putUE_zero he).1)
        have hTE : putTE s d t = 0 → tcpE s (flipJ d (k / 8 - 32 / 8).toNat (k % 8)) (putTL s d t) = 96 := fun he => tcp_ends hs ht hO.byt hd.1 he (hF (putTE_zero he).1)
        exact ⟨ends_yes hUE hTE, (SS.tran hN12 S).bl⟩

end Go.Proofs.YtkahmepenjhcpaaDoor.W

