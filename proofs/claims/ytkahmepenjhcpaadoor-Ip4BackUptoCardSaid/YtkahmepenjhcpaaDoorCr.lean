/- Contracts: the plain datagram. No statement of the seat is proved here. -/
import Derived.Test.YtkahmepenjhcpaaDoorCq
import Derived.Test.YtkahmepenjhcpaaDoorFv
namespace Go.Proofs.YtkahmepenjhcpaaDoor.W
open Go
set_option linter.unusedSimpArgs false
set_option linter.unusedVariables false


def plainH : Ip4 := ⟨0, 0, false, false, 0, 64, 17, ip4of 10 0 0 1, ip4of 10 0 0 2, [], [104, 105]⟩
def plainB : List Int := [69, 0, 0, 22, 0, 0, 0, 0, 64, 17, 102, 213, 10, 0, 0, 1, 10, 0, 0, 2, 104, 105]
theorem plain_chk : chkE plainH = 0 := by decide +kernel
theorem plain_ser : serL plainH = plainB := by decide +kernel
theorem plain_opt : optE (optB4 plainB) = 0 ∧ optL (optB4 plainB) = [] := by
  have e : optB4 plainB = [] := by decide +kernel
  rw [e]; simp [optE, optL, optsG]
theorem plain_par : parE plainB = 0 := by
  unfold parE
  rw [plain_opt.1]
  decide +kernel
theorem plain_same : sameH (parH plainB) plainH = true := by
  unfold parH
  rw [if_pos plain_par]
  unfold sameH parG
  rw [plain_opt.2]
  decide +kernel
theorem par_nil : parE [] = 60 := by decide +kernel
theorem plainH_ok : plainH.src.ok ∧ plainH.dst.ok := ⟨ip4of_ok (by omega) (by omega) (by omega) (by omega), ip4of_ok (by omega) (by omega) (by omega) (by omega)⟩
theorem hi_byt : byt [104, 105] := by intro x hx; revert x; decide +kernel
theorem plainB_byt : byt plainB := by intro x hx; revert x; decide +kernel

set_option maxHeartbeats 1000000 in
theorem c92 (w : World) :
    CallsV Tryd.prog 92 #[] w (fun r w' => ∃ d v, r = .tuple #[.agg (encIp4 plainH (.slice none 0 0) d).toArray, v] ∧ Bl w w' ∧ ∀ N, (∀ i ∈ N, i < w.heap.size) → BS N w' d [104, 105] ∧ BS N w' v plainB) := by
  refine enter Tryd.func92 rfl Tryd.ntmps92 (l := []) rfl rfl ?_
  have S := St.refl [] w
  refine Run.seq ?_
  refine Run.region ?_
  refine alc T28 S rfl ?_
  intro b0 w1 hb0 S B_
  refine asg1 rfl rfl ?_
  refine Ro.nil ?_
  refine Nrm.code ?_
  refine Run.seq ?_
  refine Run.region ?_
  refine bldA rfl (sz := 1) (E := 5) (m := 16) Tryd.underlying22 T22 T5 (qs := [(_, _), (_, _), (_, _), (_, _)]) ⟨⟨_, _, _, rfl, rfl, rfl, rfl, by simp [Value.cells]⟩, ⟨_, _, _, rfl, rfl, rfl, rfl, by simp [Value.cells]⟩, ⟨_, _, _, rfl, rfl, rfl, rfl, by simp [Value.cells]⟩, ⟨_, _, _, rfl, rfl, rfl, rfl, by simp [Value.cells]⟩, trivial⟩ rfl rfl ?_
  refine bld B24 (qs := [(_, _), (_, _)]) ⟨⟨_, _, _, rfl, rfl, rfl, rfl, by simp [Value.cells]⟩, ⟨_, _, _, rfl, rfl, rfl, rfl, by simp [Value.cells]⟩, trivial⟩ rfl rfl rfl ?_
  refine bldA rfl (sz := 1) (E := 5) (m := 16) Tryd.underlying22 T22 T5 (qs := [(_, _), (_, _), (_, _), (_, _)]) ⟨⟨_, _, _, rfl, rfl, rfl, rfl, by simp [Value.cells]⟩, ⟨_, _, _, rfl, rfl, rfl, rfl, by simp [Value.cells]⟩, ⟨_, _, _, rfl, rfl, rfl, rfl, by simp [Value.cells]⟩, ⟨_, _, _, rfl, rfl, rfl, rfl, by simp [Value.cells]⟩, trivial⟩ rfl rfl ?_
  refine bld B24 (qs := [(_, _), (_, _)]) ⟨⟨_, _, _, rfl, rfl, rfl, rfl, by simp [Value.cells]⟩, ⟨_, _, _, rfl, rfl, rfl, rfl, by simp [Value.cells]⟩, trivial⟩ rfl rfl rfl ?_
  refine bsk (b := [104, 105]) e26 Tryd.underlying5 hi_byt (qs := [(_, _), (_, _)]) ⟨⟨_, _, _, rfl, rfl, rfl, rfl, by simp [Value.cells]⟩, ⟨_, _, _, rfl, rfl, rfl, rfl, by simp [Value.cells]⟩, trivial⟩ rfl rfl rfl rfl rfl (by decide) S ?_
  have S0 := S
  intro u q w2 S B_ hq
  have hq1 := hq [] (by simp)
  have Sb := S
  have S := S.rebase
  refine bld B28 (qs := [(_, _), (_, _), (_, _), (_, _), (_, _)]) ⟨⟨_, _, _, rfl, rfl, rfl, rfl, by simp [Value.cells]⟩, ⟨_, _, _, rfl, rfl, rfl, rfl, by simp [Value.cells]⟩, ⟨_, _, _, rfl, rfl, rfl, rfl, by simp [Value.cells]⟩, ⟨_, _, _, rfl, rfl, rfl, rfl, by simp [Value.cells]⟩, ⟨_, _, _, rfl, rfl, cells1 hq1.one, rfl, List.cons_ne_nil _ _⟩, trivial⟩ rfl rfl rfl ?_
  refine alc T28 S rfl ?_
  intro b2 w3 hb2 S B_
  refine stW rfl rfl T28 rfl rfl (one_cons rfl (one_cons rfl (one_cons rfl (one_cons rfl (one_cons rfl (one_cons rfl (one_cons rfl (one_cons rfl (one_cons rfl (one_cons rfl (one_cons rfl (one_cons rfl (one_cons rfl (one_cons rfl (one_cons rfl (one_cons rfl (one_cons rfl (one_cons rfl (one_cons rfl (one_cons rfl (one_cons rfl (one_cons rfl (one_cons rfl (one_cons rfl (one_cons rfl (one_cons rfl (one_cons rfl (one_cons rfl (one_cons rfl (one_cons rfl (one_cons rfl (one_cons rfl (one_cons rfl (one_cons rfl (one_cons rfl (one_cons rfl (one_cons rfl (one_cons rfl (one_cons rfl (one_cons rfl (one_cons rfl (one_cons rfl (one_cons hq1.one one_nil))))))))))))))))))))))))))))))))))))))))))) S (i := 0) rfl rfl ?_
  intro w4 S
  refine Ro.nil ?_
  refine Nrm.code ?_
  refine Run.seq ?_
  refine Run.region ?_
  refine ldW rfl T28 S (i := 0) rfl rfl rfl rfl rfl ?_
  refine bsl e26 (qs := [(_, _), (_, _), (_, _), (_, _), (_, _), (_, _), (_, _), (_, _), (_, _), (_, _), (_, _), (_, _), (_, _), (_, _), (_, _), (_, _), (_, _), (_, _), (_, _), (_, _), (_, _), (_, _)]) ⟨⟨_, _, _, rfl, rfl, rfl, rfl, by simp [Value.cells]⟩, ⟨_, _, _, rfl, rfl, rfl, rfl, by simp [Value.cells]⟩, ⟨_, _, _, rfl, rfl, rfl, rfl, by simp [Value.cells]⟩, ⟨_, _, _, rfl, rfl, rfl, rfl, by simp [Value.cells]⟩, ⟨_, _, _, rfl, rfl, rfl, rfl, by simp [Value.cells]⟩, ⟨_, _, _, rfl, rfl, rfl, rfl, by simp [Value.cells]⟩, ⟨_, _, _, rfl, rfl, rfl, rfl, by simp [Value.cells]⟩, ⟨_, _, _, rfl, rfl, rfl, rfl, by simp [Value.cells]⟩, ⟨_, _, _, rfl, rfl, rfl, rfl, by simp [Value.cells]⟩, ⟨_, _, _, rfl, rfl, rfl, rfl, by simp [Value.cells]⟩, ⟨_, _, _, rfl, rfl, rfl, rfl, by simp [Value.cells]⟩, ⟨_, _, _, rfl, rfl, rfl, rfl, by simp [Value.cells]⟩, ⟨_, _, _, rfl, rfl, rfl, rfl, by simp [Value.cells]⟩, ⟨_, _, _, rfl, rfl, rfl, rfl, by simp [Value.cells]⟩, ⟨_, _, _, rfl, rfl, rfl, rfl, by simp [Value.cells]⟩, ⟨_, _, _, rfl, rfl, rfl, rfl, by simp [Value.cells]⟩, ⟨_, _, _, rfl, rfl, rfl, rfl, by simp [Value.cells]⟩, ⟨_, _, _, rfl, rfl, rfl, rfl, by simp [Value.cells]⟩, ⟨_, _, _, rfl, rfl, rfl, rfl, by simp [Value.cells]⟩, ⟨_, _, _, rfl, rfl, rfl, rfl, by simp [Value.cells]⟩, ⟨_, _, _, rfl, rfl, rfl, rfl, by simp [Value.cells]⟩, ⟨_, _, _, rfl, rfl, rfl, rfl, by simp [Value.cells]⟩, trivial⟩ rfl rfl rfl rfl S ?_
  intro u11 w5 S B_
  refine stW rfl rfl T28 rfl rfl (one_cons rfl (one_cons rfl (one_cons rfl (one_cons rfl (one_cons rfl (one_cons rfl (one_cons rfl (one_cons rfl (one_cons rfl (one_cons rfl (one_cons rfl (one_cons rfl (one_cons rfl (one_cons rfl (one_cons rfl (one_cons rfl (one_cons rfl (one_cons rfl (one_cons rfl (one_cons rfl (one_cons rfl (one_cons rfl (one_cons rfl (one_cons rfl (one_cons rfl (one_cons rfl (one_cons rfl (one_cons rfl (one_cons rfl (one_cons rfl (one_cons rfl (one_cons rfl (one_cons rfl (one_cons rfl (one_cons rfl (one_cons rfl (one_cons rfl (one_cons rfl (one_cons rfl (one_cons rfl (one_cons rfl (one_cons rfl (one_cons hq1.one one_nil))))))))))))))))))))))))))))))))))))))))))) S (i := 2) rfl rfl ?_
  intro w6 S
  refine asg1 rfl rfl ?_
  refine Ro.nil ?_
  refine Nrm.code ?_
  refine Run.ret ?_
  refine Rt.cell2 rfl rfl rfl T28 S (i := 2) rfl rfl ?_
  exact ⟨q, u11, rfl, (Sb.trans S).bl, fun N hN => ⟨((hq _ (below_app S0 hN)).stN (fun _ h => List.mem_append_left _ h) S).weak (fun j hj => List.mem_append_right _ (List.mem_append_right _ hj)), ((Sb.trans S).toFB (i := 0) (l := plainB) rfl).bs plainB_byt hN⟩⟩

set_option maxHeartbeats 1000000 in
theorem c28 (w : World) (hg : GV [] w 0 130 (W4.map i64)) :
    CallsD Tryd.prog 28 #[] w (.bool true) := by
  refine enter Tryd.func28 rfl Tryd.ntmps28 (l := []) rfl rfl ?_
  have S := St.refl [] w
  refine Run.seq ?_
  refine Run.region ?_
  refine asg1 rfl rfl ?_
  refine Ro.nil ?_
  refine Nrm.code ?_
  refine Run.seq ?_
  refine Run.region ?_
  refine call (vs := []) trivial k92 rfl (c92 _) ?_
  rintro _ w1 ⟨d1, v1, rfl, B1, hq⟩
  have Sb := S.call B1
  have hg := (hg.now Sb)
  have S := St.refl [] w1
  have hd1 := (hq [] (by simp)).1
  have hv1 := (hq [] (by simp)).2
  refine mv1 rfl rfl ?_
  refine extr1 rfl rfl rfl ?_
  refine extr1 rfl rfl rfl ?_
  refine alc T28 S rfl ?_
  intro b1 w2 hb1 S B_
  refine stW rfl rfl T28 rfl rfl (one_cons rfl (one_cons rfl (one_cons rfl (one_cons rfl (one_cons rfl (one_cons rfl (one_cons rfl (one_cons rfl (one_cons rfl (one_cons rfl (one_cons rfl (one_cons rfl (one_cons rfl (one_cons rfl (one_cons rfl (one_cons rfl (one_cons rfl (one_cons rfl (one_cons rfl (one_cons rfl (one_cons rfl (one_cons rfl (one_cons rfl (one_cons rfl (one_cons rfl (one_cons rfl (one_cons rfl (one_cons rfl (one_cons rfl (one_cons rfl (one_cons rfl (one_cons rfl (one_cons rfl (one_cons rfl (one_cons rfl (one_cons rfl (one_cons rfl (one_cons rfl (one_cons rfl (one_cons rfl (one_cons rfl (one_cons rfl (one_cons hd1.one one_nil))))))))))))))))))))))))))))))))))))))))))) S (i := 0) rfl rfl ?_
  intro w3 S
  refine asg1 rfl rfl ?_
  refine Ro.nil ?_
  refine Nrm.code ?_
  refine Run.seq ?_
  refine Run.region ?_
  refine ldW rfl T28 S (i := 0) rfl rfl rfl rfl rfl ?_
  refine call (vs := [_]) ⟨⟨_, _, rfl, rfl⟩, trivial⟩ k30 rfl (c30 _ _ _ _ (OS.nil _ _) (hd1.now S) (by decide) (by decide) plainH_ok.1 plainH_ok.2 (hg.now S)) ?_
  rintro _ w4 ⟨u3, rfl, hF⟩
  have S := S.fb hF
  refine mv1 rfl rfl ?_
  refine extr1 rfl rfl rfl ?_
  refine extr1 rfl rfl rfl ?_
  refine asg1 rfl rfl ?_
  refine asg1 rfl rfl ?_
  refine Ro.nil ?_
  refine Nrm.code ?_
  refine Run.seq ?_
  refine Run.region ?_
  refine mv1 rfl rfl ?_
  refine call (vs := [_]) ⟨⟨_, _, rfl, rfl⟩, trivial⟩ k33 rfl (c33 _ _ _ (hv1.now S) (hg.now S)) ?_
  rintro _ w5 ⟨o5, d5, vs5, rfl, hF, hw5⟩
  have S := S.fo hF
  have hd5 := (hw5 _ _ hv1).2
  have ho5 := (hw5 _ _ hv1).1
  refine mv1 rfl rfl ?_
  refine extr1 rfl rfl rfl ?_
  refine extr1 rfl rfl rfl ?_
  refine alc T28 S rfl ?_
  intro b5 w6 hb5 S B_
  refine stW rfl rfl T28 rfl rfl (one_cons rfl (one_cons rfl (one_cons rfl (one_cons rfl (one_cons rfl (one_cons rfl (one_cons rfl (one_cons rfl (one_cons rfl (one_cons rfl (one_cons rfl (one_cons rfl (one_cons rfl (one_cons rfl (one_cons rfl (one_cons rfl (one_cons rfl (one_cons rfl (one_cons rfl (one_cons rfl (one_cons rfl (one_cons rfl (one_cons rfl (one_cons rfl (one_cons rfl (one_cons rfl (one_cons rfl (one_cons rfl (one_cons rfl (one_cons rfl (one_cons rfl (one_cons rfl (one_cons rfl (one_cons rfl (one_cons rfl (one_cons rfl (one_cons rfl (one_cons rfl (one_cons rfl (one_cons rfl (one_cons rfl (one_cons (S.slI (i := 1) rfl).one (one_cons hd5.one one_nil))))))))))))))))))))))))))))))))))))))))))) S (i := 0) rfl rfl ?_
  intro w7 S
  refine asg1 rfl rfl ?_
  refine Ro.nil ?_
  refine Nrm.code ?_
  refine Run.seq ?_
  refine Run.region ?_
  refine call (vs := [_]) ⟨⟨_, _, rfl, rfl⟩, trivial⟩ k33 rfl (c33 _ _ _ (BS.nil _ _) (hg.now S)) ?_
  rintro _ w8 ⟨o7, d7, vs7, rfl, hF, hw7⟩
  have S := S.fo hF
  have hd7 := (hw7 _ _ (BS.nil [] w1)).2
  have ho7 := (hw7 _ _ (BS.nil [] w1)).1
  refine mv1 rfl rfl ?_
  refine extr1 rfl rfl rfl ?_
  refine extr1 rfl rfl rfl ?_
  refine alc T28 S rfl ?_
  intro b7 w9 hb7 S B_
  refine stW rfl rfl T28 rfl rfl (one_cons rfl (one_cons rfl (one_cons rfl (one_cons rfl (one_cons rfl (one_cons rfl (one_cons rfl (one_cons rfl (one_cons rfl (one_cons rfl (one_cons rfl (one_cons rfl (one_cons rfl (one_cons rfl (one_cons rfl (one_cons rfl (one_cons rfl (one_cons rfl (one_cons rfl (one_cons rfl (one_cons rfl (one_cons rfl (one_cons rfl (one_cons rfl (one_cons rfl (one_cons rfl (one_cons rfl (one_cons rfl (one_cons rfl (one_cons rfl (one_cons rfl (one_cons rfl (one_cons rfl (one_cons rfl (one_cons rfl (one_cons rfl (one_cons rfl (one_cons rfl (one_cons rfl (one_cons rfl (one_cons rfl (one_cons (S.slI (i := 1) rfl).one (one_cons hd7.one one_nil))))))))))))))))))))))))))))))))))))))))))) S (i := 0) rfl rfl ?_
  intro w10 S
  refine asg1 rfl rfl ?_
  refine Ro.nil ?_
  refine Nrm.code ?_
  refine Run.seq ?_
  refine Run.region ?_
  refine mv1 rfl rfl ?_
  refine calg (vs := [_]) rfl ⟨⟨_, _, rfl, rfl⟩, trivial⟩ k31 rfl (fun hG => c31 (chkE plainH) _ (by rw [plain_chk]; decide)) ?_
  intro w11 B_; have S := S.call B_
  refine eql1 rfl rfl rfl ?_
  refine mv1 rfl rfl ?_
  refine mv rfl rfl rfl rfl ?_
  refine calg (vs := [_]) rfl ⟨⟨_, _, rfl, rfl⟩, trivial⟩ k31 rfl (fun hG => c31 (parE plainB) _ (by rw [plain_par]; decide)) ?_
  intro w12 B_; have S := S.call B_
  refine eql rfl rfl rfl rfl rfl rfl ?_
  refine pkA rfl rfl rfl rfl rfl rfl ?_
  refine mv1 rfl rfl ?_
  refine mv rfl rfl rfl rfl ?_
  refine calg (vs := [_]) rfl ⟨⟨_, _, rfl, rfl⟩, trivial⟩ k31 rfl (fun hG => c31 (parE []) _ (by rw [par_nil]; decide)) ?_
  intro w13 B_; have S := S.call B_
  refine eql rfl rfl rfl rfl rfl rfl ?_
  refine pkA rfl rfl rfl rfl rfl rfl ?_
  refine mv1 rfl rfl ?_
  refine mv rfl rfl rfl rfl ?_
  refine mv rfl rfl rfl rfl ?_
  have hby_u3 : byt (serL plainH) := by rw [plain_ser]; exact plainB_byt
  refine calg (vs := [_, _]) rfl ⟨⟨_, _, rfl, rfl⟩, ⟨_, _, rfl, rfl⟩, trivial⟩ k37 rfl (fun hG => c37 _ _ _ _ _ (hv1.now S) (S.bsI (i := 4) rfl hby_u3)) ?_
  intro w14 B_; have S := S.call B_
  refine pkA rfl rfl rfl rfl rfl rfl ?_
  refine mv1 rfl rfl ?_
  refine ldW rfl T28 S (i := 2) rfl rfl rfl rfl rfl ?_
  refine ldW rfl T28 S (i := 5) rfl rfl rfl rfl rfl ?_
  refine calg (vs := [_, _]) rfl ⟨⟨_, _, rfl, rfl⟩, ⟨_, _, rfl, rfl⟩, trivial⟩ k34 rfl (fun hG => c34 _ _ _ _ _ _ _ (S.osI (i := 3) rfl (ho5.now S)) (hd5.now S) (OS.nil _ _) (hd1.now S) (by have := (parH_ok plainB_byt).2.2.1; omega)) ?_
  intro w15 B_; have S := S.call B_
  refine pkA rfl rfl rfl rfl rfl rfl ?_
  refine asg1 rfl rfl ?_
  refine Ro.nil ?_
  refine Nrm.code ?_
  refine Run.ret ?_
  refine Rt.one rfl rfl ?_
  exact ⟨by simp [plain_chk, plain_par, par_nil, plain_ser, plain_same], Sb.bl.trans S.bl⟩

end Go.Proofs.YtkahmepenjhcpaaDoor.W
