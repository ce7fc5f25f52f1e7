/- Contracts: datagrams cloned. No statement of the seat is proved here. -/
import Derived.Test.YtkahmepenjhcpaaDoorCo
namespace Go.Proofs.YtkahmepenjhcpaaDoor.W
open Go
set_option linter.unusedSimpArgs false
set_option linter.unusedVariables false


theorem OS.stN {N0 N1 : List Nat} {w0 w : World} {L : List Own} {v : Value} {os : List Opt} (h : OS N1 w0 v os) (hN : ∀ i ∈ N0, i ∈ N1) (S : St N0 w0 L w) : OS (idsL L ++ N1) w v os :=
  let ⟨vs, h1, h2⟩ := h; ⟨vs, h1.stN hN S, BSs.stN hN S h2⟩

set_option maxHeartbeats 1000000 in
theorem c93 (v : Value) (os : List Opt) (w : World) (hO : OS [] w v os) (hl : os.length ≤ 1099511627776) (hdl : ∀ o ∈ os, o.data.length ≤ 140737488355328) :
    CallsV Tryd.prog 93 #[v] w (fun r w' => FOS w w' r os) := by
  refine enter Tryd.func93 rfl Tryd.ntmps93 (l := [(0, [], _)]) rfl rfl ?_
  have S := St.refl [] w
  obtain ⟨ds, hOS, hOB⟩ := hO
  refine Run.seq ?_
  refine Run.region ?_
  refine asg1 rfl rfl ?_
  refine Ro.nil ?_
  refine Nrm.code ?_
  refine Run.seq ?_
  refine Run.region ?_
  refine asg1 rfl rfl ?_
  have S := S.nilO
  refine Ro.nil ?_
  refine Nrm.code ?_
  refine Run.seq ?_
  refine Run.seq ?_
  refine Run.region ?_
  refine asg1 rfl rfl ?_
  refine Ro.nil ?_
  refine Nrm.code ?_
  refine Run.block ?_
  refine Run.loop4 (fun (i : Nat) (u : Value) (acc : List Opt) (vs : List Value) w_ => i ≤ os.length ∧ vs.length = acc.length ∧ acc = os.take i ∧ (∀ N, (∀ j ∈ N, j < w.heap.size) → OSs (idsL [oO u acc vs] ++ N) w_ vs acc) ∧ St [] w [oO u acc vs] w_) (fun (i : Nat) (u : Value) (acc : List Opt) (vs : List Value) => [(0, [], v), (3, [], u), (4, [], .int .i64 i)]) (fun (i : Nat) (u : Value) (acc : List Opt) (vs : List Value) => os.length - i) (0) (_) ([]) ([]) ⟨Nat.zero_le _, rfl, rfl, fun _ _ => trivial, S⟩ ⟨rfl, rfl, rfl, trivial⟩ ?_
  rintro i u acc vs w1 ⟨hi, hvl, hacc, hvs, S⟩
  have hal : acc.length = i := by rw [hacc, List.length_take]; omega
  refine Run.seq ?_
  refine Run.seq ?_
  refine Run.region ?_
  refine mv1 rfl rfl ?_
  refine mv1 rfl rfl ?_
  refine lenS rfl hOS Tryd.underlying25 rfl rfl rfl ?_
  refine lss1 rfl rfl rfl ?_
  refine Ro.nil ?_
  refine Nrm.code ?_
  refine Run.cond rfl (fun hc3 => ?_) (fun hc3 => ?_)
  ·
    try simp only [Bool.or_eq_true, Bool.and_eq_true, Bool.or_eq_false_iff, Bool.and_eq_false_iff, decide_eq_true_eq, decide_eq_false_iff_not, Bool.not_eq_true', Bool.not_eq_false', Bool.not_eq_true, Bool.not_eq_false] at hc3
    refine Run.skip ?_
    refine Nrm.code ?_
    refine Run.seq ?_
    refine Run.block ?_
    refine Run.held (by kernel_rfl) S [false] rfl rfl rfl ?_
    intro w2 BD S SC
    refine Ho.take (i := 0) SC Pp.body rfl (by kernel_rfl) (by kernel_rfl) (by kernel_rfl) rfl rfl ?_
    obtain ⟨p1, hp1, hb1⟩ := hOB.at (i := i) (by omega)
    refine qmv rfl rfl rfl rfl ?_
    refine Ho.back ?_
    refine Ho.take (i := 1) SC Pp.body rfl (by kernel_rfl) (by kernel_rfl) (by kernel_rfl) rfl rfl ?_
    refine qmv rfl rfl rfl rfl ?_
    refine Ho.back ?_
    refine Ho.take (i := 2) SC Pp.body rfl (by kernel_rfl) (by kernel_rfl) (by kernel_rfl) rfl rfl ?_
    refine qmv rfl rfl rfl rfl ?_
    refine Ho.back ?_
    refine Ho.take (i := 3) SC Pp.body rfl (by kernel_rfl) (by kernel_rfl) (by kernel_rfl) rfl rfl ?_
    refine qixa rfl rfl hOS e25 rfl rfl rfl rfl (fun _ => by first | omega | (simp only [List.length_cons, List.length_nil]; omega)) ?_
    refine Ho.back ?_
    refine Ho.take (i := 4) SC Pp.body rfl (by kernel_rfl) (by kernel_rfl) (by kernel_rfl) rfl rfl ?_
    refine qflE rfl hOS fo93_0 rfl rfl rfl (fun _ => hOB.lt (by omega)) ?_
    refine Ho.back ?_
    refine Ho.take (i := 5) SC Pp.body rfl (by kernel_rfl) (by kernel_rfl) (by kernel_rfl) rfl rfl ?_
    refine qldE rfl hOS (fun _ S => S) T3 rfl rfl rfl (fun _ => hOB.k0 (by omega) hp1) ?_
    refine Ho.back ?_
    refine Ho.take (i := 6) SC Pp.body rfl (by kernel_rfl) (by kernel_rfl) (by kernel_rfl) rfl rfl ?_
    refine qmv rfl rfl rfl rfl ?_
    refine Ho.back ?_
    refine Ho.take (i := 7) SC Pp.body rfl (by kernel_rfl) (by kernel_rfl) (by kernel_rfl) rfl rfl ?_
    refine qmv rfl rfl rfl rfl ?_
    refine Ho.back ?_
    refine Ho.take (i := 8) SC Pp.body rfl (by kernel_rfl) (by kernel_rfl) (by kernel_rfl) rfl rfl ?_
    refine qixa rfl rfl hOS e25 rfl rfl rfl rfl (fun _ => by first | omega | (simp only [List.length_cons, List.length_nil]; omega)) ?_
    refine Ho.back ?_
    refine Ho.take (i := 9) SC Pp.body rfl (by kernel_rfl) (by kernel_rfl) (by kernel_rfl) rfl rfl ?_
    refine qflE rfl hOS fo93_1 rfl rfl rfl (fun _ => hOB.lt (by omega)) ?_
    refine Ho.back ?_
    refine Ho.take (i := 10) SC Pp.body rfl (by kernel_rfl) (by kernel_rfl) (by kernel_rfl) rfl rfl ?_
    refine qldE rfl hOS (fun _ S => S) T26 rfl rfl rfl (fun _ => hOB.k1 (by omega) hp1) ?_
    refine Ho.back ?_
    refine Ho.one (i := 11) (by kernel_rfl) rfl rfl ?_
    have S0 := S
    refine call (vs := [_]) ⟨⟨_, _, rfl, rfl⟩, trivial⟩ k39 rfl (c39 _ _ _ (hb1.now S) (by have := hdl _ (getD_mem' (d := o0) (show i < os.length by omega)); omega)) ?_
    rintro q w3 hF
    have S := S.call hF.1
    have hqb : ∀ N, (∀ j ∈ N, j < w.heap.size) → BS (idsL [oO u acc vs] ++ N) w3 q _ := fun N hN => hF.bs hb1.1 (below_app S0 hN)
    have hvs := fun N hN => ((hvs N hN).bl BD).bl hF.1
    have Sb := S
    have S := S.rebase
    have hq1 := hqb [] (by simp)
    have SC := (Sb.trans S).pick [false] rfl
    refine Ho.on SC ?_
    refine Ho.take (i := 12) SC Pp.body rfl (by kernel_rfl) (by kernel_rfl) (by kernel_rfl) rfl rfl ?_
    refine qbld B93 (qs := [(_, _), (_, _)]) ⟨⟨_, _, _, rfl, rfl, rfl, rfl, by simp [Value.cells]⟩, ⟨_, _, _, rfl, rfl, cells1 hq1.one, rfl, List.cons_ne_nil _ _⟩, trivial⟩ rfl rfl rfl ?_
    refine Ho.back ?_
    refine Ho.one (i := 13) (by kernel_rfl) rfl rfl ?_
    refine bsl e25 (qs := [(_, _)]) ⟨⟨_, _, _, rfl, rfl, rfl, rfl, by simp [Value.cells]⟩, trivial⟩ rfl rfl rfl rfl S ?_
    intro u24 w4 S B_
    have SC := (Sb.trans S).pick [false, false] rfl
    refine Ho.on SC ?_
    refine Ho.one (i := 14) (by kernel_rfl) rfl rfl ?_
    refine apO (i := 1) ((os.getD i o0).data) rfl rfl e25 (S.slI (i := 0) rfl) hq1.one hvl S rfl rfl (fun v' => rfl) (by omega) ?_
    intro u2 w5 S B_
    have SC := (Sb.trans S).pick [false, false] rfl
    refine Ho.on SC ?_
    refine Ho.take (i := 15) SC Pp.body rfl (by kernel_rfl) (by kernel_rfl) (by kernel_rfl) rfl rfl ?_
    refine qasg rfl rfl rfl rfl ?_
    refine Ho.back ?_
    refine Ho.done (by kernel_rfl) ?_
    refine Nrm.blk ?_
    refine Nrm.code ?_
    refine Run.region ?_
    refine mv1 rfl rfl ?_
    refine add1 rfl rfl rfl (w64 (by omega)) ?_
    refine asg1 rfl rfl ?_
    refine Ro.nil ?_
    refine Nrm.loop4 (i + 1) (_) (_) (_) ⟨by omega, by simp [hvl], by rw [take_succ_getD (show i < os.length by omega) (d := o0), hacc],
            fun N hN => ((OSs.stN (fun _ h => List.mem_append_left _ h) S.drop0 (hvs N hN)).snoc ((hqb N hN).stN (fun _ h => List.mem_append_left _ h) S.drop0)).weak mid_drop, Sb.trans S.drop0⟩ (by omega) ⟨rfl, rfl, rfl, trivial⟩
  ·
    try simp only [Bool.or_eq_true, Bool.and_eq_true, Bool.or_eq_false_iff, Bool.and_eq_false_iff, decide_eq_true_eq, decide_eq_false_iff_not, Bool.not_eq_true', Bool.not_eq_false', Bool.not_eq_true, Bool.not_eq_false] at hc3
    refine Run.exit ?_
    refine Lv.code ?_
    refine Lv.back ?_
    refine Lv.hit ?_
    refine Nrm.code ?_
    refine Run.seq ?_
    refine Run.region ?_
    refine mv1 rfl rfl ?_
    refine asg1 rfl rfl ?_
    refine Ro.nil ?_
    refine Nrm.code ?_
    refine Run.ret ?_
    refine Rt.one rfl rfl ?_
    have e : i = os.length := by omega
    rw [e, List.take_length] at hacc
    subst hacc
    exact S.toFOS (i := 0) rfl (fun N hN => (hvs N hN).weak (fun j hj => List.mem_append_right _ hj))

set_option maxHeartbeats 1000000 in
theorem c29 (h : Ip4) (o d : Value) (w : World) (hO : OS [] w o h.opts) (hd : BS [] w d h.data) (hol : h.opts.length ≤ 1099511627776) (hdl : h.data.length ≤ 1099511627776) (hdo : ∀ o ∈ h.opts, o.data.length ≤ 140737488355328) :
    CallsV Tryd.prog 29 #[.agg (encIp4 h o d).toArray] w (fun r w' => ∃ o' d', r = .agg (encIp4 h o' d').toArray ∧ Bl w w' ∧ ∀ N, (∀ i ∈ N, i < w.heap.size) → OS N w' o' h.opts ∧ BS N w' d' h.data) := by
  refine enter Tryd.func29 rfl Tryd.ntmps29 (l := [(0, [], _)]) rfl rfl ?_
  have S := St.refl [] w
  refine Run.seq ?_
  refine Run.region ?_
  refine boxA rfl S rfl ?_
  intro b1 w1 hb1 S B_
  refine alc T28 S rfl ?_
  intro b2 w2 hb2 S B_
  refine Ro.nil ?_
  refine Nrm.code ?_
  refine Run.seq ?_
  refine Run.region ?_
  refine fld (o' := 41) rfl fo28_9 rfl rfl rfl rfl ?_
  refine ld1 rfl T25 S (i := 1) rfl rfl rfl rfl rfl ?_
  have S0 := S
  refine call (vs := [_]) ⟨⟨_, _, rfl, rfl⟩, trivial⟩ k93 rfl (c93 _ _ _ (hO.now S) hol hdo) ?_
  rintro q w3 hF
  have S := S.call hF.1
  have hq1 := (hF.2 [] (by simp)).one
  have Sb := S
  have hd := hd.st S
  have S := S.rebase
  refine fld (o' := 41) rfl fo28_9 rfl rfl rfl rfl ?_
  refine st1 rfl rfl T25 hq1 S (i := 1) rfl rfl rfl ?_
  intro w4 S
  refine Ro.nil ?_
  refine Nrm.code ?_
  refine Run.seq ?_
  refine Run.region ?_
  refine fld (o' := 42) rfl fo28_10 rfl rfl rfl rfl ?_
  refine ld1 rfl T26 S (i := 1) rfl rfl rfl rfl rfl ?_
  have S1 := S
  refine call (vs := [_]) ⟨⟨_, _, rfl, rfl⟩, trivial⟩ k39 rfl (c39 _ _ _ (hd.now S) (by omega)) ?_
  rintro r w5 hG
  have S := S.call hG.1
  have Sc := S
  have S := S.rebase
  have hr1 := (hG.bs (N := []) hd.1 (by simp)).one
  refine fld (o' := 42) rfl fo28_10 rfl rfl rfl rfl ?_
  refine st1 rfl rfl T26 hr1 S (i := 1) rfl rfl rfl ?_
  intro w6 S
  refine Ro.nil ?_
  refine Nrm.code ?_
  refine Run.seq ?_
  refine Run.region ?_
  refine ldW rfl T28 S (i := 1) rfl rfl rfl rfl rfl ?_
  refine stW rfl rfl T28 rfl rfl (one_cons rfl (one_cons rfl (one_cons rfl (one_cons rfl (one_cons rfl (one_cons rfl (one_cons rfl (one_cons rfl (one_cons rfl (one_cons rfl (one_cons rfl (one_cons rfl (one_cons rfl (one_cons rfl (one_cons rfl (one_cons rfl (one_cons rfl (one_cons rfl (one_cons rfl (one_cons rfl (one_cons rfl (one_cons rfl (one_cons rfl (one_cons rfl (one_cons rfl (one_cons rfl (one_cons rfl (one_cons rfl (one_cons rfl (one_cons rfl (one_cons rfl (one_cons rfl (one_cons rfl (one_cons rfl (one_cons rfl (one_cons rfl (one_cons rfl (one_cons rfl (one_cons rfl (one_cons rfl (one_cons rfl (one_cons hq1 (one_cons hr1 one_nil))))))))))))))))))))))))))))))))))))))))))) S (i := 0) rfl rfl ?_
  intro w7 S
  refine Ro.nil ?_
  refine Nrm.code ?_
  refine Run.ret ?_
  refine Rt.cell1 rfl rfl T28 S (i := 0) rfl rfl ?_
  exact ⟨q, r, rfl, (Sb.trans (Sc.trans S)).bl, fun N hN => ⟨(((hF.2 _ (below_app S0 hN)).stN (fun _ h => List.mem_append_left _ h) Sc).stN (fun _ h => List.mem_append_left _ h) S).weak (fun j hj => List.mem_append_right _ (List.mem_append_right _ (List.mem_append_right _ hj))), ((hG.bs hd.1 (below_app (Sb.trans S1) hN)).stN (fun _ h => List.mem_append_left _ h) S).weak (fun j hj => List.mem_append_right _ (List.mem_append_right _ hj))⟩⟩

end Go.Proofs.YtkahmepenjhcpaaDoor.W
