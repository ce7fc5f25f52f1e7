/- Texts of the proofs of this seat, packed into one (Lg Cn Co Cp Lh Cq Li Rl Lj Lk Cr Ll). No statement of the seat is proved here. -/
import Derived.Lib.LaidTab
import Derived.Test.YtkahmepenjhcpaaDoorKc
/- Contracts: options of segments written. No statement of the seat is proved here. -/
namespace Go.Proofs.YtkahmepenjhcpaaDoor.W
open Go
set_option linter.unusedSimpArgs false
set_option linter.unusedVariables false
theorem c133a (k : Int) (n : Nat) (w : World) : CallsD Tryd.prog 133 #[.int .i64 k, .int .i64 ((n : Int) + 2)] w (.bool (refLen k (2 + (n : Int)))) := by
 have h3 := c133 k ((n : Int) + 2) w
 rw [show ((n : Int) + 2) = 2 + (n : Int) from by omega] at h3
 rw [show ((n : Int) + 2) = 2 + (n : Int) from by omega]
 exact h3
theorem putE_ok {l : List Opt} (h : putE l = 0) : putOk l = true := by
  unfold putE at h; split at h
  · assumption
  · omega
set_option maxHeartbeats 1000000 in
theorem c73 (v : Value) (os : List Opt) (w : World) (hO : OS [] w v os) (hl : os.length ≤ 1099511627776) (hdl : ∀ o ∈ os, o.data.length ≤ 1099511627776) (hg3 : GV [] w 3 183 (lenT.map u64)) :
    CallsV Tryd.prog 73 #[v] w (fun r w' => ∃ u, r = .tuple #[u, .int .i64 (tputE os)] ∧ FB w w' u (tputL os)) := by
  refine enter Tryd.func73 rfl Tryd.ntmps73 (l := [(0, [], _)]) rfl rfl ?_
  have S := St.refl [] w
  obtain ⟨ds, hOS, hOB⟩ := hO
  refine Run.seq ?_
  refine Run.region ?_
  refine asg1 rfl rfl ?_
  refine asg1 rfl rfl ?_
  refine Ro.nil ?_
  refine Nrm.code ?_
  refine Run.seq ?_
  refine Run.region ?_
  refine asg1 rfl rfl ?_
  have S := S.nilB
  refine Ro.nil ?_
  refine Nrm.code ?_
  refine Run.seq ?_
  refine Run.seq ?_
  refine Run.region ?_
  refine mv1 rfl rfl ?_
  refine lenS rfl hOS Tryd.underlying25 rfl rfl rfl ?_
  refine mv1 rfl rfl ?_
  refine Ro.nil ?_
  refine Nrm.code ?_
  refine Run.block ?_
  refine Run.loop3 (fun (i : Nat) (u : Value) (out : List Int) w_ => i ≤ os.length ∧ (os.take i).all okO = true ∧ (os.take i).all refO = true ∧ (optsB (os.take i)).length ≤ 40 ∧ out = optsB (os.take i) ∧ St [] w [oB u out] w_) (fun (i : Nat) (u : Value) (out : List Int) => [(4, [], u), (8, [], v), (9, [], .int .i64 os.length), (10, [], .int .i64 i)]) (fun (i : Nat) (u : Value) (out : List Int) => os.length - i) (0) (_) ([]) ⟨Nat.zero_le _, rfl, rfl, by simp [optsB], rfl, S⟩ ⟨rfl, rfl, rfl, rfl, trivial⟩ ?_
  rintro i u out w1 ⟨hi, hall, hallR, hlen, hout, S⟩
  have hlo0 : out.length = (optsB (os.take i)).length := by rw [hout]
  refine Run.seq ?_
  refine Run.region ?_
  refine lss1 rfl rfl rfl ?_
  refine Ro.nil ?_
  refine Nrm.code ?_
  refine Run.seq ?_
  refine Run.cond rfl (fun hc3 => ?_) (fun hc3 => ?_)
  ·
    try simp only [Bool.or_eq_true, Bool.and_eq_true, Bool.or_eq_false_iff, Bool.and_eq_false_iff, decide_eq_true_eq, decide_eq_false_iff_not, Bool.not_eq_true', Bool.not_eq_false', Bool.not_eq_true, Bool.not_eq_false] at hc3
    refine Run.skip ?_
    refine Nrm.code ?_
    refine Run.seq ?_
    refine Run.block ?_
    refine Run.seq ?_
    refine Run.region ?_
    obtain ⟨p, hp, hpb⟩ := hOB.at (i := i) (by omega)
    have hge : (os[i]?.getD o0).data.length = (os.getD i o0).data.length := by rw [List.getD_eq_getElem?_getD]
    have hgk : (os[i]?.getD o0).kind = (os.getD i o0).kind := by rw [List.getD_eq_getElem?_getD]
    have hdi := hdl _ (getD_mem' (d := o0) (show i < os.length by omega))
    refine ixa rfl rfl hOS e25 rfl rfl rfl rfl (fun _ => by first | omega | (simp only [List.length_cons, List.length_nil]; omega)) ?_
    refine ldEA rfl hOS S T93 rfl rfl rfl (by decide) rfl (fun _ => hOB.two (by omega) hp) ?_
    refine alc T93 S rfl ?_
    intro b6 w2 hb6 S B_
    refine stW rfl rfl T93 rfl rfl (one_cons rfl (one_cons hpb.one one_nil)) S (i := 0) rfl rfl ?_
    intro w3 S
    refine Ro.nil ?_
    refine Nrm.code ?_
    refine Run.seq ?_
    refine Run.region ?_
    refine fld (o' := 1) rfl fo93_1 rfl rfl rfl rfl ?_
    refine ld1 rfl T26 S (i := 0) rfl rfl rfl rfl rfl ?_
    refine lenS rfl hpb.2 Tryd.underlying26 rfl rfl rfl ?_
    refine add1 rfl rfl rfl (w64 (by omega)) ?_
    refine asg1 rfl rfl ?_
    refine Ro.nil ?_
    refine Nrm.code ?_
    refine Run.seq ?_
    refine Run.seq ?_
    refine Run.region ?_
    refine fld (o' := 0) rfl fo93_0 rfl rfl rfl rfl ?_
    refine ld1 rfl T3 S (i := 0) rfl rfl rfl rfl rfl ?_
    refine lss1 rfl rfl rfl ?_
    refine mv1 rfl rfl ?_
    refine fld (o' := 0) rfl fo93_0 rfl rfl rfl rfl ?_
    refine ld1 rfl T3 S (i := 0) rfl rfl rfl rfl rfl ?_
    refine gtr rfl rfl rfl rfl rfl rfl ?_
    refine pkO rfl rfl rfl rfl rfl rfl ?_
    refine mv1 rfl rfl ?_
    refine mv rfl rfl rfl rfl ?_
    refine gtr rfl rfl rfl rfl rfl rfl ?_
    refine pkO rfl rfl rfl rfl rfl rfl ?_
    refine mv1 rfl rfl ?_
    refine fld (o' := 0) rfl fo93_0 rfl rfl rfl rfl ?_
    refine ld1 rfl T3 S (i := 0) rfl rfl rfl rfl rfl ?_
    refine mv rfl rfl rfl rfl ?_
    refine calg (vs := [_, _]) rfl ⟨⟨_, _, rfl, rfl⟩, ⟨_, _, rfl, rfl⟩, trivial⟩ k127 rfl (fun hG => by have h127 := c127 (os.getD i o0).kind (2 + ((os.getD i o0).data.length : Int)) _ (by (simp [allT] at hG); omega) (by (simp [allT] at hG); omega) (hg3.now S); rw [right_len (by (simp [allT] at hG); omega) (by omega)] at h127; exact h127) ?_
    intro w4 B_; have S := S.call B_
    refine nt rfl rfl rfl rfl ?_
    refine pkO rfl rfl rfl rfl rfl rfl ?_
    refine mv1 rfl rfl ?_
    refine mv rfl rfl rfl rfl ?_
    refine lenS rfl (S.slI (i := 1) rfl) Tryd.underlying26 rfl rfl rfl ?_
    refine mv rfl rfl rfl rfl ?_
    refine add rfl rfl rfl rfl rfl rfl (fun hG => by first | exact w64 (by omega) | (simp [allT] at hG; exact w64 (by omega))) ?_
    refine gtr rfl rfl rfl rfl rfl rfl ?_
    refine pkO rfl rfl rfl rfl rfl rfl ?_
    refine Ro.nil ?_
    refine Nrm.code ?_
    refine Run.cond rfl (fun hc6 => ?_) (fun hc6 => ?_)
    ·
      try simp only [Bool.or_eq_true, Bool.and_eq_true, Bool.or_eq_false_iff, Bool.and_eq_false_iff, decide_eq_true_eq, decide_eq_false_iff_not, Bool.not_eq_true', Bool.not_eq_false', Bool.not_eq_true, Bool.not_eq_false] at hc6
      have hno : tputOk os = false := by
        by_cases hr : refO (os.getD i o0) = true
        · refine tput_noP (putOk_no (i := i) (by omega) ?_)
          have hr2 : ¬ refLen (os.getD i o0).kind (2 + ((os.getD i o0).data.length : Int)) = false := by unfold refO at hr; rw [hr]; simp
          by_cases hk : okO (os.getD i o0) = true
          · right; rw [okO_iff] at hk; rw [← hout]; rcases hc6 with ((h | h) | h)
            · omega
            · exact absurd h hr2
            · omega
          · left; simpa using hk
        · exact tput_noR (i := i) (by omega) (by simpa using hr)
      refine Run.seq ?_
      refine Run.region ?_
      refine asg1 rfl rfl ?_
      refine asg1 rfl rfl ?_
      refine Ro.nil ?_
      refine Nrm.code ?_
      refine Run.ret ?_
      refine Rt.two rfl rfl rfl ?_
      exact ⟨.slice none 0 0, by simp [tputE, hno], by simpa [tputL, hno] using (S.nilB).toFB (i := 0) rfl⟩
    ·
      try simp only [Bool.or_eq_true, Bool.and_eq_true, Bool.or_eq_false_iff, Bool.and_eq_false_iff, decide_eq_true_eq, decide_eq_false_iff_not, Bool.not_eq_true', Bool.not_eq_false', Bool.not_eq_true, Bool.not_eq_false] at hc6
      have hrO : refO (os.getD i o0) = true := by
        unfold refO
        have h2 := hc6.1.2
        simpa using h2
      replace hc6 := And.intro hc6.1.1 hc6.2
      refine Run.skip ?_
      refine Nrm.code ?_
      refine Run.seq ?_
      refine Run.region ?_
      refine mv1 rfl rfl ?_
      refine fld (o' := 0) rfl fo93_0 rfl rfl rfl rfl ?_
      refine ld1 rfl T3 S (i := 0) rfl rfl rfl rfl rfl ?_
      refine cvi1 rfl rfl Tryd.underlying3 Tryd.underlying5 (w8of rfl (by omega)) ?_
      refine mv1 rfl rfl ?_
      refine cvi1 rfl rfl Tryd.underlying3 Tryd.underlying5 (w8of rfl (by omega)) ?_
      refine apBF (b := [_, _]) rfl e26 (qs := [(_, _), (_, _)]) ⟨⟨_, _, _, rfl, rfl, rfl, rfl, by first | (simp [Value.cells]; done) | simp [Value.cells, encIP]⟩, ⟨_, _, _, rfl, rfl, rfl, rfl, by first | (simp [Value.cells]; done) | simp [Value.cells, encIP]⟩, trivial⟩ (by decide) rfl rfl S (i := 1) rfl rfl rfl (fun t e => by cases e; rfl) (fun _ => rfl) (by first | omega | (simp only [List.length_nil, List.length_append, List.length_cons]; omega)) ?_
      intro u_ v51 w5 S B_
      refine asg1 rfl rfl ?_
      refine Ro.nil ?_
      refine Nrm.code ?_
      refine Run.region ?_
      refine mv1 rfl rfl ?_
      refine fld (o' := 1) rfl fo93_1 rfl rfl rfl rfl ?_
      refine ld1 rfl T26 S (i := 0) rfl rfl rfl rfl rfl ?_
      refine apB rfl rfl e26 (hpb.now S) S (i := 1) rfl rfl (fun _ => rfl) (by first | omega | (simp only [List.length_nil, List.length_append, List.length_cons]; omega)) ?_
      intro v55 w6 S B_
      refine asg1 rfl rfl ?_
      refine Ro.nil ?_
      refine Nrm.blk ?_
      refine Nrm.code ?_
      refine Run.region ?_
      refine add1 rfl rfl rfl (w64 (by omega)) ?_
      refine mv1 rfl rfl ?_
      refine Ro.nil ?_
      refine Nrm.loop3 (i + 1) (_) (_) ⟨by omega, all_take_succ (by omega) hall (okO_iff.2 (by omega)), all_refO_succ (by omega) hallR hrO, by rw [optsB_take_succ (by omega), List.length_append, optB_len, ← hout]; omega, by rw [optsB_take_succ (by omega), hout]; simp [optB], S.drop0⟩ (by omega) ⟨rfl, rfl, rfl, rfl, trivial⟩
  ·
    try simp only [Bool.or_eq_true, Bool.and_eq_true, Bool.or_eq_false_iff, Bool.and_eq_false_iff, decide_eq_true_eq, decide_eq_false_iff_not, Bool.not_eq_true', Bool.not_eq_false', Bool.not_eq_true, Bool.not_eq_false] at hc3
    refine Run.exit ?_
    refine Lv.code ?_
    refine Lv.back ?_
    refine Lv.hit ?_
    refine Nrm.code ?_
    refine Run.seq ?_
    refine Run.block ?_
    have e : i = os.length := by omega
    rw [e, List.take_length] at hall hallR hlen hout
    refine Run.loop3 (fun (m : Nat) (u : Value) (out : List Int) w_ => m ≤ (4 - (optsB os).length % 4) % 4 ∧ out = optsB os ++ List.replicate m 0 ∧ St [] w [oB u out] w_) (fun (m : Nat) (u : Value) (out : List Int) => [(4, [], u)]) (fun (m : Nat) (u : Value) (out : List Int) => 4 - m) (0) (_) (_) ⟨Nat.zero_le _, by simp [hout], S⟩ ⟨rfl, trivial⟩ ?_
    rintro m u out w2 ⟨hm, ho, S⟩
    have hlo : out.length = (optsB os).length + m := by rw [ho]; simp
    refine Run.seq ?_
    refine Run.seq ?_
    refine Run.region ?_
    refine mv1 rfl rfl ?_
    refine lenS rfl (S.slI (i := 0) rfl) Tryd.underlying26 rfl rfl rfl ?_
    refine rem1 rfl rfl rfl (by decide) (r64 (by omega)) ?_
    refine gtr1 rfl rfl rfl ?_
    refine Ro.nil ?_
    refine Nrm.code ?_
    refine Run.cond rfl (fun hc11 => ?_) (fun hc11 => ?_)
    ·
      try simp only [Bool.or_eq_true, Bool.and_eq_true, Bool.or_eq_false_iff, Bool.and_eq_false_iff, decide_eq_true_eq, decide_eq_false_iff_not, Bool.not_eq_true', Bool.not_eq_false', Bool.not_eq_true, Bool.not_eq_false] at hc11
      refine Run.skip ?_
      refine Nrm.code ?_
      refine Run.block ?_
      refine Run.region ?_
      refine mv1 rfl rfl ?_
      refine apBF (b := [_]) rfl e26 (qs := [(_, _)]) ⟨⟨_, _, _, rfl, rfl, rfl, rfl, by first | (simp [Value.cells]; done) | simp [Value.cells, encIP]⟩, trivial⟩ (by decide) rfl rfl S (i := 0) rfl rfl rfl (fun t e => by cases e; rfl) (fun _ => rfl) (by first | omega | (simp only [List.length_nil, List.length_append, List.length_cons]; omega)) ?_
      intro u_ v63 w3 S B_
      refine asg1 rfl rfl ?_
      refine Ro.nil ?_
      refine Nrm.blk ?_
      refine Nrm.loop3 (m + 1) (_) (_) ⟨by omega, by rw [ho, rep_succ], S⟩ (by omega) ⟨rfl, trivial⟩
    ·
      try simp only [Bool.or_eq_true, Bool.and_eq_true, Bool.or_eq_false_iff, Bool.and_eq_false_iff, decide_eq_true_eq, decide_eq_false_iff_not, Bool.not_eq_true', Bool.not_eq_false', Bool.not_eq_true, Bool.not_eq_false] at hc11
      refine Run.exit ?_
      refine Lv.code ?_
      refine Lv.back ?_
      refine Lv.hit ?_
      refine Nrm.code ?_
      refine Run.seq ?_
      refine Run.region ?_
      refine mv1 rfl rfl ?_
      refine asg1 rfl rfl ?_
      refine asg1 rfl rfl ?_
      refine Ro.nil ?_
      refine Nrm.code ?_
      refine Run.ret ?_
      refine Rt.two rfl rfl rfl ?_
      have hyes : tputOk os = true := by unfold tputOk; rw [hallR, putOk_yes hall hlen]; rfl
      exact ⟨u, by simp [tputE, hyes], by rw [show tputL os = out from by simp only [tputL, hyes]; exact (pad4_of ho hm (by omega)).symm]; exact S.toFB (i := 0) rfl⟩
set_option maxHeartbeats 1000000 in
theorem c82 (v : Value) (os : List Opt) (w : World) (hO : OS [] w v os) (hl : os.length ≤ 1099511627776) (hdl : ∀ o ∈ os, o.data.length ≤ 1099511627776) :
    CallsV Tryd.prog 82 #[v] w (fun r w' => ∃ u, r = .tuple #[u, .int .i64 (tputE os)] ∧ FB w w' u (tputL os)) := by
  refine enter Tryd.func82 rfl Tryd.ntmps82 (l := [(0, [], _)]) rfl rfl ?_
  have S := St.refl [] w
  obtain ⟨ds, hOS, hOB⟩ := id hO
  refine Run.seq ?_
  refine Run.region ?_
  refine asg1 rfl rfl ?_
  refine asg1 rfl rfl ?_
  refine Ro.nil ?_
  refine Nrm.code ?_
  refine Run.seq ?_
  refine Run.seq ?_
  refine Run.region ?_
  refine asg1 rfl rfl ?_
  refine Ro.nil ?_
  refine Nrm.code ?_
  refine Run.block ?_
  refine Run.loop1 (fun (i : Nat) w_ => i ≤ os.length ∧ (os.take i).all refO = true ∧ St [] w [] w_) (fun (i : Nat) => [(0, [], v), (4, [], .int .i64 i)]) (fun (i : Nat) => os.length - i) (0) ⟨Nat.zero_le _, rfl, S⟩ ⟨rfl, rfl, trivial⟩ ?_
  rintro i w1 ⟨hi, hallR, S⟩
  refine Run.seq ?_
  refine Run.seq ?_
  refine Run.region ?_
  refine mv1 rfl rfl ?_
  refine mv1 rfl rfl ?_
  refine lenS rfl hOS Tryd.underlying25 rfl rfl rfl ?_
  refine lss1 rfl rfl rfl ?_
  refine Ro.nil ?_
  refine Nrm.code ?_
  refine Run.cond rfl (fun hc2 => ?_) (fun hc2 => ?_)
  ·
    try simp only [Bool.or_eq_true, Bool.and_eq_true, Bool.or_eq_false_iff, Bool.and_eq_false_iff, decide_eq_true_eq, decide_eq_false_iff_not, Bool.not_eq_true', Bool.not_eq_false', Bool.not_eq_true, Bool.not_eq_false] at hc2
    refine Run.skip ?_
    refine Nrm.code ?_
    refine Run.seq ?_
    refine Run.block ?_
    refine Run.seq ?_
    refine Run.draw (by kernel_rfl) (by kernel_rfl) S ?_
    obtain ⟨p, hp, hpb⟩ := hOB.at (i := i) (by omega)
    have hdi := hdl _ (getD_mem' (d := o0) (show i < os.length by omega))
    refine qmv rfl rfl rfl rfl ?_
    refine qmv rfl rfl rfl rfl ?_
    refine qixa rfl rfl hOS e25 rfl rfl rfl rfl (fun _ => by first | omega | (simp only [List.length_cons, List.length_nil]; omega)) ?_
    refine qflE rfl hOS fo93_0 rfl rfl rfl (fun _ => hOB.lt (by omega)) ?_
    refine qldE rfl hOS (fun _ S => S) T3 rfl rfl rfl (fun _ => hOB.k0 (by omega) hp) ?_
    refine qmv rfl rfl rfl rfl ?_
    refine qmv rfl rfl rfl rfl ?_
    refine qixa rfl rfl hOS e25 rfl rfl rfl rfl (fun _ => by first | omega | (simp only [List.length_cons, List.length_nil]; omega)) ?_
    refine qflE rfl hOS fo93_1 rfl rfl rfl (fun _ => hOB.lt (by omega)) ?_
    refine qldE rfl hOS (fun _ S => S) T26 rfl rfl rfl (fun _ => hOB.k1 (by omega) hp) ?_
    refine qlenS rfl hpb.2 Tryd.underlying26 rfl rfl rfl ?_
    refine qadd rfl rfl rfl rfl rfl rfl (fun _ => w64 (by omega)) ?_
    refine qcal (vs := [_, _]) rfl ⟨⟨_, _, rfl, rfl⟩, ⟨_, _, rfl, rfl⟩, trivial⟩ k133 rfl (fun _ _ S B => S.call B) (fun hG w_ S => c133a _ _ _) ?_
    refine qasg rfl rfl rfl rfl ?_
    refine Qo.nil (fun w2 S => ?_)
    refine Nrm.code ?_
    refine Run.seq ?_
    refine Run.region ?_
    refine mv1 rfl rfl ?_
    refine nt1 rfl rfl ?_
    refine Ro.nil ?_
    refine Nrm.code ?_
    refine Run.cond rfl (fun hc5 => ?_) (fun hc5 => ?_)
    ·
      try simp only [Bool.or_eq_true, Bool.and_eq_true, Bool.or_eq_false_iff, Bool.and_eq_false_iff, decide_eq_true_eq, decide_eq_false_iff_not, Bool.not_eq_true', Bool.not_eq_false', Bool.not_eq_true, Bool.not_eq_false] at hc5
      have hno : tputOk os = false := tput_noR (i := i) (by omega) (by unfold refO; simpa using hc5)
      refine Run.seq ?_
      refine Run.region ?_
      refine asg1 rfl rfl ?_
      refine asg1 rfl rfl ?_
      refine Ro.nil ?_
      refine Nrm.code ?_
      refine Run.ret ?_
      refine Rt.two rfl rfl rfl ?_
      exact ⟨.slice none 0 0, by simp [tputE, hno], by simpa [tputL, hno] using (S.nilB).toFB (i := 0) rfl⟩
    ·
      try simp only [Bool.or_eq_true, Bool.and_eq_true, Bool.or_eq_false_iff, Bool.and_eq_false_iff, decide_eq_true_eq, decide_eq_false_iff_not, Bool.not_eq_true', Bool.not_eq_false', Bool.not_eq_true, Bool.not_eq_false] at hc5
      have hrO : refO (os.getD i o0) = true := by unfold refO; simpa using hc5
      refine Run.skip ?_
      refine Nrm.blk ?_
      refine Nrm.code ?_
      refine Run.region ?_
      refine mv1 rfl rfl ?_
      refine add1 rfl rfl rfl (w64 (by omega)) ?_
      refine asg1 rfl rfl ?_
      refine Ro.nil ?_
      refine Nrm.loop1 (i + 1) ⟨by omega, all_refO_succ (by omega) hallR hrO, S⟩ (by omega) ⟨rfl, rfl, trivial⟩
  ·
    try simp only [Bool.or_eq_true, Bool.and_eq_true, Bool.or_eq_false_iff, Bool.and_eq_false_iff, decide_eq_true_eq, decide_eq_false_iff_not, Bool.not_eq_true', Bool.not_eq_false', Bool.not_eq_true, Bool.not_eq_false] at hc2
    refine Run.exit ?_
    refine Lv.code ?_
    refine Lv.back ?_
    refine Lv.hit ?_
    refine Nrm.code ?_
    refine Run.seq ?_
    refine Run.region ?_
    refine mv1 rfl rfl ?_
    refine call (vs := [_]) ⟨⟨_, _, rfl, rfl⟩, trivial⟩ k136 rfl (c136 _ _ _ (hO.now S) (by omega)) ?_
    rintro _ w2 ⟨u9, rfl, hF⟩
    have S := S.fb hF
    refine mv1 rfl rfl ?_
    refine extr1 rfl rfl rfl ?_
    refine extr1 rfl rfl rfl ?_
    refine asg1 rfl rfl ?_
    refine asg1 rfl rfl ?_
    refine Ro.nil ?_
    refine Nrm.code ?_
    refine Run.seq ?_
    refine Run.seq ?_
    refine Run.region ?_
    refine mv1 rfl rfl ?_
    refine neq1 rfl rfl rfl ?_
    refine Ro.nil ?_
    refine Nrm.code ?_
    refine Run.cond rfl (fun hc8 => ?_) (fun hc8 => ?_)
    ·
      try simp only [Bool.or_eq_true, Bool.and_eq_true, Bool.or_eq_false_iff, Bool.and_eq_false_iff, decide_eq_true_eq, decide_eq_false_iff_not, Bool.not_eq_true', Bool.not_eq_false', Bool.not_eq_true, Bool.not_eq_false] at hc8
      have hno : tputOk os = false := tput_noP (by cases hp : putOk os with
          | false => rfl
          | true => exact absurd (by unfold putE; rw [hp]; rfl) hc8)
      refine Run.seq ?_
      refine Run.region ?_
      refine asg1 rfl rfl ?_
      refine asg1 rfl rfl ?_
      refine Ro.nil ?_
      refine Nrm.code ?_
      refine Run.ret ?_
      refine Rt.two rfl rfl rfl ?_
      exact ⟨.slice none 0 0, by simp [tputE, hno], by simpa [tputL, hno] using (S.nilB).toFB (i := 0) rfl⟩
    ·
      try simp only [Bool.or_eq_true, Bool.and_eq_true, Bool.or_eq_false_iff, Bool.and_eq_false_iff, decide_eq_true_eq, decide_eq_false_iff_not, Bool.not_eq_true', Bool.not_eq_false', Bool.not_eq_true, Bool.not_eq_false] at hc8
      refine Run.skip ?_
      refine Nrm.code ?_
      refine Run.seq ?_
      refine Run.region ?_
      refine mv1 rfl rfl ?_
      refine asg1 rfl rfl ?_
      refine asg1 rfl rfl ?_
      refine Ro.nil ?_
      refine Nrm.code ?_
      refine Run.ret ?_
      refine Rt.two rfl rfl rfl ?_
      have e : i = os.length := by omega
      rw [e, List.take_length] at hallR
      have hyes : tputOk os = true := by unfold tputOk; rw [hallR, putE_ok (by omega)]; rfl
      exact ⟨u9, by simp [tputE, hyes], by rw [tputL_putL hyes]; exact S.toFB (i := 0) rfl⟩
end Go.Proofs.YtkahmepenjhcpaaDoor.W
/- Contracts: a datagram is read. No statement of the seat is proved here. -/
namespace Go.Proofs.YtkahmepenjhcpaaDoor.W
open Go
set_option linter.unusedSimpArgs false
set_option linter.unusedVariables false
def hdN (b : List Int) : Nat := (4 * (b.getD 0 0 % 16)).toNat
def totN (b : List Int) : Nat := (totI b).toNat
def optB4 (b : List Int) : List Int := (b.drop 20).take (hdN b - 20)
def parE (b : List Int) : Int :=
  if 65535 < b.length then 2 else if b.length < 20 then 60 else if b.getD 0 0 / 16 ≠ 4 then 61 else if hdN b < 20 ∨ b.length < hdN b then 62 else if totN b < hdN b ∨ b.length < totN b then 63
  else if sumS (b.take (hdN b)) ≠ 65535 then 64 else if optE (optB4 b) ≠ 0 then optE (optB4 b) else fragE (decide (b.getD 6 0 / 32 % 2 = 1)) (8 * offW b) ((totN b : Int) - hdN b)
def ip0 : IP := ⟨0, fun _ => 0⟩
def h00 : Ip4 := ⟨0, 0, false, false, 0, 0, 0, ip0, ip0, [], []⟩
def parG (b : List Int) : Ip4 := ⟨b.getD 1 0, b.getD 4 0 * 256 + b.getD 5 0, decide (b.getD 6 0 / 64 % 2 = 1), decide (b.getD 6 0 / 32 % 2 = 1), 8 * offW b, b.getD 8 0, b.getD 9 0, ipOf b 12, ipOf b 16, optL (optB4 b), (b.drop (hdN b)).take (totN b - hdN b)⟩
def parH (b : List Int) : Ip4 := if parE b = 0 then parG b else h00
theorem parH_err {b : List Int} {e : Int} (he : parE b = e) (h0 : e ≠ 0) : parH b = h00 := by unfold parH; rw [if_neg (by omega)]
theorem byt_at {b : List Int} (h : byt b) : ∀ k, 0 ≤ b.getD k 0 ∧ b.getD k 0 < 256 := byt_getD h
theorem getD_cut {b : List Int} {i m k : Nat} (hk : k < m) : ((b.drop i).take m).getD k 0 = b.getD (i + k) 0 := by
  rw [List.getD_eq_getElem?_getD, List.getElem?_take_of_lt hk, List.getElem?_drop, List.getD_eq_getElem?_getD]
theorem ipOf_cut (b : List Int) (i : Nat) : ipOf ((b.drop i).take (i + 4 - i)) 0 = ipOf b i := by
  have e : i + 4 - i = 4 := by omega
  unfold ipOf
  rw [e, getD_cut (by omega), getD_cut (by omega), getD_cut (by omega), getD_cut (by omega)]
  rfl
theorem c103at (v : Value) (l b : List Int) (k : Nat) (w : World) (hl : BS [] w v l) (h4 : l.length = 4) (e : ipOf l 0 = ipOf b k) : CallsD Tryd.prog 103 #[v] w (.agg (encIP (ipOf b k)).toArray) := e ▸ c103 v l w hl h4
theorem optE_le (b : List Int) : optE b = 0 ∨ optE b = 65 := by unfold optE; split <;> (try split) <;> simp
set_option maxHeartbeats 1000000 in
theorem c33 (v : Value) (b : List Int) (w : World) (hb : BS [] w v b) (hg : GV [] w 0 130 (W4.map i64)) :
  CallsV Tryd.prog 33 #[v] w (fun r w' => ∃ o d vs, r = .tuple #[.agg (encIp4 (parH b) o d).toArray, .int .i64 (parE b)] ∧ FO w w' o (parH b).opts vs ∧ ∀ N w1, BS N w1 v b → OSs N w1 vs (parH b).opts ∧ BS N w1 d (parH b).data) := by
 refine enter Tryd.func33 rfl Tryd.ntmps33 (l := [(0, [], _)]) rfl rfl ?_
 have S := St.refl [] w
 have hB := byt_at hb.1
 have hfl := fields_ip4 hB
 have g0 := hB 0
 have g2 := hB 2
 have g3 := hB 3
 have g6 := hB 6
 have g7 := hB 7
 have hH : 4 * (b.getD 0 0 % 16) = (hdN b : Int) := by unfold hdN; omega
 have hT : totI b = (totN b : Int) := by unfold totN totI; omega
 have hTb : totN b < 65536 := by unfold totN totI; omega
 have hHb : hdN b ≤ 60 := by omega
 rw [hT] at hfl
 have hwb : 0 ≤ offW b ∧ offW b < 8192 := by unfold offW; omega
 have hoe := optE_le (optB4 b)
 have ho4 : optE (optB4 b) = optE ((b.drop 20).take (hdN b - 20)) := rfl
 refine Run.seq ?_
 refine Run.region ?_
 refine alc T28 S rfl ?_
 intro b2 w1 hb2 S B_
 refine asg1 rfl rfl ?_
 refine Ro.nil ?_
 refine Nrm.code ?_
 refine Run.seq ?_
 refine Run.block ?_
 refine Run.seq ?_
 refine Run.region ?_
 refine mv1 rfl rfl ?_
 refine lenS rfl hb.2 Tryd.underlying26 rfl rfl rfl ?_
 refine gtr1 rfl rfl rfl ?_
 refine asg1 rfl rfl ?_
 refine Ro.nil ?_
 refine Nrm.code ?_
 refine Run.cond rfl (fun hc1 => ?_) (fun hc1 => ?_)
 ·
  try simp only [Bool.or_eq_true, Bool.and_eq_true, Bool.or_eq_false_iff, Bool.and_eq_false_iff, decide_eq_true_eq, decide_eq_false_iff_not, Bool.not_eq_true', Bool.not_eq_false', Bool.not_eq_true, Bool.not_eq_false] at hc1
  refine Run.seq ?_
  refine Run.region ?_
  refine bld B28 (qs := []) trivial rfl rfl rfl ?_
  refine stW rfl rfl T28 rfl rfl (by simp [Value.oneCell']) S (i := 0) rfl rfl ?_
  intro w2 S
  refine asg1 rfl rfl ?_
  refine Ro.nil ?_
  refine Nrm.code ?_
  refine Run.ret ?_
  refine Rt.cell2 rfl rfl rfl T28 S (i := 0) rfl rfl ?_
  have he : parE b = 2 := by
   unfold parE
   rw [if_pos (by omega)]
  exact ⟨.slice none 0 0, .slice none 0 0, [], by rw [parH_err he (by omega), he]; rfl, by rw [parH_err he (by omega)]; exact (S.nilO).toFO (i := 0) rfl, fun _ _ _ => by rw [parH_err he (by omega)]; exact ⟨trivial, BS.nil _ _⟩⟩
 ·
  try simp only [Bool.or_eq_true, Bool.and_eq_true, Bool.or_eq_false_iff, Bool.and_eq_false_iff, decide_eq_true_eq, decide_eq_false_iff_not, Bool.not_eq_true', Bool.not_eq_false', Bool.not_eq_true, Bool.not_eq_false] at hc1
  refine Run.seq ?_
  refine Run.region ?_
  refine mv1 rfl rfl ?_
  refine lenS rfl hb.2 Tryd.underlying26 rfl rfl rfl ?_
  refine lss1 rfl rfl rfl ?_
  refine asg1 rfl rfl ?_
  refine Ro.nil ?_
  refine Nrm.code ?_
  refine Run.cond rfl (fun hc3 => ?_) (fun hc3 => ?_)
  ·
   try simp only [Bool.or_eq_true, Bool.and_eq_true, Bool.or_eq_false_iff, Bool.and_eq_false_iff, decide_eq_true_eq, decide_eq_false_iff_not, Bool.not_eq_true', Bool.not_eq_false', Bool.not_eq_true, Bool.not_eq_false] at hc3
   refine Run.seq ?_
   refine Run.region ?_
   refine bld B28 (qs := []) trivial rfl rfl rfl ?_
   refine stW rfl rfl T28 rfl rfl (by simp [Value.oneCell']) S (i := 0) rfl rfl ?_
   intro w2 S
   refine asg1 rfl rfl ?_
   refine Ro.nil ?_
   refine Nrm.code ?_
   refine Run.ret ?_
   refine Rt.cell2 rfl rfl rfl T28 S (i := 0) rfl rfl ?_
   have he : parE b = 60 := by
    unfold parE
    rw [if_neg (by omega), if_pos (by omega)]
   exact ⟨.slice none 0 0, .slice none 0 0, [], by rw [parH_err he (by omega), he]; rfl, by rw [parH_err he (by omega)]; exact (S.nilO).toFO (i := 0) rfl, fun _ _ _ => by rw [parH_err he (by omega)]; exact ⟨trivial, BS.nil _ _⟩⟩
  ·
   try simp only [Bool.or_eq_true, Bool.and_eq_true, Bool.or_eq_false_iff, Bool.and_eq_false_iff, decide_eq_true_eq, decide_eq_false_iff_not, Bool.not_eq_true', Bool.not_eq_false', Bool.not_eq_true, Bool.not_eq_false] at hc3
   refine Run.skip ?_
   refine Nrm.blk ?_
   refine Nrm.code ?_
   refine Run.seq ?_
   refine Run.region ?_
   refine ldG hg S T130 rfl rfl ?_
   refine alc T130 S rfl ?_
   intro b4 w2 hb4 S B_
   refine stW rfl rfl T130 rfl rfl (by simp [Value.oneCell']) S (i := 0) rfl rfl ?_
   intro w3 S
   refine Ro.nil ?_
   refine Nrm.code ?_
   refine Run.seq ?_
   refine Run.region ?_
   refine mv1 rfl rfl ?_
   refine slAT rfl Tryd.underlying130 T3 rfl rfl rfl (i2 := none) trivial rfl (by decide) (by decide) ?_
   refine call (vs := [_, _, _]) ⟨⟨_, _, rfl, rfl⟩, ⟨_, _, rfl, rfl⟩, ⟨_, _, rfl, rfl⟩, trivial⟩ k101 rfl (c101 _ _ _ W4 _ (hb.now S) (S.varSl (i := 0) (m := 12) (sz := 1) rfl rfl rfl (by decide)) (by decide) (by decide) (by decide) (by rw [show W4.sum / 8 = 12 from by decide]; omega) (by omega)) ?_
   rintro _ w4 ⟨u5, rfl, hF⟩
   rw [hfl] at hF
   have S := S.fi hF
   refine mv1 rfl rfl ?_
   refine extr1 rfl rfl rfl ?_
   refine extr1 rfl rfl rfl ?_
   refine extr1 rfl rfl rfl ?_
   refine asg1 rfl rfl ?_
   refine asg1 rfl rfl ?_
   refine asg1 rfl rfl ?_
   refine Ro.nil ?_
   refine Nrm.code ?_
   refine Run.seq ?_
   refine Run.draw (by kernel_rfl) (by kernel_rfl) S ?_
   refine qmv rfl rfl rfl rfl ?_
   refine qixa rfl rfl (S.slI (i := 0) rfl) e132 rfl rfl rfl rfl (fun _ => by first | omega | (simp only [List.length_cons, List.length_nil]; omega)) ?_
   refine qldR rfl (fun _ S => S) (i := 0) rfl T3 rfl rfl rfl (fun _ => rfl) ?_
   refine qmul rfl rfl rfl rfl rfl rfl (fun _ => (show IntKind.i64.wrap (4 * (b.getD 0 0 % 16)) = (hdN b : Int) from by rw [w64 (by omega)]; exact hH)) ?_
   refine qmv rfl rfl rfl rfl ?_
   refine qixa rfl rfl (S.slI (i := 0) rfl) e132 rfl rfl rfl rfl (fun _ => by first | omega | (simp only [List.length_cons, List.length_nil]; omega)) ?_
   refine qldR rfl (fun _ S => S) (i := 0) rfl T3 rfl rfl rfl (fun _ => rfl) ?_
   refine qasg rfl rfl rfl rfl ?_
   refine qasg rfl rfl rfl rfl ?_
   refine Qo.nil (fun w5 S => ?_)
   refine Nrm.code ?_
   refine Run.seq ?_
   refine Run.block ?_
   refine Run.seq ?_
   refine Run.region ?_
   refine mv1 rfl rfl ?_
   refine ixa rfl rfl (S.slI (i := 0) rfl) e132 rfl rfl rfl rfl (fun _ => by first | omega | (simp only [List.length_cons, List.length_nil]; omega)) ?_
   refine ldE rfl (S.slI (i := 0) rfl) (St.refl [] _) T3 rfl rfl rfl (fun _ => rfl) ?_
   refine neq1 rfl rfl rfl ?_
   refine asg1 rfl rfl ?_
   refine Ro.nil ?_
   refine Nrm.code ?_
   refine Run.cond rfl (fun hc8 => ?_) (fun hc8 => ?_)
   ·
    try simp only [Bool.or_eq_true, Bool.and_eq_true, Bool.or_eq_false_iff, Bool.and_eq_false_iff, decide_eq_true_eq, decide_eq_false_iff_not, Bool.not_eq_true', Bool.not_eq_false', Bool.not_eq_true, Bool.not_eq_false] at hc8
    refine Run.seq ?_
    refine Run.region ?_
    refine bld B28 (qs := []) trivial rfl rfl rfl ?_
    refine stW rfl rfl T28 rfl rfl (by simp [Value.oneCell']) S (i := 2) rfl rfl ?_
    intro w6 S
    refine asg1 rfl rfl ?_
    refine Ro.nil ?_
    refine Nrm.code ?_
    refine Run.ret ?_
    refine Rt.cell2 rfl rfl rfl T28 S (i := 2) rfl rfl ?_
    have he : parE b = 61 := by
     unfold parE
     rw [if_neg (by omega), if_neg (by omega), if_pos (by omega)]
    exact ⟨.slice none 0 0, .slice none 0 0, [], by rw [parH_err he (by omega), he]; rfl, by rw [parH_err he (by omega)]; exact (S.nilO).toFO (i := 0) rfl, fun _ _ _ => by rw [parH_err he (by omega)]; exact ⟨trivial, BS.nil _ _⟩⟩
   ·
    try simp only [Bool.or_eq_true, Bool.and_eq_true, Bool.or_eq_false_iff, Bool.and_eq_false_iff, decide_eq_true_eq, decide_eq_false_iff_not, Bool.not_eq_true', Bool.not_eq_false', Bool.not_eq_true, Bool.not_eq_false] at hc8
    refine Run.seq ?_
    refine Run.region ?_
    refine mv1 rfl rfl ?_
    refine lss1 rfl rfl rfl ?_
    refine mv1 rfl rfl ?_
    refine mv rfl rfl rfl rfl ?_
    refine mv rfl rfl rfl rfl ?_
    refine lenS rfl hb.2 Tryd.underlying26 rfl rfl rfl ?_
    refine gtr rfl rfl rfl rfl rfl rfl ?_
    refine pkO rfl rfl rfl rfl rfl rfl ?_
    refine asg1 rfl rfl ?_
    refine Ro.nil ?_
    refine Nrm.code ?_
    refine Run.cond rfl (fun hc10 => ?_) (fun hc10 => ?_)
    ·
     try simp only [Bool.or_eq_true, Bool.and_eq_true, Bool.or_eq_false_iff, Bool.and_eq_false_iff, decide_eq_true_eq, decide_eq_false_iff_not, Bool.not_eq_true', Bool.not_eq_false', Bool.not_eq_true, Bool.not_eq_false] at hc10
     refine Run.seq ?_
     refine Run.region ?_
     refine bld B28 (qs := []) trivial rfl rfl rfl ?_
     refine stW rfl rfl T28 rfl rfl (by simp [Value.oneCell']) S (i := 2) rfl rfl ?_
     intro w6 S
     refine asg1 rfl rfl ?_
     refine Ro.nil ?_
     refine Nrm.code ?_
     refine Run.ret ?_
     refine Rt.cell2 rfl rfl rfl T28 S (i := 2) rfl rfl ?_
     have he : parE b = 62 := by
      unfold parE
      rw [if_neg (by omega), if_neg (by omega), if_neg (by omega), if_pos (by omega)]
     exact ⟨.slice none 0 0, .slice none 0 0, [], by rw [parH_err he (by omega), he]; rfl, by rw [parH_err he (by omega)]; exact (S.nilO).toFO (i := 0) rfl, fun _ _ _ => by rw [parH_err he (by omega)]; exact ⟨trivial, BS.nil _ _⟩⟩
    ·
     try simp only [Bool.or_eq_true, Bool.and_eq_true, Bool.or_eq_false_iff, Bool.and_eq_false_iff, decide_eq_true_eq, decide_eq_false_iff_not, Bool.not_eq_true', Bool.not_eq_false', Bool.not_eq_true, Bool.not_eq_false] at hc10
     refine Run.seq ?_
     refine Run.region ?_
     refine mv1 rfl rfl ?_
     refine mv1 rfl rfl ?_
     refine lss1 rfl rfl rfl ?_
     refine mv1 rfl rfl ?_
     refine mv rfl rfl rfl rfl ?_
     refine mv rfl rfl rfl rfl ?_
     refine lenS rfl hb.2 Tryd.underlying26 rfl rfl rfl ?_
     refine gtr rfl rfl rfl rfl rfl rfl ?_
     refine pkO rfl rfl rfl rfl rfl rfl ?_
     refine asg1 rfl rfl ?_
     refine Ro.nil ?_
     refine Nrm.code ?_
     refine Run.cond rfl (fun hc12 => ?_) (fun hc12 => ?_)
     ·
      try simp only [Bool.or_eq_true, Bool.and_eq_true, Bool.or_eq_false_iff, Bool.and_eq_false_iff, decide_eq_true_eq, decide_eq_false_iff_not, Bool.not_eq_true', Bool.not_eq_false', Bool.not_eq_true, Bool.not_eq_false] at hc12
      refine Run.seq ?_
      refine Run.region ?_
      refine bld B28 (qs := []) trivial rfl rfl rfl ?_
      refine stW rfl rfl T28 rfl rfl (by simp [Value.oneCell']) S (i := 2) rfl rfl ?_
      intro w6 S
      refine asg1 rfl rfl ?_
      refine Ro.nil ?_
      refine Nrm.code ?_
      refine Run.ret ?_
      refine Rt.cell2 rfl rfl rfl T28 S (i := 2) rfl rfl ?_
      have he : parE b = 63 := by
       unfold parE
       rw [if_neg (by omega), if_neg (by omega), if_neg (by omega), if_neg (by omega), if_pos (by omega)]
      exact ⟨.slice none 0 0, .slice none 0 0, [], by rw [parH_err he (by omega), he]; rfl, by rw [parH_err he (by omega)]; exact (S.nilO).toFO (i := 0) rfl, fun _ _ _ => by rw [parH_err he (by omega)]; exact ⟨trivial, BS.nil _ _⟩⟩
     ·
      try simp only [Bool.or_eq_true, Bool.and_eq_true, Bool.or_eq_false_iff, Bool.and_eq_false_iff, decide_eq_true_eq, decide_eq_false_iff_not, Bool.not_eq_true', Bool.not_eq_false', Bool.not_eq_true, Bool.not_eq_false] at hc12
      refine Run.seq ?_
      refine Run.region ?_
      refine mv1 rfl rfl ?_
      refine mv1 rfl rfl ?_
      refine slC (lo := 0) (hi := hdN b) (mx := capV v) rfl hb e26 rfl rfl rfl (i1 := none) (i2 := some (hdN b)) (i3 := none) trivial ⟨_, _, _, rfl, rfl⟩ trivial rfl rfl rfl (fun h => by first | rfl | cases h) (fun hG => by (try simp [allT] at hG); have hcap := hb.cap; omega) ?_
      have hv68 := hb.cut (lo := 0) (hi := hdN b) (mx := capV v) (by have hcap := hb.cap; omega)
      refine bsl e102 (qs := [(_, _)]) ⟨⟨_, _, _, rfl, rfl, cells1 hv68.one, rfl, List.cons_ne_nil _ _⟩, trivial⟩ rfl rfl rfl rfl S ?_
      intro u69 w6 S B_
      have hgd : CallsD Tryd.prog 36 #[u69] w6 (.bool (decide (sumS (b.take (hdN b)) = 65535))) := by
       have := c36 u69 [b.take (hdN b)] w6 ⟨[_], S.slI (i := 0) rfl, hv68.now S, trivial⟩ (by rw [flat1, List.length_take]; omega) (by simp)
       rw [flat1] at this
       exact this
      refine calg (vs := [_]) rfl ⟨⟨_, _, rfl, rfl⟩, trivial⟩ k36 rfl (fun hG => hgd) ?_
      intro w7 B_; have S := S.call B_
      refine nt1 rfl rfl ?_
      refine asg1 rfl rfl ?_
      refine Ro.nil ?_
      refine Nrm.code ?_
      refine Run.cond rfl (fun hc14 => ?_) (fun hc14 => ?_)
      ·
       try simp only [Bool.or_eq_true, Bool.and_eq_true, Bool.or_eq_false_iff, Bool.and_eq_false_iff, decide_eq_true_eq, decide_eq_false_iff_not, Bool.not_eq_true', Bool.not_eq_false', Bool.not_eq_true, Bool.not_eq_false] at hc14
       refine Run.seq ?_
       refine Run.region ?_
       refine bld B28 (qs := []) trivial rfl rfl rfl ?_
       refine stW rfl rfl T28 rfl rfl (by simp [Value.oneCell']) S (i := 3) rfl rfl ?_
       intro w8 S
       refine asg1 rfl rfl ?_
       refine Ro.nil ?_
       refine Nrm.code ?_
       refine Run.ret ?_
       refine Rt.cell2 rfl rfl rfl T28 S (i := 3) rfl rfl ?_
       have he : parE b = 64 := by
        unfold parE
        rw [if_neg (by omega), if_neg (by omega), if_neg (by omega), if_neg (by omega), if_neg (by omega), if_pos hc14]
       exact ⟨.slice none 0 0, .slice none 0 0, [], by rw [parH_err he (by omega), he]; rfl, by rw [parH_err he (by omega)]; exact (S.nilO).toFO (i := 0) rfl, fun _ _ _ => by rw [parH_err he (by omega)]; exact ⟨trivial, BS.nil _ _⟩⟩
      ·
       try simp only [Bool.or_eq_true, Bool.and_eq_true, Bool.or_eq_false_iff, Bool.and_eq_false_iff, decide_eq_true_eq, decide_eq_false_iff_not, Bool.not_eq_true', Bool.not_eq_false', Bool.not_eq_true, Bool.not_eq_false] at hc14
       refine Run.skip ?_
       refine Nrm.blk ?_
       refine Nrm.code ?_
       refine Run.seq ?_
       refine Run.region ?_
       refine mv1 rfl rfl ?_
       refine mv1 rfl rfl ?_
       refine mv1 rfl rfl ?_
       refine slC (lo := 20) (hi := hdN b) (mx := hdN b) rfl hb e26 rfl rfl rfl (i1 := some 20) (i2 := some (hdN b)) (i3 := some (hdN b)) ⟨_, _, _, rfl, rfl⟩ ⟨_, _, _, rfl, rfl⟩ ⟨_, _, _, rfl, rfl⟩ rfl rfl rfl (fun h => by first | rfl | cases h) (fun hG => by (try simp [allT] at hG); have hcap := hb.cap; omega) ?_
       have hv77 := hb.cut (lo := 20) (hi := hdN b) (mx := hdN b) (by have hcap := hb.cap; omega)
       refine call (vs := [_]) ⟨⟨_, _, rfl, rfl⟩, trivial⟩ k44 rfl (c44 _ _ _ (hv77.now S)) ?_
       rintro _ w8 ⟨u10, vs, rfl, hF, hwin⟩
       have S := S.fo hF
       refine mv1 rfl rfl ?_
       refine extr1 rfl rfl rfl ?_
       refine extr1 rfl rfl rfl ?_
       refine asg1 rfl rfl ?_
       refine asg1 rfl rfl ?_
       refine Ro.nil ?_
       refine Nrm.code ?_
       refine Run.seq ?_
       refine Run.seq ?_
       refine Run.region ?_
       refine mv1 rfl rfl ?_
       refine eql1 rfl rfl rfl ?_
       refine Ro.nil ?_
       refine Nrm.code ?_
       refine Run.cond rfl (fun hc17 => ?_) (fun hc17 => ?_)
       ·
        try simp only [Bool.or_eq_true, Bool.and_eq_true, Bool.or_eq_false_iff, Bool.and_eq_false_iff, decide_eq_true_eq, decide_eq_false_iff_not, Bool.not_eq_true', Bool.not_eq_false', Bool.not_eq_true, Bool.not_eq_false] at hc17
        refine Run.draw (by kernel_rfl) (by kernel_rfl) S ?_
        refine qmv rfl rfl rfl rfl ?_
        refine qixa rfl rfl (S.slI (i := 2) rfl) e132 rfl rfl rfl rfl (fun _ => by first | omega | (simp only [List.length_cons, List.length_nil]; omega)) ?_
        refine qldR rfl (fun _ S => S) (i := 2) rfl T3 rfl rfl rfl (fun _ => rfl) ?_
        refine qcal (vs := [_]) rfl ⟨⟨_, _, rfl, rfl⟩, trivial⟩ k102 rfl (fun _ _ S B => S.call B) (fun hG w_ S => c102 _ _) ?_
        refine qmv rfl rfl rfl rfl ?_
        refine qixa rfl rfl (S.slI (i := 2) rfl) e132 rfl rfl rfl rfl (fun _ => by first | omega | (simp only [List.length_cons, List.length_nil]; omega)) ?_
        refine qldR rfl (fun _ S => S) (i := 2) rfl T3 rfl rfl rfl (fun _ => rfl) ?_
        refine qmul rfl rfl rfl rfl rfl rfl (fun _ => w64 (by omega)) ?_
        refine qmv rfl rfl rfl rfl ?_
        refine qmv rfl rfl rfl rfl ?_
        refine qsub rfl rfl rfl rfl rfl rfl (fun _ => w64 (by omega)) ?_
        refine qcal (vs := [_, _, _]) rfl ⟨⟨_, _, rfl, rfl⟩, ⟨_, _, rfl, rfl⟩, ⟨_, _, rfl, rfl⟩, trivial⟩ k100 rfl (fun _ _ S B => S.call B) (fun hG w_ S => c100 _ _ _ _ (by omega)) ?_
        refine qasg rfl rfl rfl rfl ?_
        refine Qo.nil (fun w9 S => ?_)
        refine Nrm.code ?_
        refine Run.seq ?_
        refine Run.seq ?_
        refine Run.region ?_
        refine mv1 rfl rfl ?_
        refine neq1 rfl rfl rfl ?_
        refine Ro.nil ?_
        refine Nrm.code ?_
        refine Run.cond rfl (fun hc19 => ?_) (fun hc19 => ?_)
        ·
         try simp only [Bool.or_eq_true, Bool.and_eq_true, Bool.or_eq_false_iff, Bool.and_eq_false_iff, decide_eq_true_eq, decide_eq_false_iff_not, Bool.not_eq_true', Bool.not_eq_false', Bool.not_eq_true, Bool.not_eq_false] at hc19
         refine Run.seq ?_
         refine Run.region ?_
         refine bld B28 (qs := []) trivial rfl rfl rfl ?_
         refine mv1 rfl rfl ?_
         refine stW rfl rfl T28 rfl rfl (by simp [Value.oneCell']) S (i := 4) rfl rfl ?_
         intro w10 S
         refine asg1 rfl rfl ?_
         refine Ro.nil ?_
         refine Nrm.code ?_
         refine Run.ret ?_
         refine Rt.cell2 rfl rfl rfl T28 S (i := 4) rfl rfl ?_
         have hfr := fragE_or (decide (b.getD 6 0 / 32 % 2 = 1)) (8 * offW b) ((totN b : Int) - hdN b)
         have he : parE b = fragE (decide (b.getD 6 0 / 32 % 2 = 1)) (8 * offW b) ((totN b : Int) - hdN b) := by
          unfold parE
          rw [if_neg (by omega), if_neg (by omega), if_neg (by omega), if_neg (by omega), if_neg (by omega), if_neg (by omega), if_neg (by omega)]
         exact ⟨.slice none 0 0, .slice none 0 0, [], by rw [parH_err he (by omega), he]; rfl, by rw [parH_err he (by omega)]; exact (S.nilO).toFO (i := 0) rfl, fun _ _ _ => by rw [parH_err he (by omega)]; exact ⟨trivial, BS.nil _ _⟩⟩
        ·
         try simp only [Bool.or_eq_true, Bool.and_eq_true, Bool.or_eq_false_iff, Bool.and_eq_false_iff, decide_eq_true_eq, decide_eq_false_iff_not, Bool.not_eq_true', Bool.not_eq_false', Bool.not_eq_true, Bool.not_eq_false] at hc19
         refine Run.skip ?_
         refine Nrm.code ?_
         refine Run.seq ?_
         refine Run.held (by kernel_rfl) S [true, true, true, true, true] rfl rfl rfl ?_
         intro w10 BD S SC
         refine Ho.take (i := 0) SC Pp.body rfl (by kernel_rfl) (by kernel_rfl) (by kernel_rfl) rfl rfl ?_
         refine qmv rfl rfl rfl rfl ?_
         refine Ho.back ?_
         refine Ho.take (i := 1) SC Pp.body rfl (by kernel_rfl) (by kernel_rfl) (by kernel_rfl) rfl rfl ?_
         refine qixa rfl rfl (S.slI (i := 2) rfl) e132 rfl rfl rfl rfl (fun _ => by first | omega | (simp only [List.length_cons, List.length_nil]; omega)) ?_
         refine Ho.back ?_
         refine Ho.take (i := 2) SC Pp.body rfl (by kernel_rfl) (by kernel_rfl) (by kernel_rfl) rfl rfl ?_
         refine qldR rfl (fun _ S => S) (i := 2) rfl T3 rfl rfl rfl (fun _ => rfl) ?_
         refine Ho.back ?_
         refine Ho.take (i := 3) SC Pp.body rfl (by kernel_rfl) (by kernel_rfl) (by kernel_rfl) rfl rfl ?_
         refine qmv rfl rfl rfl rfl ?_
         refine Ho.back ?_
         refine Ho.take (i := 4) SC Pp.body rfl (by kernel_rfl) (by kernel_rfl) (by kernel_rfl) rfl rfl ?_
         refine qixa rfl rfl (S.slI (i := 2) rfl) e132 rfl rfl rfl rfl (fun _ => by first | omega | (simp only [List.length_cons, List.length_nil]; omega)) ?_
         refine Ho.back ?_
         refine Ho.take (i := 5) SC Pp.body rfl (by kernel_rfl) (by kernel_rfl) (by kernel_rfl) rfl rfl ?_
         refine qldR rfl (fun _ S => S) (i := 2) rfl T3 rfl rfl rfl (fun _ => rfl) ?_
         refine Ho.back ?_
         refine Ho.take (i := 6) SC Pp.body rfl (by kernel_rfl) (by kernel_rfl) (by kernel_rfl) rfl rfl ?_
         refine qmv rfl rfl rfl rfl ?_
         refine Ho.back ?_
         refine Ho.take (i := 7) SC Pp.body rfl (by kernel_rfl) (by kernel_rfl) (by kernel_rfl) rfl rfl ?_
         refine qixa rfl rfl (S.slI (i := 2) rfl) e132 rfl rfl rfl rfl (fun _ => by first | omega | (simp only [List.length_cons, List.length_nil]; omega)) ?_
         refine Ho.back ?_
         refine Ho.take (i := 8) SC Pp.body rfl (by kernel_rfl) (by kernel_rfl) (by kernel_rfl) rfl rfl ?_
         refine qldR rfl (fun _ S => S) (i := 2) rfl T3 rfl rfl rfl (fun _ => rfl) ?_
         refine Ho.back ?_
         refine Ho.take (i := 10) SC Pp.body rfl (by kernel_rfl) (by kernel_rfl) (by kernel_rfl) rfl rfl ?_
         refine qmv rfl rfl rfl rfl ?_
         refine Ho.back ?_
         refine Ho.take (i := 11) SC Pp.body rfl (by kernel_rfl) (by kernel_rfl) (by kernel_rfl) rfl rfl ?_
         refine qixa rfl rfl (S.slI (i := 2) rfl) e132 rfl rfl rfl rfl (fun _ => by first | omega | (simp only [List.length_cons, List.length_nil]; omega)) ?_
         refine Ho.back ?_
         refine Ho.take (i := 12) SC Pp.body rfl (by kernel_rfl) (by kernel_rfl) (by kernel_rfl) rfl rfl ?_
         refine qldR rfl (fun _ S => S) (i := 2) rfl T3 rfl rfl rfl (fun _ => rfl) ?_
         refine Ho.back ?_
         refine Ho.take (i := 14) SC Pp.body rfl (by kernel_rfl) (by kernel_rfl) (by kernel_rfl) rfl rfl ?_
         refine qmv rfl rfl rfl rfl ?_
         refine Ho.back ?_
         refine Ho.take (i := 15) SC Pp.body rfl (by kernel_rfl) (by kernel_rfl) (by kernel_rfl) rfl rfl ?_
         refine qixa rfl rfl (S.slI (i := 2) rfl) e132 rfl rfl rfl rfl (fun _ => by first | omega | (simp only [List.length_cons, List.length_nil]; omega)) ?_
         refine Ho.back ?_
         refine Ho.take (i := 16) SC Pp.body rfl (by kernel_rfl) (by kernel_rfl) (by kernel_rfl) rfl rfl ?_
         refine qldR rfl (fun _ S => S) (i := 2) rfl T3 rfl rfl rfl (fun _ => rfl) ?_
         refine Ho.back ?_
         refine Ho.take (i := 17) SC Pp.body rfl (by kernel_rfl) (by kernel_rfl) (by kernel_rfl) rfl rfl ?_
         refine qmul rfl rfl rfl rfl rfl rfl (fun _ => w64 (by omega)) ?_
         refine Ho.back ?_
         refine Ho.take (i := 18) SC Pp.body rfl (by kernel_rfl) (by kernel_rfl) (by kernel_rfl) rfl rfl ?_
         refine qmv rfl rfl rfl rfl ?_
         refine Ho.back ?_
         refine Ho.take (i := 19) SC Pp.body rfl (by kernel_rfl) (by kernel_rfl) (by kernel_rfl) rfl rfl ?_
         refine qixa rfl rfl (S.slI (i := 2) rfl) e132 rfl rfl rfl rfl (fun _ => by first | omega | (simp only [List.length_cons, List.length_nil]; omega)) ?_
         refine Ho.back ?_
         refine Ho.take (i := 20) SC Pp.body rfl (by kernel_rfl) (by kernel_rfl) (by kernel_rfl) rfl rfl ?_
         refine qldR rfl (fun _ S => S) (i := 2) rfl T3 rfl rfl rfl (fun _ => rfl) ?_
         refine Ho.back ?_
         refine Ho.take (i := 21) SC Pp.body rfl (by kernel_rfl) (by kernel_rfl) (by kernel_rfl) rfl rfl ?_
         refine qmv rfl rfl rfl rfl ?_
         refine Ho.back ?_
         refine Ho.take (i := 22) SC Pp.body rfl (by kernel_rfl) (by kernel_rfl) (by kernel_rfl) rfl rfl ?_
         refine qixa rfl rfl (S.slI (i := 2) rfl) e132 rfl rfl rfl rfl (fun _ => by first | omega | (simp only [List.length_cons, List.length_nil]; omega)) ?_
         refine Ho.back ?_
         refine Ho.take (i := 23) SC Pp.body rfl (by kernel_rfl) (by kernel_rfl) (by kernel_rfl) rfl rfl ?_
         refine qldR rfl (fun _ S => S) (i := 2) rfl T3 rfl rfl rfl (fun _ => rfl) ?_
         refine Ho.back ?_
         refine Ho.take (i := 24) SC Pp.body rfl (by kernel_rfl) (by kernel_rfl) (by kernel_rfl) rfl rfl ?_
         refine qmv rfl rfl rfl rfl ?_
         refine Ho.back ?_
         refine Ho.two (i := 9) (i' := 26) (by kernel_rfl) rfl rfl rfl rfl ?_ ?_
         ·
          refine calg (vs := [_]) rfl ⟨⟨_, _, rfl, rfl⟩, trivial⟩ k102 rfl (fun hG => c102 _ _) ?_
          intro w11 B_; have S := S.call B_
          have SC := S.pick [true, true, true, true, true] rfl
          refine Ho.on SC ?_
          refine Ho.two (i := 13) (i' := 26) (by kernel_rfl) rfl rfl rfl rfl ?_ ?_
          ·
           refine calg (vs := [_]) rfl ⟨⟨_, _, rfl, rfl⟩, trivial⟩ k102 rfl (fun hG => c102 _ _) ?_
           intro w12 B_; have S := S.call B_
           have SC := S.pick [true, true, true, true, true] rfl
           refine Ho.on SC ?_
           refine Ho.take (i := 25) SC Pp.body rfl (by kernel_rfl) (by kernel_rfl) (by kernel_rfl) rfl rfl ?_
           refine qbld B28 (qs := [(_, _), (_, _), (_, _), (_, _), (_, _), (_, _), (_, _), (_, _)]) ⟨⟨_, _, _, rfl, rfl, rfl, rfl, by simp [Value.cells]⟩, ⟨_, _, _, rfl, rfl, rfl, rfl, by simp [Value.cells]⟩, ⟨_, _, _, rfl, rfl, rfl, rfl, by simp [Value.cells]⟩, ⟨_, _, _, rfl, rfl, rfl, rfl, by simp [Value.cells]⟩, ⟨_, _, _, rfl, rfl, rfl, rfl, by simp [Value.cells]⟩, ⟨_, _, _, rfl, rfl, rfl, rfl, by simp [Value.cells]⟩, ⟨_, _, _, rfl, rfl, rfl, rfl, by simp [Value.cells]⟩, ⟨_, _, _, rfl, rfl, cells1 (S.slI (i := 0) rfl).one, rfl, List.cons_ne_nil _ _⟩, trivial⟩ rfl rfl rfl ?_
           refine Ho.back ?_
           refine Ho.one (i := 26) (by kernel_rfl) rfl rfl ?_
           refine alc T28 S rfl ?_
           intro b12 w13 hb12 S B_
           have SC := S.pick [false, true, true, true, true, true] rfl
           refine Ho.on SC ?_
           refine Ho.one (i := 27) (by kernel_rfl) rfl rfl ?_
           refine stW rfl rfl T28 rfl rfl (one_cons rfl (one_cons rfl (one_cons rfl (one_cons rfl (one_cons rfl (one_cons rfl (one_cons rfl (one_cons rfl (one_cons rfl (one_cons rfl (one_cons rfl (one_cons rfl (one_cons rfl (one_cons rfl (one_cons rfl (one_cons rfl (one_cons rfl (one_cons rfl (one_cons rfl (one_cons rfl (one_cons rfl (one_cons rfl (one_cons rfl (one_cons rfl (one_cons rfl (one_cons rfl (one_cons rfl (one_cons rfl (one_cons rfl (one_cons rfl (one_cons rfl (one_cons rfl (one_cons rfl (one_cons rfl (one_cons rfl (one_cons rfl (one_cons rfl (one_cons rfl (one_cons rfl (one_cons rfl (one_cons rfl (one_cons (S.slI (i := 1) rfl).one (one_cons rfl one_nil))))))))))))))))))))))))))))))))))))))))))) S (i := 0) rfl rfl ?_
           intro w14 S
           have SC := S.pick [false, true, true, true, true, true] rfl
           refine Ho.on SC ?_
           refine Ho.done (by kernel_rfl) ?_
           refine Nrm.code ?_
           refine Run.seq ?_
           refine Run.held (by kernel_rfl) S [false, true, true, true, true, true] rfl rfl rfl ?_
           intro w15 BD S SC
           refine Ho.take (i := 0) SC Pp.body rfl (by kernel_rfl) (by kernel_rfl) (by kernel_rfl) rfl rfl ?_
           refine qmv rfl rfl rfl rfl ?_
           refine Ho.back ?_
           refine Ho.take (i := 1) SC Pp.body rfl (by kernel_rfl) (by kernel_rfl) (by kernel_rfl) rfl rfl ?_
           have hv126 := hb.cut (lo := 12) (hi := 16) (mx := capV v) (by have hcap := hb.cap; omega)
           refine qslC (lo := 12) (hi := 16) (mx := capV v) rfl hb e26 rfl rfl rfl (i1 := some 12) (i2 := some 16) (i3 := none) ⟨_, _, _, rfl, rfl⟩ ⟨_, _, _, rfl, rfl⟩ trivial rfl rfl rfl (fun h => by first | rfl | cases h) (fun hG => by (try simp [allT] at hG); have hcap := hb.cap; omega) ?_
           refine Ho.back ?_
           refine Ho.take (i := 3) SC Pp.body rfl (by kernel_rfl) (by kernel_rfl) (by kernel_rfl) rfl rfl ?_
           refine qmv rfl rfl rfl rfl ?_
           refine Ho.back ?_
           refine Ho.take (i := 4) SC Pp.body rfl (by kernel_rfl) (by kernel_rfl) (by kernel_rfl) rfl rfl ?_
           have hv129 := hb.cut (lo := 16) (hi := 20) (mx := capV v) (by have hcap := hb.cap; omega)
           refine qslC (lo := 16) (hi := 20) (mx := capV v) rfl hb e26 rfl rfl rfl (i1 := some 16) (i2 := some 20) (i3 := none) ⟨_, _, _, rfl, rfl⟩ ⟨_, _, _, rfl, rfl⟩ trivial rfl rfl rfl (fun h => by first | rfl | cases h) (fun hG => by (try simp [allT] at hG); have hcap := hb.cap; omega) ?_
           refine Ho.back ?_
           refine Ho.one (i := 2) (by kernel_rfl) rfl rfl ?_
           refine calg (vs := [_]) rfl ⟨⟨_, _, rfl, rfl⟩, trivial⟩ k103 rfl (fun hG => c103at _ _ b 12 _ (hv126.now S) (by rw [List.length_take, List.length_drop]; omega) (ipOf_cut b 12)) ?_
           intro w16 B_; have S := S.call B_
           have SC := S.pick [false, true, true, true, true, true] rfl
           refine Ho.on SC ?_
           refine Ho.take (i := 6) SC Pp.body rfl (by kernel_rfl) (by kernel_rfl) (by kernel_rfl) rfl rfl ?_
           refine qfld (o' := 7) rfl fo28_7 rfl rfl rfl rfl ?_
           refine Ho.back ?_
           refine Ho.one (i := 5) (by kernel_rfl) rfl rfl ?_
           refine calg (vs := [_]) rfl ⟨⟨_, _, rfl, rfl⟩, trivial⟩ k103 rfl (fun hG => c103at _ _ b 16 _ (hv129.now S) (by rw [List.length_take, List.length_drop]; omega) (ipOf_cut b 16)) ?_
           intro w17 B_; have S := S.call B_
           have SC := S.pick [false, true, true, true, true, true] rfl
           refine Ho.on SC ?_
           refine Ho.one (i := 7) (by kernel_rfl) rfl rfl ?_
           refine stA rfl rfl T24 rfl (by decide) (encIP_all1 _) S (i := 0) rfl rfl rfl ?_
           intro w18 S
           have SC := S.pick [false, true, true, true, true, true] rfl
           refine Ho.on SC ?_
           refine Ho.take (i := 8) SC Pp.body rfl (by kernel_rfl) (by kernel_rfl) (by kernel_rfl) rfl rfl ?_
           refine qfld (o' := 24) rfl fo28_8 rfl rfl rfl rfl ?_
           refine Ho.back ?_
           refine Ho.one (i := 9) (by kernel_rfl) rfl rfl ?_
           refine stA rfl rfl T24 rfl (by decide) (encIP_all1 _) S (i := 0) rfl rfl rfl ?_
           intro w19 S
           have SC := S.pick [false, true, true, true, true, true] rfl
           refine Ho.on SC ?_
           refine Ho.done (by kernel_rfl) ?_
           refine Nrm.code ?_
           refine Run.seq ?_
           refine Run.region ?_
           refine mv1 rfl rfl ?_
           refine mv1 rfl rfl ?_
           refine mv1 rfl rfl ?_
           refine mv1 rfl rfl ?_
           refine slC (lo := hdN b) (hi := totN b) (mx := totN b) rfl hb e26 rfl rfl rfl (i1 := some (hdN b)) (i2 := some (totN b)) (i3 := some (totN b)) ⟨_, _, _, rfl, rfl⟩ ⟨_, _, _, rfl, rfl⟩ ⟨_, _, _, rfl, rfl⟩ rfl rfl rfl (fun h => by first | rfl | cases h) (fun hG => by (try simp [allT] at hG); have hcap := hb.cap; omega) ?_
           have hv137 := hb.cut (lo := hdN b) (hi := totN b) (mx := totN b) (by have hcap := hb.cap; omega)
           refine fld (o' := 42) rfl fo28_10 rfl rfl rfl rfl ?_
           refine st1 rfl rfl T26 hv137.one S (i := 0) rfl rfl rfl ?_
           intro w20 S
           refine Ro.nil ?_
           refine Nrm.code ?_
           refine Run.seq ?_
           refine Run.region ?_
           refine ldW rfl T28 S (i := 0) rfl rfl rfl rfl rfl ?_
           refine stW rfl rfl T28 rfl rfl (one_cons rfl (one_cons rfl (one_cons rfl (one_cons rfl (one_cons rfl (one_cons rfl (one_cons rfl (one_cons rfl (one_cons rfl (one_cons rfl (one_cons rfl (one_cons rfl (one_cons rfl (one_cons rfl (one_cons rfl (one_cons rfl (one_cons rfl (one_cons rfl (one_cons rfl (one_cons rfl (one_cons rfl (one_cons rfl (one_cons rfl (one_cons rfl (one_cons rfl (one_cons rfl (one_cons rfl (one_cons rfl (one_cons rfl (one_cons rfl (one_cons rfl (one_cons rfl (one_cons rfl (one_cons rfl (one_cons rfl (one_cons rfl (one_cons rfl (one_cons rfl (one_cons rfl (one_cons rfl (one_cons rfl (one_cons (S.slI (i := 1) rfl).one (one_cons hv137.one one_nil))))))))))))))))))))))))))))))))))))))))))) S (i := 5) rfl rfl ?_
           intro w21 S
           refine asg1 rfl rfl ?_
           refine Ro.nil ?_
           refine Nrm.code ?_
           refine Run.ret ?_
           refine Rt.cell2 rfl rfl rfl T28 S (i := 5) rfl rfl ?_
           have he : parE b = 0 := by
            unfold parE
            rw [if_neg (by omega), if_neg (by omega), if_neg (by omega), if_neg (by omega), if_neg (by omega), if_neg (by omega), if_neg (by omega)]
            omega
           exact ⟨_, _, vs, by rw [parH, if_pos he, he]; rfl, by rw [parH, if_pos he]; exact (S.pick [false, true, false, false, false, false] rfl).toFO (i := 0) rfl, fun N w1 h1 => by rw [parH, if_pos he]; exact ⟨hwin N w1 (h1.cut (by have := h1.cap; omega)), h1.cut (by have := h1.cap; omega)⟩⟩
          ·
           refine alc T28 S rfl ?_
           intro b12 w12 hb12 S B_
           have SC := S.pick [false, true, true, true, true, true] rfl
           refine Ho.on SC ?_
           refine Ho.one (i := 13) (by kernel_rfl) rfl rfl ?_
           refine calg (vs := [_]) rfl ⟨⟨_, _, rfl, rfl⟩, trivial⟩ k102 rfl (fun hG => c102 _ _) ?_
           intro w13 B_; have S := S.call B_
           have SC := S.pick [false, true, true, true, true, true] rfl
           refine Ho.on SC ?_
           refine Ho.take (i := 25) SC Pp.body rfl (by kernel_rfl) (by kernel_rfl) (by kernel_rfl) rfl rfl ?_
           refine qbld B28 (qs := [(_, _), (_, _), (_, _), (_, _), (_, _), (_, _), (_, _), (_, _)]) ⟨⟨_, _, _, rfl, rfl, rfl, rfl, by simp [Value.cells]⟩, ⟨_, _, _, rfl, rfl, rfl, rfl, by simp [Value.cells]⟩, ⟨_, _, _, rfl, rfl, rfl, rfl, by simp [Value.cells]⟩, ⟨_, _, _, rfl, rfl, rfl, rfl, by simp [Value.cells]⟩, ⟨_, _, _, rfl, rfl, rfl, rfl, by simp [Value.cells]⟩, ⟨_, _, _, rfl, rfl, rfl, rfl, by simp [Value.cells]⟩, ⟨_, _, _, rfl, rfl, rfl, rfl, by simp [Value.cells]⟩, ⟨_, _, _, rfl, rfl, cells1 (S.slI (i := 1) rfl).one, rfl, List.cons_ne_nil _ _⟩, trivial⟩ rfl rfl rfl ?_
           refine Ho.back ?_
           refine Ho.one (i := 27) (by kernel_rfl) rfl rfl ?_
           refine stW rfl rfl T28 rfl rfl (one_cons rfl (one_cons rfl (one_cons rfl (one_cons rfl (one_cons rfl (one_cons rfl (one_cons rfl (one_cons rfl (one_cons rfl (one_cons rfl (one_cons rfl (one_cons rfl (one_cons rfl (one_cons rfl (one_cons rfl (one_cons rfl (one_cons rfl (one_cons rfl (one_cons rfl (one_cons rfl (one_cons rfl (one_cons rfl (one_cons rfl (one_cons rfl (one_cons rfl (one_cons rfl (one_cons rfl (one_cons rfl (one_cons rfl (one_cons rfl (one_cons rfl (one_cons rfl (one_cons rfl (one_cons rfl (one_cons rfl (one_cons rfl (one_cons rfl (one_cons rfl (one_cons rfl (one_cons rfl (one_cons rfl (one_cons (S.slI (i := 1) rfl).one (one_cons rfl one_nil))))))))))))))))))))))))))))))))))))))))))) S (i := 0) rfl rfl ?_
           intro w14 S
           have SC := S.pick [false, true, true, true, true, true] rfl
           refine Ho.on SC ?_
           refine Ho.done (by kernel_rfl) ?_
           refine Nrm.code ?_
           refine Run.seq ?_
           refine Run.held (by kernel_rfl) S [false, true, true, true, true, true] rfl rfl rfl ?_
           intro w15 BD S SC
           refine Ho.take (i := 0) SC Pp.body rfl (by kernel_rfl) (by kernel_rfl) (by kernel_rfl) rfl rfl ?_
           refine qmv rfl rfl rfl rfl ?_
           refine Ho.back ?_
           refine Ho.take (i := 1) SC Pp.body rfl (by kernel_rfl) (by kernel_rfl) (by kernel_rfl) rfl rfl ?_
           have hv126 := hb.cut (lo := 12) (hi := 16) (mx := capV v) (by have hcap := hb.cap; omega)
           refine qslC (lo := 12) (hi := 16) (mx := capV v) rfl hb e26 rfl rfl rfl (i1 := some 12) (i2 := some 16) (i3 := none) ⟨_, _, _, rfl, rfl⟩ ⟨_, _, _, rfl, rfl⟩ trivial rfl rfl rfl (fun h => by first | rfl | cases h) (fun hG => by (try simp [allT] at hG); have hcap := hb.cap; omega) ?_
           refine Ho.back ?_
           refine Ho.take (i := 3) SC Pp.body rfl (by kernel_rfl) (by kernel_rfl) (by kernel_rfl) rfl rfl ?_
           refine qmv rfl rfl rfl rfl ?_
           refine Ho.back ?_
           refine Ho.take (i := 4) SC Pp.body rfl (by kernel_rfl) (by kernel_rfl) (by kernel_rfl) rfl rfl ?_
           have hv129 := hb.cut (lo := 16) (hi := 20) (mx := capV v) (by have hcap := hb.cap; omega)
           refine qslC (lo := 16) (hi := 20) (mx := capV v) rfl hb e26 rfl rfl rfl (i1 := some 16) (i2 := some 20) (i3 := none) ⟨_, _, _, rfl, rfl⟩ ⟨_, _, _, rfl, rfl⟩ trivial rfl rfl rfl (fun h => by first | rfl | cases h) (fun hG => by (try simp [allT] at hG); have hcap := hb.cap; omega) ?_
           refine Ho.back ?_
           refine Ho.one (i := 2) (by kernel_rfl) rfl rfl ?_
           refine calg (vs := [_]) rfl ⟨⟨_, _, rfl, rfl⟩, trivial⟩ k103 rfl (fun hG => c103at _ _ b 12 _ (hv126.now S) (by rw [List.length_take, List.length_drop]; omega) (ipOf_cut b 12)) ?_
           intro w16 B_; have S := S.call B_
           have SC := S.pick [false, true, true, true, true, true] rfl
           refine Ho.on SC ?_
           refine Ho.take (i := 6) SC Pp.body rfl (by kernel_rfl) (by kernel_rfl) (by kernel_rfl) rfl rfl ?_
           refine qfld (o' := 7) rfl fo28_7 rfl rfl rfl rfl ?_
           refine Ho.back ?_
           refine Ho.one (i := 5) (by kernel_rfl) rfl rfl ?_
           refine calg (vs := [_]) rfl ⟨⟨_, _, rfl, rfl⟩, trivial⟩ k103 rfl (fun hG => c103at _ _ b 16 _ (hv129.now S) (by rw [List.length_take, List.length_drop]; omega) (ipOf_cut b 16)) ?_
           intro w17 B_; have S := S.call B_
           have SC := S.pick [false, true, true, true, true, true] rfl
           refine Ho.on SC ?_
           refine Ho.one (i := 7) (by kernel_rfl) rfl rfl ?_
           refine stA rfl rfl T24 rfl (by decide) (encIP_all1 _) S (i := 0) rfl rfl rfl ?_
           intro w18 S
           have SC := S.pick [false, true, true, true, true, true] rfl
           refine Ho.on SC ?_
           refine Ho.take (i := 8) SC Pp.body rfl (by kernel_rfl) (by kernel_rfl) (by kernel_rfl) rfl rfl ?_
           refine qfld (o' := 24) rfl fo28_8 rfl rfl rfl rfl ?_
           refine Ho.back ?_
           refine Ho.one (i := 9) (by kernel_rfl) rfl rfl ?_
           refine stA rfl rfl T24 rfl (by decide) (encIP_all1 _) S (i := 0) rfl rfl rfl ?_
           intro w19 S
           have SC := S.pick [false, true, true, true, true, true] rfl
           refine Ho.on SC ?_
           refine Ho.done (by kernel_rfl) ?_
           refine Nrm.code ?_
           refine Run.seq ?_
           refine Run.region ?_
           refine mv1 rfl rfl ?_
           refine mv1 rfl rfl ?_
           refine mv1 rfl rfl ?_
           refine mv1 rfl rfl ?_
           refine slC (lo := hdN b) (hi := totN b) (mx := totN b) rfl hb e26 rfl rfl rfl (i1 := some (hdN b)) (i2 := some (totN b)) (i3 := some (totN b)) ⟨_, _, _, rfl, rfl⟩ ⟨_, _, _, rfl, rfl⟩ ⟨_, _, _, rfl, rfl⟩ rfl rfl rfl (fun h => by first | rfl | cases h) (fun hG => by (try simp [allT] at hG); have hcap := hb.cap; omega) ?_
           have hv137 := hb.cut (lo := hdN b) (hi := totN b) (mx := totN b) (by have hcap := hb.cap; omega)
           refine fld (o' := 42) rfl fo28_10 rfl rfl rfl rfl ?_
           refine st1 rfl rfl T26 hv137.one S (i := 0) rfl rfl rfl ?_
           intro w20 S
           refine Ro.nil ?_
           refine Nrm.code ?_
           refine Run.seq ?_
           refine Run.region ?_
           refine ldW rfl T28 S (i := 0) rfl rfl rfl rfl rfl ?_
           refine stW rfl rfl T28 rfl rfl (one_cons rfl (one_cons rfl (one_cons rfl (one_cons rfl (one_cons rfl (one_cons rfl (one_cons rfl (one_cons rfl (one_cons rfl (one_cons rfl (one_cons rfl (one_cons rfl (one_cons rfl (one_cons rfl (one_cons rfl (one_cons rfl (one_cons rfl (one_cons rfl (one_cons rfl (one_cons rfl (one_cons rfl (one_cons rfl (one_cons rfl (one_cons rfl (one_cons rfl (one_cons rfl (one_cons rfl (one_cons rfl (one_cons rfl (one_cons rfl (one_cons rfl (one_cons rfl (one_cons rfl (one_cons rfl (one_cons rfl (one_cons rfl (one_cons rfl (one_cons rfl (one_cons rfl (one_cons rfl (one_cons rfl (one_cons (S.slI (i := 1) rfl).one (one_cons hv137.one one_nil))))))))))))))))))))))))))))))))))))))))))) S (i := 5) rfl rfl ?_
           intro w21 S
           refine asg1 rfl rfl ?_
           refine Ro.nil ?_
           refine Nrm.code ?_
           refine Run.ret ?_
           refine Rt.cell2 rfl rfl rfl T28 S (i := 5) rfl rfl ?_
           have he : parE b = 0 := by
            unfold parE
            rw [if_neg (by omega), if_neg (by omega), if_neg (by omega), if_neg (by omega), if_neg (by omega), if_neg (by omega), if_neg (by omega)]
            omega
           exact ⟨_, _, vs, by rw [parH, if_pos he, he]; rfl, by rw [parH, if_pos he]; exact (S.pick [false, true, false, false, false, false] rfl).toFO (i := 0) rfl, fun N w1 h1 => by rw [parH, if_pos he]; exact ⟨hwin N w1 (h1.cut (by have := h1.cap; omega)), h1.cut (by have := h1.cap; omega)⟩⟩
         ·
          refine alc T28 S rfl ?_
          intro b12 w11 hb12 S B_
          have SC := S.pick [false, true, true, true, true, true] rfl
          refine Ho.on SC ?_
          refine Ho.one (i := 9) (by kernel_rfl) rfl rfl ?_
          refine calg (vs := [_]) rfl ⟨⟨_, _, rfl, rfl⟩, trivial⟩ k102 rfl (fun hG => c102 _ _) ?_
          intro w12 B_; have S := S.call B_
          have SC := S.pick [false, true, true, true, true, true] rfl
          refine Ho.on SC ?_
          refine Ho.one (i := 13) (by kernel_rfl) rfl rfl ?_
          refine calg (vs := [_]) rfl ⟨⟨_, _, rfl, rfl⟩, trivial⟩ k102 rfl (fun hG => c102 _ _) ?_
          intro w13 B_; have S := S.call B_
          have SC := S.pick [false, true, true, true, true, true] rfl
          refine Ho.on SC ?_
          refine Ho.take (i := 25) SC Pp.body rfl (by kernel_rfl) (by kernel_rfl) (by kernel_rfl) rfl rfl ?_
          refine qbld B28 (qs := [(_, _), (_, _), (_, _), (_, _), (_, _), (_, _), (_, _), (_, _)]) ⟨⟨_, _, _, rfl, rfl, rfl, rfl, by simp [Value.cells]⟩, ⟨_, _, _, rfl, rfl, rfl, rfl, by simp [Value.cells]⟩, ⟨_, _, _, rfl, rfl, rfl, rfl, by simp [Value.cells]⟩, ⟨_, _, _, rfl, rfl, rfl, rfl, by simp [Value.cells]⟩, ⟨_, _, _, rfl, rfl, rfl, rfl, by simp [Value.cells]⟩, ⟨_, _, _, rfl, rfl, rfl, rfl, by simp [Value.cells]⟩, ⟨_, _, _, rfl, rfl, rfl, rfl, by simp [Value.cells]⟩, ⟨_, _, _, rfl, rfl, cells1 (S.slI (i := 1) rfl).one, rfl, List.cons_ne_nil _ _⟩, trivial⟩ rfl rfl rfl ?_
          refine Ho.back ?_
          refine Ho.one (i := 27) (by kernel_rfl) rfl rfl ?_
          refine stW rfl rfl T28 rfl rfl (one_cons rfl (one_cons rfl (one_cons rfl (one_cons rfl (one_cons rfl (one_cons rfl (one_cons rfl (one_cons rfl (one_cons rfl (one_cons rfl (one_cons rfl (one_cons rfl (one_cons rfl (one_cons rfl (one_cons rfl (one_cons rfl (one_cons rfl (one_cons rfl (one_cons rfl (one_cons rfl (one_cons rfl (one_cons rfl (one_cons rfl (one_cons rfl (one_cons rfl (one_cons rfl (one_cons rfl (one_cons rfl (one_cons rfl (one_cons rfl (one_cons rfl (one_cons rfl (one_cons rfl (one_cons rfl (one_cons rfl (one_cons rfl (one_cons rfl (one_cons rfl (one_cons rfl (one_cons rfl (one_cons rfl (one_cons (S.slI (i := 1) rfl).one (one_cons rfl one_nil))))))))))))))))))))))))))))))))))))))))))) S (i := 0) rfl rfl ?_
          intro w14 S
          have SC := S.pick [false, true, true, true, true, true] rfl
          refine Ho.on SC ?_
          refine Ho.done (by kernel_rfl) ?_
          refine Nrm.code ?_
          refine Run.seq ?_
          refine Run.held (by kernel_rfl) S [false, true, true, true, true, true] rfl rfl rfl ?_
          intro w15 BD S SC
          refine Ho.take (i := 0) SC Pp.body rfl (by kernel_rfl) (by kernel_rfl) (by kernel_rfl) rfl rfl ?_
          refine qmv rfl rfl rfl rfl ?_
          refine Ho.back ?_
          refine Ho.take (i := 1) SC Pp.body rfl (by kernel_rfl) (by kernel_rfl) (by kernel_rfl) rfl rfl ?_
          have hv126 := hb.cut (lo := 12) (hi := 16) (mx := capV v) (by have hcap := hb.cap; omega)
          refine qslC (lo := 12) (hi := 16) (mx := capV v) rfl hb e26 rfl rfl rfl (i1 := some 12) (i2 := some 16) (i3 := none) ⟨_, _, _, rfl, rfl⟩ ⟨_, _, _, rfl, rfl⟩ trivial rfl rfl rfl (fun h => by first | rfl | cases h) (fun hG => by (try simp [allT] at hG); have hcap := hb.cap; omega) ?_
          refine Ho.back ?_
          refine Ho.take (i := 3) SC Pp.body rfl (by kernel_rfl) (by kernel_rfl) (by kernel_rfl) rfl rfl ?_
          refine qmv rfl rfl rfl rfl ?_
          refine Ho.back ?_
          refine Ho.take (i := 4) SC Pp.body rfl (by kernel_rfl) (by kernel_rfl) (by kernel_rfl) rfl rfl ?_
          have hv129 := hb.cut (lo := 16) (hi := 20) (mx := capV v) (by have hcap := hb.cap; omega)
          refine qslC (lo := 16) (hi := 20) (mx := capV v) rfl hb e26 rfl rfl rfl (i1 := some 16) (i2 := some 20) (i3 := none) ⟨_, _, _, rfl, rfl⟩ ⟨_, _, _, rfl, rfl⟩ trivial rfl rfl rfl (fun h => by first | rfl | cases h) (fun hG => by (try simp [allT] at hG); have hcap := hb.cap; omega) ?_
          refine Ho.back ?_
          refine Ho.one (i := 2) (by kernel_rfl) rfl rfl ?_
          refine calg (vs := [_]) rfl ⟨⟨_, _, rfl, rfl⟩, trivial⟩ k103 rfl (fun hG => c103at _ _ b 12 _ (hv126.now S) (by rw [List.length_take, List.length_drop]; omega) (ipOf_cut b 12)) ?_
          intro w16 B_; have S := S.call B_
          have SC := S.pick [false, true, true, true, true, true] rfl
          refine Ho.on SC ?_
          refine Ho.take (i := 6) SC Pp.body rfl (by kernel_rfl) (by kernel_rfl) (by kernel_rfl) rfl rfl ?_
          refine qfld (o' := 7) rfl fo28_7 rfl rfl rfl rfl ?_
          refine Ho.back ?_
          refine Ho.one (i := 5) (by kernel_rfl) rfl rfl ?_
          refine calg (vs := [_]) rfl ⟨⟨_, _, rfl, rfl⟩, trivial⟩ k103 rfl (fun hG => c103at _ _ b 16 _ (hv129.now S) (by rw [List.length_take, List.length_drop]; omega) (ipOf_cut b 16)) ?_
          intro w17 B_; have S := S.call B_
          have SC := S.pick [false, true, true, true, true, true] rfl
          refine Ho.on SC ?_
          refine Ho.one (i := 7) (by kernel_rfl) rfl rfl ?_
          refine stA rfl rfl T24 rfl (by decide) (encIP_all1 _) S (i := 0) rfl rfl rfl ?_
          intro w18 S
          have SC := S.pick [false, true, true, true, true, true] rfl
          refine Ho.on SC ?_
          refine Ho.take (i := 8) SC Pp.body rfl (by kernel_rfl) (by kernel_rfl) (by kernel_rfl) rfl rfl ?_
          refine qfld (o' := 24) rfl fo28_8 rfl rfl rfl rfl ?_
          refine Ho.back ?_
          refine Ho.one (i := 9) (by kernel_rfl) rfl rfl ?_
          refine stA rfl rfl T24 rfl (by decide) (encIP_all1 _) S (i := 0) rfl rfl rfl ?_
          intro w19 S
          have SC := S.pick [false, true, true, true, true, true] rfl
          refine Ho.on SC ?_
          refine Ho.done (by kernel_rfl) ?_
          refine Nrm.code ?_
          refine Run.seq ?_
          refine Run.region ?_
          refine mv1 rfl rfl ?_
          refine mv1 rfl rfl ?_
          refine mv1 rfl rfl ?_
          refine mv1 rfl rfl ?_
          refine slC (lo := hdN b) (hi := totN b) (mx := totN b) rfl hb e26 rfl rfl rfl (i1 := some (hdN b)) (i2 := some (totN b)) (i3 := some (totN b)) ⟨_, _, _, rfl, rfl⟩ ⟨_, _, _, rfl, rfl⟩ ⟨_, _, _, rfl, rfl⟩ rfl rfl rfl (fun h => by first | rfl | cases h) (fun hG => by (try simp [allT] at hG); have hcap := hb.cap; omega) ?_
          have hv137 := hb.cut (lo := hdN b) (hi := totN b) (mx := totN b) (by have hcap := hb.cap; omega)
          refine fld (o' := 42) rfl fo28_10 rfl rfl rfl rfl ?_
          refine st1 rfl rfl T26 hv137.one S (i := 0) rfl rfl rfl ?_
          intro w20 S
          refine Ro.nil ?_
          refine Nrm.code ?_
          refine Run.seq ?_
          refine Run.region ?_
          refine ldW rfl T28 S (i := 0) rfl rfl rfl rfl rfl ?_
          refine stW rfl rfl T28 rfl rfl (one_cons rfl (one_cons rfl (one_cons rfl (one_cons rfl (one_cons rfl (one_cons rfl (one_cons rfl (one_cons rfl (one_cons rfl (one_cons rfl (one_cons rfl (one_cons rfl (one_cons rfl (one_cons rfl (one_cons rfl (one_cons rfl (one_cons rfl (one_cons rfl (one_cons rfl (one_cons rfl (one_cons rfl (one_cons rfl (one_cons rfl (one_cons rfl (one_cons rfl (one_cons rfl (one_cons rfl (one_cons rfl (one_cons rfl (one_cons rfl (one_cons rfl (one_cons rfl (one_cons rfl (one_cons rfl (one_cons rfl (one_cons rfl (one_cons rfl (one_cons rfl (one_cons rfl (one_cons rfl (one_cons rfl (one_cons (S.slI (i := 1) rfl).one (one_cons hv137.one one_nil))))))))))))))))))))))))))))))))))))))))))) S (i := 5) rfl rfl ?_
          intro w21 S
          refine asg1 rfl rfl ?_
          refine Ro.nil ?_
          refine Nrm.code ?_
          refine Run.ret ?_
          refine Rt.cell2 rfl rfl rfl T28 S (i := 5) rfl rfl ?_
          have he : parE b = 0 := by
           unfold parE
           rw [if_neg (by omega), if_neg (by omega), if_neg (by omega), if_neg (by omega), if_neg (by omega), if_neg (by omega), if_neg (by omega)]
           omega
          exact ⟨_, _, vs, by rw [parH, if_pos he, he]; rfl, by rw [parH, if_pos he]; exact (S.pick [false, true, false, false, false, false] rfl).toFO (i := 0) rfl, fun N w1 h1 => by rw [parH, if_pos he]; exact ⟨hwin N w1 (h1.cut (by have := h1.cap; omega)), h1.cut (by have := h1.cap; omega)⟩⟩
       ·
        try simp only [Bool.or_eq_true, Bool.and_eq_true, Bool.or_eq_false_iff, Bool.and_eq_false_iff, decide_eq_true_eq, decide_eq_false_iff_not, Bool.not_eq_true', Bool.not_eq_false', Bool.not_eq_true, Bool.not_eq_false] at hc17
        refine Run.skip ?_
        refine Nrm.code ?_
        refine Run.seq ?_
        refine Run.seq ?_
        refine Run.region ?_
        refine mv1 rfl rfl ?_
        refine neq1 rfl rfl rfl ?_
        refine Ro.nil ?_
        refine Nrm.code ?_
        refine Run.cond rfl (fun hc19 => ?_) (fun hc19 => ?_)
        ·
         try simp only [Bool.or_eq_true, Bool.and_eq_true, Bool.or_eq_false_iff, Bool.and_eq_false_iff, decide_eq_true_eq, decide_eq_false_iff_not, Bool.not_eq_true', Bool.not_eq_false', Bool.not_eq_true, Bool.not_eq_false] at hc19
         refine Run.seq ?_
         refine Run.region ?_
         refine bld B28 (qs := []) trivial rfl rfl rfl ?_
         refine mv1 rfl rfl ?_
         refine stW rfl rfl T28 rfl rfl (by simp [Value.oneCell']) S (i := 4) rfl rfl ?_
         intro w9 S
         refine asg1 rfl rfl ?_
         refine Ro.nil ?_
         refine Nrm.code ?_
         refine Run.ret ?_
         refine Rt.cell2 rfl rfl rfl T28 S (i := 4) rfl rfl ?_
         have he : parE b = optE (optB4 b) := by
          unfold parE
          rw [if_neg (by omega), if_neg (by omega), if_neg (by omega), if_neg (by omega), if_neg (by omega), if_neg (by omega), if_pos (show optE (optB4 b) ≠ 0 from hc17)]
         exact ⟨.slice none 0 0, .slice none 0 0, [], by rw [parH_err he (by omega), he]; rfl, by rw [parH_err he (by omega)]; exact (S.nilO).toFO (i := 0) rfl, fun _ _ _ => by rw [parH_err he (by omega)]; exact ⟨trivial, BS.nil _ _⟩⟩
        ·
         try simp only [Bool.or_eq_true, Bool.and_eq_true, Bool.or_eq_false_iff, Bool.and_eq_false_iff, decide_eq_true_eq, decide_eq_false_iff_not, Bool.not_eq_true', Bool.not_eq_false', Bool.not_eq_true, Bool.not_eq_false] at hc19
         exfalso; omega
end Go.Proofs.YtkahmepenjhcpaaDoor.W
/- Contracts: datagrams compared. No statement of the seat is proved here. -/
namespace Go.Proofs.YtkahmepenjhcpaaDoor.W
open Go
set_option linter.unusedSimpArgs false
set_option linter.unusedVariables false
def sameOs (a b : List Opt) : Bool := decide (a.map Opt.kind = b.map Opt.kind) && decide (a.map Opt.data = b.map Opt.data)
theorem opt_ext {a b : Opt} (h1 : a.kind = b.kind) (h2 : a.data = b.data) : a = b := by cases a; cases b; simp_all
theorem sameOs_iff {a b : List Opt} : sameOs a b = true ↔ a = b := by
  simp only [sameOs, Bool.and_eq_true, decide_eq_true_eq]
  constructor
  · rintro ⟨h1, h2⟩
    have hl : a.length = b.length := by have := congrArg List.length h1; simpa using this
    refine List.ext_getElem hl (fun i h h' => opt_ext ?_ ?_)
    · have e := congrArg (fun l : List Int => l[i]?) h1
      simpa [h, h'] using e
    · have e := congrArg (fun l : List (List Int) => l[i]?) h2
      simpa [h, h'] using e
  · intro h; rw [h]; exact ⟨rfl, rfl⟩
theorem sameOs_no {a b : List Opt} (h : a ≠ b) : sameOs a b = false := by
  cases hs : sameOs a b with
  | false => rfl
  | true => exact absurd (sameOs_iff.1 hs) h
def diffH (a b : Ip4) : Bool := ((((((((decide (a.tos ≠ b.tos) || decide (a.id ≠ b.id)) || !(a.df == b.df)) || !(a.mf == b.mf)) || decide (a.off ≠ b.off)) || decide (a.ttl ≠ b.ttl)) || decide (a.proto ≠ b.proto)) || !sameB a.src b.src) || !sameB a.dst b.dst)
def sameH (a b : Ip4) : Bool := !diffH a b && (sameOs a.opts b.opts && decide (a.data = b.data))
set_option maxHeartbeats 1000000 in
theorem c46 (v u : Value) (a b : List Opt) (w : World) (hO : OS [] w v a) (hP : OS [] w u b) (hl : a.length ≤ 1099511627776) :
    CallsD Tryd.prog 46 #[v, u] w (.bool (sameOs a b)) := by
  refine enter Tryd.func46 rfl Tryd.ntmps46 (l := [(0, [], _), (1, [], _)]) rfl rfl ?_
  have S := St.refl [] w
  obtain ⟨ds, hOS, hOB⟩ := hO
  obtain ⟨es, hPS, hPB⟩ := hP
  refine Run.seq ?_
  refine Run.region ?_
  refine asg1 rfl rfl ?_
  refine Ro.nil ?_
  refine Nrm.code ?_
  refine Run.seq ?_
  refine Run.seq ?_
  refine Run.region ?_
  refine mv1 rfl rfl ?_
  refine lenS rfl hOS Tryd.underlying25 rfl rfl rfl ?_
  refine mv1 rfl rfl ?_
  refine lenS rfl hPS Tryd.underlying25 rfl rfl rfl ?_
  refine neq1 rfl rfl rfl ?_
  refine Ro.nil ?_
  refine Nrm.code ?_
  refine Run.cond rfl (fun hc1 => ?_) (fun hc1 => ?_)
  ·
    try simp only [Bool.or_eq_true, Bool.and_eq_true, Bool.or_eq_false_iff, Bool.and_eq_false_iff, decide_eq_true_eq, decide_eq_false_iff_not, Bool.not_eq_true', Bool.not_eq_false', Bool.not_eq_true, Bool.not_eq_false] at hc1
    refine Run.seq ?_
    refine Run.region ?_
    refine asg1 rfl rfl ?_
    refine Ro.nil ?_
    refine Nrm.code ?_
    refine Run.ret ?_
    refine Rt.one rfl rfl ?_
    exact ⟨by rw [sameOs_no (fun h => by rw [h] at hc1; omega)], S.bl⟩
  ·
    try simp only [Bool.or_eq_true, Bool.and_eq_true, Bool.or_eq_false_iff, Bool.and_eq_false_iff, decide_eq_true_eq, decide_eq_false_iff_not, Bool.not_eq_true', Bool.not_eq_false', Bool.not_eq_true, Bool.not_eq_false] at hc1
    refine Run.skip ?_
    refine Nrm.code ?_
    refine Run.seq ?_
    refine Run.seq ?_
    refine Run.region ?_
    refine asg1 rfl rfl ?_
    refine Ro.nil ?_
    refine Nrm.code ?_
    refine Run.block ?_
    refine Run.loop1 (fun (i : Nat) w_ => i ≤ a.length ∧ a.take i = b.take i ∧ St [] w [] w_) (fun (i : Nat) => [(0, [], v), (1, [], u), (5, [], .int .i64 i)]) (fun (i : Nat) => a.length - i) (0) ⟨Nat.zero_le _, rfl, S⟩ ⟨rfl, rfl, rfl, trivial⟩ ?_
    rintro i w1 ⟨hi, he, S⟩
    refine Run.seq ?_
    refine Run.seq ?_
    refine Run.region ?_
    refine mv1 rfl rfl ?_
    refine mv1 rfl rfl ?_
    refine lenS rfl hOS Tryd.underlying25 rfl rfl rfl ?_
    refine lss1 rfl rfl rfl ?_
    refine Ro.nil ?_
    refine Nrm.code ?_
    refine Run.cond rfl (fun hc4 => ?_) (fun hc4 => ?_)
    ·
      try simp only [Bool.or_eq_true, Bool.and_eq_true, Bool.or_eq_false_iff, Bool.and_eq_false_iff, decide_eq_true_eq, decide_eq_false_iff_not, Bool.not_eq_true', Bool.not_eq_false', Bool.not_eq_true, Bool.not_eq_false] at hc4
      refine Run.skip ?_
      refine Nrm.code ?_
      refine Run.seq ?_
      refine Run.block ?_
      refine Run.seq ?_
      refine Run.draw (by kernel_rfl) (by kernel_rfl) S ?_
      obtain ⟨p1, hp1, hb1⟩ := hOB.at (i := i) (by omega)
      obtain ⟨p2, hp2, hb2⟩ := hPB.at (i := i) (by omega)
      refine qmv rfl rfl rfl rfl ?_
      refine qmv rfl rfl rfl rfl ?_
      refine qixa rfl rfl hOS e25 rfl rfl rfl rfl (fun _ => by first | omega | (simp only [List.length_cons, List.length_nil]; omega)) ?_
      refine qflE rfl hOS fo93_1 rfl rfl rfl (fun _ => hOB.lt (by omega)) ?_
      refine qldE rfl hOS (fun _ S => S) T26 rfl rfl rfl (fun _ => hOB.k1 (by omega) hp1) ?_
      refine qmv rfl rfl rfl rfl ?_
      refine qmv rfl rfl rfl rfl ?_
      refine qixa rfl rfl hPS e25 rfl rfl rfl rfl (fun _ => by first | omega | (simp only [List.length_cons, List.length_nil]; omega)) ?_
      refine qflE rfl hPS fo93_1 rfl rfl rfl (fun _ => hPB.lt (by omega)) ?_
      refine qldE rfl hPS (fun _ S => S) T26 rfl rfl rfl (fun _ => hPB.k1 (by omega) hp2) ?_
      refine qcal (vs := [_, _]) rfl ⟨⟨_, _, rfl, rfl⟩, ⟨_, _, rfl, rfl⟩, trivial⟩ k37 rfl (fun _ _ S B => S.call B) (fun hG w_ S => c37 _ _ _ _ _ (hb1.now S) (hb2.now S)) ?_
      refine qasg rfl rfl rfl rfl ?_
      refine Qo.nil (fun w2 S => ?_)
      refine Nrm.code ?_
      refine Run.seq ?_
      refine Run.draw (by kernel_rfl) (by kernel_rfl) S ?_
      refine qmv rfl rfl rfl rfl ?_
      refine qmv rfl rfl rfl rfl ?_
      refine qixa rfl rfl hOS e25 rfl rfl rfl rfl (fun _ => by first | omega | (simp only [List.length_cons, List.length_nil]; omega)) ?_
      refine qflE rfl hOS fo93_0 rfl rfl rfl (fun _ => hOB.lt (by omega)) ?_
      refine qldE rfl hOS (fun _ S => S) T3 rfl rfl rfl (fun _ => hOB.k0 (by omega) hp1) ?_
      refine qmv rfl rfl rfl rfl ?_
      refine qmv rfl rfl rfl rfl ?_
      refine qixa rfl rfl hPS e25 rfl rfl rfl rfl (fun _ => by first | omega | (simp only [List.length_cons, List.length_nil]; omega)) ?_
      refine qflE rfl hPS fo93_0 rfl rfl rfl (fun _ => hPB.lt (by omega)) ?_
      refine qldE rfl hPS (fun _ S => S) T3 rfl rfl rfl (fun _ => hPB.k0 (by omega) hp2) ?_
      refine qneq rfl rfl rfl rfl rfl rfl ?_
      refine qmv rfl rfl rfl rfl ?_
      refine qmv rfl rfl rfl rfl ?_
      refine qnt rfl rfl rfl rfl ?_
      refine qpkO rfl rfl rfl rfl rfl rfl ?_
      refine Qo.nil (fun w3 S => ?_)
      refine Nrm.code ?_
      refine Run.cond rfl (fun hc7 => ?_) (fun hc7 => ?_)
      ·
        try simp only [Bool.or_eq_true, Bool.and_eq_true, Bool.or_eq_false_iff, Bool.and_eq_false_iff, decide_eq_true_eq, decide_eq_false_iff_not, Bool.not_eq_true', Bool.not_eq_false', Bool.not_eq_true, Bool.not_eq_false] at hc7
        refine Run.seq ?_
        refine Run.region ?_
        refine asg1 rfl rfl ?_
        refine Ro.nil ?_
        refine Nrm.code ?_
        refine Run.ret ?_
        refine Rt.one rfl rfl ?_
        exact ⟨by
          rw [sameOs_no]
          intro h
          subst h
          rcases hc7 with h | h
          · exact h rfl
          · exact h rfl, S.bl⟩
      ·
        try simp only [Bool.or_eq_true, Bool.and_eq_true, Bool.or_eq_false_iff, Bool.and_eq_false_iff, decide_eq_true_eq, decide_eq_false_iff_not, Bool.not_eq_true', Bool.not_eq_false', Bool.not_eq_true, Bool.not_eq_false] at hc7
        refine Run.skip ?_
        refine Nrm.blk ?_
        refine Nrm.code ?_
        refine Run.region ?_
        refine mv1 rfl rfl ?_
        refine add1 rfl rfl rfl (w64 (by omega)) ?_
        refine asg1 rfl rfl ?_
        refine Ro.nil ?_
        refine Nrm.loop1 (i + 1) ⟨by omega, by rw [take_succ_getD (show i < a.length by omega) (d := o0), take_succ_getD (show i < b.length by omega) (d := o0), he, opt_ext (a := a.getD i o0) (b := b.getD i o0) (by omega) hc7.2], S⟩ (by omega) ⟨rfl, rfl, rfl, trivial⟩
    ·
      try simp only [Bool.or_eq_true, Bool.and_eq_true, Bool.or_eq_false_iff, Bool.and_eq_false_iff, decide_eq_true_eq, decide_eq_false_iff_not, Bool.not_eq_true', Bool.not_eq_false', Bool.not_eq_true, Bool.not_eq_false] at hc4
      refine Run.exit ?_
      refine Lv.code ?_
      refine Lv.back ?_
      refine Lv.hit ?_
      refine Nrm.code ?_
      refine Run.seq ?_
      refine Run.region ?_
      refine asg1 rfl rfl ?_
      refine Ro.nil ?_
      refine Nrm.code ?_
      refine Run.ret ?_
      refine Rt.one rfl rfl ?_
      have e : i = a.length := by omega
      rw [e, List.take_length, List.take_of_length_le (by omega)] at he
      exact ⟨by rw [sameOs_iff.2 he], S.bl⟩
set_option maxHeartbeats 1000000 in
theorem c34 (a b : Ip4) (o1 d1 o2 d2 : Value) (w : World) (hO : OS [] w o1 a.opts) (hd : BS [] w d1 a.data) (hP : OS [] w o2 b.opts) (he : BS [] w d2 b.data) (hl : a.opts.length ≤ 1099511627776) :
  CallsD Tryd.prog 34 #[.agg (encIp4 a o1 d1).toArray, .agg (encIp4 b o2 d2).toArray] w (.bool (sameH a b)) := by
 refine enter Tryd.func34 rfl Tryd.ntmps34 (l := [(0, [], _), (1, [], _)]) rfl rfl ?_
 have S := St.refl [] w
 refine Run.seq ?_
 refine Run.region ?_
 refine boxA rfl S rfl ?_
 intro b2 w1 hb2 S B_
 refine boxA rfl S rfl ?_
 intro b3 w2 hb3 S B_
 refine asg1 rfl rfl ?_
 refine Ro.nil ?_
 refine Nrm.code ?_
 refine Run.seq ?_
 refine Run.seq ?_
 refine Run.region ?_
 refine fld (o' := 0) rfl fo28_0 rfl rfl rfl rfl ?_
 refine ld1 rfl T3 S (i := 1) rfl rfl rfl rfl rfl ?_
 refine fld (o' := 0) rfl fo28_0 rfl rfl rfl rfl ?_
 refine ld1 rfl T3 S (i := 0) rfl rfl rfl rfl rfl ?_
 refine neq1 rfl rfl rfl ?_
 refine mv1 rfl rfl ?_
 refine fld (o' := 1) rfl fo28_1 rfl rfl rfl rfl ?_
 refine ld1 rfl T3 S (i := 1) rfl rfl rfl rfl rfl ?_
 refine fld (o' := 1) rfl fo28_1 rfl rfl rfl rfl ?_
 refine ld1 rfl T3 S (i := 0) rfl rfl rfl rfl rfl ?_
 refine neq rfl rfl rfl rfl rfl rfl ?_
 refine pkO rfl rfl rfl rfl rfl rfl ?_
 refine mv1 rfl rfl ?_
 refine fld (o' := 2) rfl fo28_2 rfl rfl rfl rfl ?_
 refine ld1 rfl T4 S (i := 1) rfl rfl rfl rfl rfl ?_
 refine fld (o' := 2) rfl fo28_2 rfl rfl rfl rfl ?_
 refine ld1 rfl T4 S (i := 0) rfl rfl rfl rfl rfl ?_
 refine neB rfl rfl Tryd.underlying4 rfl rfl rfl rfl ?_
 refine pkO rfl rfl rfl rfl rfl rfl ?_
 refine mv1 rfl rfl ?_
 refine fld (o' := 3) rfl fo28_3 rfl rfl rfl rfl ?_
 refine ld1 rfl T4 S (i := 1) rfl rfl rfl rfl rfl ?_
 refine fld (o' := 3) rfl fo28_3 rfl rfl rfl rfl ?_
 refine ld1 rfl T4 S (i := 0) rfl rfl rfl rfl rfl ?_
 refine neB rfl rfl Tryd.underlying4 rfl rfl rfl rfl ?_
 refine pkO rfl rfl rfl rfl rfl rfl ?_
 refine mv1 rfl rfl ?_
 refine fld (o' := 4) rfl fo28_4 rfl rfl rfl rfl ?_
 refine ld1 rfl T3 S (i := 1) rfl rfl rfl rfl rfl ?_
 refine fld (o' := 4) rfl fo28_4 rfl rfl rfl rfl ?_
 refine ld1 rfl T3 S (i := 0) rfl rfl rfl rfl rfl ?_
 refine neq rfl rfl rfl rfl rfl rfl ?_
 refine pkO rfl rfl rfl rfl rfl rfl ?_
 refine mv1 rfl rfl ?_
 refine fld (o' := 5) rfl fo28_5 rfl rfl rfl rfl ?_
 refine ld1 rfl T3 S (i := 1) rfl rfl rfl rfl rfl ?_
 refine fld (o' := 5) rfl fo28_5 rfl rfl rfl rfl ?_
 refine ld1 rfl T3 S (i := 0) rfl rfl rfl rfl rfl ?_
 refine neq rfl rfl rfl rfl rfl rfl ?_
 refine pkO rfl rfl rfl rfl rfl rfl ?_
 refine mv1 rfl rfl ?_
 refine fld (o' := 6) rfl fo28_6 rfl rfl rfl rfl ?_
 refine ld1 rfl T3 S (i := 1) rfl rfl rfl rfl rfl ?_
 refine fld (o' := 6) rfl fo28_6 rfl rfl rfl rfl ?_
 refine ld1 rfl T3 S (i := 0) rfl rfl rfl rfl rfl ?_
 refine neq rfl rfl rfl rfl rfl rfl ?_
 refine pkO rfl rfl rfl rfl rfl rfl ?_
 refine mv1 rfl rfl ?_
 refine fld (o' := 7) rfl fo28_7 rfl rfl rfl rfl ?_
 refine ldA rfl T24 S (i := 1) rfl rfl rfl (by decide) rfl rfl rfl ?_
 refine fld (o' := 7) rfl fo28_7 rfl rfl rfl rfl ?_
 refine ldA rfl T24 S (i := 0) rfl rfl rfl (by decide) rfl rfl rfl ?_
 refine neI (a.src) (b.src) rfl rfl rfl rfl rfl rfl ?_
 refine pkO rfl rfl rfl rfl rfl rfl ?_
 refine mv1 rfl rfl ?_
 refine fld (o' := 24) rfl fo28_8 rfl rfl rfl rfl ?_
 refine ldA rfl T24 S (i := 1) rfl rfl rfl (by decide) rfl rfl rfl ?_
 refine fld (o' := 24) rfl fo28_8 rfl rfl rfl rfl ?_
 refine ldA rfl T24 S (i := 0) rfl rfl rfl (by decide) rfl rfl rfl ?_
 refine neI (a.dst) (b.dst) rfl rfl rfl rfl rfl rfl ?_
 refine pkO rfl rfl rfl rfl rfl rfl ?_
 refine Ro.nil ?_
 refine Nrm.code ?_
 refine Run.cond rfl (fun hc1 => ?_) (fun hc1 => ?_)
 ·
  refine Run.seq ?_
  refine Run.region ?_
  refine asg1 rfl rfl ?_
  refine Ro.nil ?_
  refine Nrm.code ?_
  refine Run.ret ?_
  refine Rt.one rfl rfl ?_
  exact ⟨by rw [sameH, show diffH a b = true from hc1]; rfl, S.bl⟩
 ·
  refine Run.skip ?_
  refine Nrm.code ?_
  refine Run.seq ?_
  refine Run.region ?_
  refine fld (o' := 41) rfl fo28_9 rfl rfl rfl rfl ?_
  refine ld1 rfl T25 S (i := 1) rfl rfl rfl rfl rfl ?_
  refine fld (o' := 41) rfl fo28_9 rfl rfl rfl rfl ?_
  refine ld1 rfl T25 S (i := 0) rfl rfl rfl rfl rfl ?_
  refine calg (vs := [_, _]) rfl ⟨⟨_, _, rfl, rfl⟩, ⟨_, _, rfl, rfl⟩, trivial⟩ k46 rfl (fun hG => c46 _ _ _ _ _ (hO.now S) (hP.now S) (by omega)) ?_
  intro w3 B_; have S := S.call B_
  refine mv1 rfl rfl ?_
  refine fld (o' := 42) rfl fo28_10 rfl rfl rfl rfl ?_
  refine ld1 rfl T26 S (i := 1) rfl rfl rfl rfl rfl ?_
  refine fld (o' := 42) rfl fo28_10 rfl rfl rfl rfl ?_
  refine ld1 rfl T26 S (i := 0) rfl rfl rfl rfl rfl ?_
  refine calg (vs := [_, _]) rfl ⟨⟨_, _, rfl, rfl⟩, ⟨_, _, rfl, rfl⟩, trivial⟩ k37 rfl (fun hG => c37 _ _ _ _ _ (hd.now S) (he.now S)) ?_
  intro w4 B_; have S := S.call B_
  refine pkA rfl rfl rfl rfl rfl rfl ?_
  refine asg1 rfl rfl ?_
  refine Ro.nil ?_
  refine Nrm.code ?_
  refine Run.ret ?_
  refine Rt.one rfl rfl ?_
  exact ⟨by rw [sameH, show diffH a b = false from hc1]; rfl, S.bl⟩
end Go.Proofs.YtkahmepenjhcpaaDoor.W
/- Contracts: datagrams cloned. No statement of the seat is proved here. -/
namespace Go.Proofs.YtkahmepenjhcpaaDoor.W
open Go
set_option linter.unusedSimpArgs false
set_option linter.unusedVariables false
theorem OS.stN {N0 N1 : List Nat} {w0 w : World} {L : List Own} {v : Value} {os : List Opt} (h : OS N1 w0 v os) (hN : ∀ i ∈ N0, i ∈ N1) (S : St N0 w0 L w) : OS (idsL L ++ N1) w v os :=
  let ⟨vs, h1, h2⟩ := h; ⟨vs, h1.stN hN S, BSs.stN hN S h2⟩
end Go.Proofs.YtkahmepenjhcpaaDoor.W
/- Contracts: segments checked, compared, cloned; what a segment tells. No statement of the seat is proved here. -/
namespace Go.Proofs.YtkahmepenjhcpaaDoor.W
open Go
set_option linter.unusedSimpArgs false
set_option linter.unusedVariables false
def badT (t : Tcp) : Bool := ((((((outN t.sport 65535 || outN t.dport 65535) || outN t.win 65535) || outN t.urg 65535) || outN t.seq 4294967295) || outN t.ack 4294967295) || outN t.flags 255)
def chkT (t : Tcp) : Int := if badT t = true then 98 else if tputE t.opts ≠ 0 then tputE t.opts else if 65535 < 20 + ((tputL t.opts).length : Int) + t.data.length then 2 else 0
theorem chkT_bd (t : Tcp) : 0 ≤ chkT t ∧ chkT t ≤ 98 := by
  have := tputE_or t.opts
  unfold chkT; (repeat' split) <;> omega
theorem badT_off {t : Tcp} (hb : badT t = false) : 0 ≤ t.sport ∧ t.sport ≤ 65535 ∧ 0 ≤ t.dport ∧ t.dport ≤ 65535 ∧ 0 ≤ t.win ∧ t.win ≤ 65535 ∧ 0 ≤ t.urg ∧ t.urg ≤ 65535 ∧ 0 ≤ t.seq ∧ t.seq ≤ 4294967295 ∧ 0 ≤ t.ack ∧ t.ack ≤ 4294967295 ∧ 0 ≤ t.flags ∧ t.flags ≤ 255 := by
  simp only [badT, outN, Bool.or_eq_false_iff, decide_eq_false_iff_not] at hb
  omega
theorem chkT_zero {t : Tcp} (hc : chkT t = 0) : badT t = false ∧ tputE t.opts = 0 ∧ 20 + ((tputL t.opts).length : Int) + t.data.length ≤ 65535 := by
  unfold chkT at hc
  cases hb : badT t with
  | true => rw [hb] at hc; simp at hc
  | false =>
    rw [hb] at hc
    simp only [Bool.false_eq_true, if_false] at hc
    by_cases h2 : tputE t.opts = 0
    · rw [if_neg (by omega)] at hc
      by_cases h3 : 65535 < 20 + ((tputL t.opts).length : Int) + t.data.length
      · rw [if_pos h3] at hc; omega
      · exact ⟨rfl, h2, by omega⟩
    · rw [if_pos h2] at hc; omega
def diffT (a b : Tcp) : Bool := ((((((decide (a.sport ≠ b.sport) || decide (a.dport ≠ b.dport)) || decide (a.seq ≠ b.seq)) || decide (a.ack ≠ b.ack)) || decide (a.flags ≠ b.flags)) || decide (a.win ≠ b.win)) || decide (a.urg ≠ b.urg))
def sameT (a b : Tcp) : Bool := !diffT a b && (sameOs a.opts b.opts && decide (a.data = b.data))
theorem sameT_refl (a : Tcp) : sameT a a = true := by
  simp [sameT, diffT, sameOs_iff.2 rfl]
theorem told_len {o : Opt} (h : toldB o = true) : o.kind = 2 ∧ o.data.length = 2 := by
  simpa only [toldB, Bool.and_eq_true, decide_eq_true_eq] using h
def mssF : List Opt → Int × Bool
  | [] => (0, false)
  | o :: l => if toldB o = true then (toldN o, true) else mssF l
theorem mssF_at {l : List Opt} {i : Nat} (h : i < l.length) : mssF (l.drop i) = if toldB (l.getD i o0) = true then (toldN (l.getD i o0), true) else mssF (l.drop (i + 1)) := by
  rw [List.drop_eq_getElem_cons h, List.getD_eq_getElem?_getD, List.getElem?_eq_getElem h]
  rfl
theorem mssF_end {l : List Opt} {i : Nat} (h : l.length ≤ i) : mssF (l.drop i) = (0, false) := by rw [List.drop_eq_nil_of_le h]; rfl
set_option maxHeartbeats 1000000 in
theorem c64 (t : Tcp) (o d : Value) (w : World) (hO : OS [] w o t.opts) (hd : BS [] w d t.data) (hol : t.opts.length ≤ 1099511627776) (hoo : ∀ p ∈ t.opts, p.data.length ≤ 1099511627776) (hdl : t.data.length ≤ 1099511627776) (hg3 : GV [] w 3 183 (lenT.map u64)) :
  CallsD Tryd.prog 64 #[.agg (encTcp t o d).toArray] w (.int .i64 (chkT t)) := by
 refine enter Tryd.func64 rfl Tryd.ntmps64 (l := [(0, [], _)]) rfl rfl ?_
 have S := St.refl [] w
 have hpl := tputL_len t.opts
 refine Run.seq ?_
 refine Run.region ?_
 refine boxA rfl S rfl ?_
 intro b1 w1 hb1 S B_
 refine asg1 rfl rfl ?_
 refine Ro.nil ?_
 refine Nrm.code ?_
 refine Run.seq ?_
 refine Run.seq ?_
 refine Run.region ?_
 refine fld (o' := 0) rfl fo82_0 rfl rfl rfl rfl ?_
 refine ld1 rfl T3 S (i := 0) rfl rfl rfl rfl rfl ?_
 refine calg (vs := [_, _]) rfl ⟨⟨_, _, rfl, rfl⟩, ⟨_, _, rfl, rfl⟩, trivial⟩ k126 rfl (fun hG => c126 _ _ _) ?_
 intro w2 B_; have S := S.call B_
 refine mv1 rfl rfl ?_
 refine fld (o' := 1) rfl fo82_1 rfl rfl rfl rfl ?_
 refine ld1 rfl T3 S (i := 0) rfl rfl rfl rfl rfl ?_
 refine calg (vs := [_, _]) rfl ⟨⟨_, _, rfl, rfl⟩, ⟨_, _, rfl, rfl⟩, trivial⟩ k126 rfl (fun hG => c126 _ _ _) ?_
 intro w3 B_; have S := S.call B_
 refine pkO rfl rfl rfl rfl rfl rfl ?_
 refine mv1 rfl rfl ?_
 refine fld (o' := 5) rfl fo82_5 rfl rfl rfl rfl ?_
 refine ld1 rfl T3 S (i := 0) rfl rfl rfl rfl rfl ?_
 refine calg (vs := [_, _]) rfl ⟨⟨_, _, rfl, rfl⟩, ⟨_, _, rfl, rfl⟩, trivial⟩ k126 rfl (fun hG => c126 _ _ _) ?_
 intro w4 B_; have S := S.call B_
 refine pkO rfl rfl rfl rfl rfl rfl ?_
 refine mv1 rfl rfl ?_
 refine fld (o' := 6) rfl fo82_6 rfl rfl rfl rfl ?_
 refine ld1 rfl T3 S (i := 0) rfl rfl rfl rfl rfl ?_
 refine calg (vs := [_, _]) rfl ⟨⟨_, _, rfl, rfl⟩, ⟨_, _, rfl, rfl⟩, trivial⟩ k126 rfl (fun hG => c126 _ _ _) ?_
 intro w5 B_; have S := S.call B_
 refine pkO rfl rfl rfl rfl rfl rfl ?_
 refine mv1 rfl rfl ?_
 refine fld (o' := 2) rfl fo82_2 rfl rfl rfl rfl ?_
 refine ld1 rfl T3 S (i := 0) rfl rfl rfl rfl rfl ?_
 refine calg (vs := [_, _]) rfl ⟨⟨_, _, rfl, rfl⟩, ⟨_, _, rfl, rfl⟩, trivial⟩ k126 rfl (fun hG => c126 _ _ _) ?_
 intro w6 B_; have S := S.call B_
 refine pkO rfl rfl rfl rfl rfl rfl ?_
 refine mv1 rfl rfl ?_
 refine fld (o' := 3) rfl fo82_3 rfl rfl rfl rfl ?_
 refine ld1 rfl T3 S (i := 0) rfl rfl rfl rfl rfl ?_
 refine calg (vs := [_, _]) rfl ⟨⟨_, _, rfl, rfl⟩, ⟨_, _, rfl, rfl⟩, trivial⟩ k126 rfl (fun hG => c126 _ _ _) ?_
 intro w7 B_; have S := S.call B_
 refine pkO rfl rfl rfl rfl rfl rfl ?_
 refine mv1 rfl rfl ?_
 refine fld (o' := 4) rfl fo82_4 rfl rfl rfl rfl ?_
 refine ld1 rfl T3 S (i := 0) rfl rfl rfl rfl rfl ?_
 refine calg (vs := [_, _]) rfl ⟨⟨_, _, rfl, rfl⟩, ⟨_, _, rfl, rfl⟩, trivial⟩ k126 rfl (fun hG => c126 _ _ _) ?_
 intro w8 B_; have S := S.call B_
 refine pkO rfl rfl rfl rfl rfl rfl ?_
 refine Ro.nil ?_
 refine Nrm.code ?_
 refine Run.cond rfl (fun hc1 => ?_) (fun hc1 => ?_)
 ·
  refine Run.seq ?_
  refine Run.region ?_
  refine asg1 rfl rfl ?_
  refine Ro.nil ?_
  refine Nrm.code ?_
  refine Run.ret ?_
  refine Rt.one rfl rfl ?_
  exact ⟨by rw [chkT, if_pos (show badT t = true from hc1)], S.bl⟩
 ·
  refine Run.skip ?_
  refine Nrm.code ?_
  refine Run.seq ?_
  refine Run.region ?_
  refine fld (o' := 7) rfl fo82_7 rfl rfl rfl rfl ?_
  refine ld1 rfl T25 S (i := 0) rfl rfl rfl rfl rfl ?_
  refine call (vs := [_]) ⟨⟨_, _, rfl, rfl⟩, trivial⟩ k73 rfl (c73 _ _ _ (hO.now S) hol hoo (hg3.now S)) ?_
  rintro _ w9 ⟨u, rfl, hF⟩
  have S := S.fb hF
  refine mv1 rfl rfl ?_
  refine extr1 rfl rfl rfl ?_
  refine extr1 rfl rfl rfl ?_
  refine asg1 rfl rfl ?_
  refine asg1 rfl rfl ?_
  refine Ro.nil ?_
  refine Nrm.code ?_
  refine Run.seq ?_
  refine Run.seq ?_
  refine Run.region ?_
  refine mv1 rfl rfl ?_
  refine neq1 rfl rfl rfl ?_
  refine Ro.nil ?_
  refine Nrm.code ?_
  refine Run.cond rfl (fun hc4 => ?_) (fun hc4 => ?_)
  ·
   try simp only [Bool.or_eq_true, Bool.and_eq_true, Bool.or_eq_false_iff, Bool.and_eq_false_iff, decide_eq_true_eq, decide_eq_false_iff_not, Bool.not_eq_true', Bool.not_eq_false', Bool.not_eq_true, Bool.not_eq_false] at hc4
   refine Run.seq ?_
   refine Run.region ?_
   refine mv1 rfl rfl ?_
   refine asg1 rfl rfl ?_
   refine Ro.nil ?_
   refine Nrm.code ?_
   refine Run.ret ?_
   refine Rt.one rfl rfl ?_
   exact ⟨by rw [chkT, if_neg (show ¬ badT t = true from by rw [show badT t = false from hc1]; simp), if_pos hc4]; rfl, S.bl⟩
  ·
   try simp only [Bool.or_eq_true, Bool.and_eq_true, Bool.or_eq_false_iff, Bool.and_eq_false_iff, decide_eq_true_eq, decide_eq_false_iff_not, Bool.not_eq_true', Bool.not_eq_false', Bool.not_eq_true, Bool.not_eq_false] at hc4
   refine Run.skip ?_
   refine Nrm.code ?_
   refine Run.seq ?_
   refine Run.seq ?_
   refine Run.region ?_
   refine mv1 rfl rfl ?_
   refine lenS rfl (S.slI (i := 0) rfl) Tryd.underlying26 rfl rfl rfl ?_
   refine add1 rfl rfl rfl (w64 (by omega)) ?_
   refine fld (o' := 8) rfl fo82_8 rfl rfl rfl rfl ?_
   refine ld1 rfl T26 S (i := 1) rfl rfl rfl rfl rfl ?_
   refine lenS rfl hd.2 Tryd.underlying26 rfl rfl rfl ?_
   refine add1 rfl rfl rfl (w64 (by omega)) ?_
   refine gtr1 rfl rfl rfl ?_
   refine Ro.nil ?_
   refine Nrm.code ?_
   refine Run.cond rfl (fun hc6 => ?_) (fun hc6 => ?_)
   ·
    try simp only [Bool.or_eq_true, Bool.and_eq_true, Bool.or_eq_false_iff, Bool.and_eq_false_iff, decide_eq_true_eq, decide_eq_false_iff_not, Bool.not_eq_true', Bool.not_eq_false', Bool.not_eq_true, Bool.not_eq_false] at hc6
    refine Run.seq ?_
    refine Run.region ?_
    refine asg1 rfl rfl ?_
    refine Ro.nil ?_
    refine Nrm.code ?_
    refine Run.ret ?_
    refine Rt.one rfl rfl ?_
    exact ⟨by rw [chkT, if_neg (show ¬ badT t = true from by rw [show badT t = false from hc1]; simp), if_neg (by omega), if_pos (by omega)], S.bl⟩
   ·
    try simp only [Bool.or_eq_true, Bool.and_eq_true, Bool.or_eq_false_iff, Bool.and_eq_false_iff, decide_eq_true_eq, decide_eq_false_iff_not, Bool.not_eq_true', Bool.not_eq_false', Bool.not_eq_true, Bool.not_eq_false] at hc6
    refine Run.skip ?_
    refine Nrm.code ?_
    refine Run.seq ?_
    refine Run.region ?_
    refine asg1 rfl rfl ?_
    refine Ro.nil ?_
    refine Nrm.code ?_
    refine Run.ret ?_
    refine Rt.one rfl rfl ?_
    exact ⟨by rw [chkT, if_neg (show ¬ badT t = true from by rw [show badT t = false from hc1]; simp), if_neg (by omega), if_neg (by omega)], S.bl⟩
set_option maxHeartbeats 1000000 in
theorem c86 (t : Tcp) (o d : Value) (w : World) (hO : OS [] w o t.opts) (hd : BS [] w d t.data) (hol : t.opts.length ≤ 1099511627776) (hoo : ∀ p ∈ t.opts, p.data.length ≤ 1099511627776) (hdl : t.data.length ≤ 1099511627776) :
  CallsD Tryd.prog 86 #[.agg (encTcp t o d).toArray] w (.int .i64 (chkT t)) := by
 refine enter Tryd.func86 rfl Tryd.ntmps86 (l := [(0, [], _)]) rfl rfl ?_
 have S := St.refl [] w
 have hpl := tputL_len t.opts
 refine Run.seq ?_
 refine Run.region ?_
 refine boxA rfl S rfl ?_
 intro b1 w1 hb1 S B_
 refine asg1 rfl rfl ?_
 refine Ro.nil ?_
 refine Nrm.code ?_
 refine Run.seq ?_
 refine Run.seq ?_
 refine Run.region ?_
 refine fld (o' := 0) rfl fo82_0 rfl rfl rfl rfl ?_
 refine ld1 rfl T3 S (i := 0) rfl rfl rfl rfl rfl ?_
 refine calg (vs := [_, _]) rfl ⟨⟨_, _, rfl, rfl⟩, ⟨_, _, rfl, rfl⟩, trivial⟩ k138 rfl (fun hG => c138 _ _ _) ?_
 intro w2 B_; have S := S.call B_
 refine mv1 rfl rfl ?_
 refine fld (o' := 1) rfl fo82_1 rfl rfl rfl rfl ?_
 refine ld1 rfl T3 S (i := 0) rfl rfl rfl rfl rfl ?_
 refine calg (vs := [_, _]) rfl ⟨⟨_, _, rfl, rfl⟩, ⟨_, _, rfl, rfl⟩, trivial⟩ k138 rfl (fun hG => c138 _ _ _) ?_
 intro w3 B_; have S := S.call B_
 refine pkO rfl rfl rfl rfl rfl rfl ?_
 refine mv1 rfl rfl ?_
 refine fld (o' := 5) rfl fo82_5 rfl rfl rfl rfl ?_
 refine ld1 rfl T3 S (i := 0) rfl rfl rfl rfl rfl ?_
 refine calg (vs := [_, _]) rfl ⟨⟨_, _, rfl, rfl⟩, ⟨_, _, rfl, rfl⟩, trivial⟩ k138 rfl (fun hG => c138 _ _ _) ?_
 intro w4 B_; have S := S.call B_
 refine pkO rfl rfl rfl rfl rfl rfl ?_
 refine mv1 rfl rfl ?_
 refine fld (o' := 6) rfl fo82_6 rfl rfl rfl rfl ?_
 refine ld1 rfl T3 S (i := 0) rfl rfl rfl rfl rfl ?_
 refine calg (vs := [_, _]) rfl ⟨⟨_, _, rfl, rfl⟩, ⟨_, _, rfl, rfl⟩, trivial⟩ k138 rfl (fun hG => c138 _ _ _) ?_
 intro w5 B_; have S := S.call B_
 refine pkO rfl rfl rfl rfl rfl rfl ?_
 refine mv1 rfl rfl ?_
 refine fld (o' := 2) rfl fo82_2 rfl rfl rfl rfl ?_
 refine ld1 rfl T3 S (i := 0) rfl rfl rfl rfl rfl ?_
 refine calg (vs := [_, _]) rfl ⟨⟨_, _, rfl, rfl⟩, ⟨_, _, rfl, rfl⟩, trivial⟩ k138 rfl (fun hG => c138 _ _ _) ?_
 intro w6 B_; have S := S.call B_
 refine pkO rfl rfl rfl rfl rfl rfl ?_
 refine mv1 rfl rfl ?_
 refine fld (o' := 3) rfl fo82_3 rfl rfl rfl rfl ?_
 refine ld1 rfl T3 S (i := 0) rfl rfl rfl rfl rfl ?_
 refine calg (vs := [_, _]) rfl ⟨⟨_, _, rfl, rfl⟩, ⟨_, _, rfl, rfl⟩, trivial⟩ k138 rfl (fun hG => c138 _ _ _) ?_
 intro w7 B_; have S := S.call B_
 refine pkO rfl rfl rfl rfl rfl rfl ?_
 refine mv1 rfl rfl ?_
 refine fld (o' := 4) rfl fo82_4 rfl rfl rfl rfl ?_
 refine ld1 rfl T3 S (i := 0) rfl rfl rfl rfl rfl ?_
 refine calg (vs := [_, _]) rfl ⟨⟨_, _, rfl, rfl⟩, ⟨_, _, rfl, rfl⟩, trivial⟩ k138 rfl (fun hG => c138 _ _ _) ?_
 intro w8 B_; have S := S.call B_
 refine pkO rfl rfl rfl rfl rfl rfl ?_
 refine Ro.nil ?_
 refine Nrm.code ?_
 refine Run.cond rfl (fun hc1 => ?_) (fun hc1 => ?_)
 ·
  refine Run.seq ?_
  refine Run.region ?_
  refine asg1 rfl rfl ?_
  refine Ro.nil ?_
  refine Nrm.code ?_
  refine Run.ret ?_
  refine Rt.one rfl rfl ?_
  exact ⟨by rw [chkT, if_pos (show badT t = true from hc1)], S.bl⟩
 ·
  refine Run.skip ?_
  refine Nrm.code ?_
  refine Run.seq ?_
  refine Run.region ?_
  refine fld (o' := 7) rfl fo82_7 rfl rfl rfl rfl ?_
  refine ld1 rfl T25 S (i := 0) rfl rfl rfl rfl rfl ?_
  refine call (vs := [_]) ⟨⟨_, _, rfl, rfl⟩, trivial⟩ k82 rfl (c82 _ _ _ (hO.now S) hol hoo) ?_
  rintro _ w9 ⟨u, rfl, hF⟩
  have S := S.fb hF
  refine mv1 rfl rfl ?_
  refine extr1 rfl rfl rfl ?_
  refine extr1 rfl rfl rfl ?_
  refine asg1 rfl rfl ?_
  refine asg1 rfl rfl ?_
  refine Ro.nil ?_
  refine Nrm.code ?_
  refine Run.seq ?_
  refine Run.seq ?_
  refine Run.region ?_
  refine mv1 rfl rfl ?_
  refine neq1 rfl rfl rfl ?_
  refine Ro.nil ?_
  refine Nrm.code ?_
  refine Run.cond rfl (fun hc4 => ?_) (fun hc4 => ?_)
  ·
   try simp only [Bool.or_eq_true, Bool.and_eq_true, Bool.or_eq_false_iff, Bool.and_eq_false_iff, decide_eq_true_eq, decide_eq_false_iff_not, Bool.not_eq_true', Bool.not_eq_false', Bool.not_eq_true, Bool.not_eq_false] at hc4
   refine Run.seq ?_
   refine Run.region ?_
   refine mv1 rfl rfl ?_
   refine asg1 rfl rfl ?_
   refine Ro.nil ?_
   refine Nrm.code ?_
   refine Run.ret ?_
   refine Rt.one rfl rfl ?_
   exact ⟨by rw [chkT, if_neg (show ¬ badT t = true from by rw [show badT t = false from hc1]; simp), if_pos hc4]; rfl, S.bl⟩
  ·
   try simp only [Bool.or_eq_true, Bool.and_eq_true, Bool.or_eq_false_iff, Bool.and_eq_false_iff, decide_eq_true_eq, decide_eq_false_iff_not, Bool.not_eq_true', Bool.not_eq_false', Bool.not_eq_true, Bool.not_eq_false] at hc4
   refine Run.skip ?_
   refine Nrm.code ?_
   refine Run.seq ?_
   refine Run.seq ?_
   refine Run.region ?_
   refine mv1 rfl rfl ?_
   refine lenS rfl (S.slI (i := 0) rfl) Tryd.underlying26 rfl rfl rfl ?_
   refine add1 rfl rfl rfl (w64 (by omega)) ?_
   refine fld (o' := 8) rfl fo82_8 rfl rfl rfl rfl ?_
   refine ld1 rfl T26 S (i := 1) rfl rfl rfl rfl rfl ?_
   refine lenS rfl hd.2 Tryd.underlying26 rfl rfl rfl ?_
   refine add1 rfl rfl rfl (w64 (by omega)) ?_
   refine gtr1 rfl rfl rfl ?_
   refine Ro.nil ?_
   refine Nrm.code ?_
   refine Run.cond rfl (fun hc6 => ?_) (fun hc6 => ?_)
   ·
    try simp only [Bool.or_eq_true, Bool.and_eq_true, Bool.or_eq_false_iff, Bool.and_eq_false_iff, decide_eq_true_eq, decide_eq_false_iff_not, Bool.not_eq_true', Bool.not_eq_false', Bool.not_eq_true, Bool.not_eq_false] at hc6
    refine Run.seq ?_
    refine Run.region ?_
    refine asg1 rfl rfl ?_
    refine Ro.nil ?_
    refine Nrm.code ?_
    refine Run.ret ?_
    refine Rt.one rfl rfl ?_
    exact ⟨by rw [chkT, if_neg (show ¬ badT t = true from by rw [show badT t = false from hc1]; simp), if_neg (by omega), if_pos (by omega)], S.bl⟩
   ·
    try simp only [Bool.or_eq_true, Bool.and_eq_true, Bool.or_eq_false_iff, Bool.and_eq_false_iff, decide_eq_true_eq, decide_eq_false_iff_not, Bool.not_eq_true', Bool.not_eq_false', Bool.not_eq_true, Bool.not_eq_false] at hc6
    refine Run.skip ?_
    refine Nrm.code ?_
    refine Run.seq ?_
    refine Run.region ?_
    refine asg1 rfl rfl ?_
    refine Ro.nil ?_
    refine Nrm.code ?_
    refine Run.ret ?_
    refine Rt.one rfl rfl ?_
    exact ⟨by rw [chkT, if_neg (show ¬ badT t = true from by rw [show badT t = false from hc1]; simp), if_neg (by omega), if_neg (by omega)], S.bl⟩
set_option maxHeartbeats 1000000 in
theorem c63 (a b : Tcp) (o1 d1 o2 d2 : Value) (w : World) (hO : OS [] w o1 a.opts) (hd : BS [] w d1 a.data) (hP : OS [] w o2 b.opts) (he : BS [] w d2 b.data) (hl : a.opts.length ≤ 1099511627776) :
  CallsD Tryd.prog 63 #[.agg (encTcp a o1 d1).toArray, .agg (encTcp b o2 d2).toArray] w (.bool (sameT a b)) := by
 refine enter Tryd.func63 rfl Tryd.ntmps63 (l := [(0, [], _), (1, [], _)]) rfl rfl ?_
 have S := St.refl [] w
 refine Run.seq ?_
 refine Run.region ?_
 refine boxA rfl S rfl ?_
 intro b2 w1 hb2 S B_
 refine boxA rfl S rfl ?_
 intro b3 w2 hb3 S B_
 refine asg1 rfl rfl ?_
 refine Ro.nil ?_
 refine Nrm.code ?_
 refine Run.seq ?_
 refine Run.seq ?_
 refine Run.region ?_
 refine fld (o' := 0) rfl fo82_0 rfl rfl rfl rfl ?_
 refine ld1 rfl T3 S (i := 1) rfl rfl rfl rfl rfl ?_
 refine fld (o' := 0) rfl fo82_0 rfl rfl rfl rfl ?_
 refine ld1 rfl T3 S (i := 0) rfl rfl rfl rfl rfl ?_
 refine neq1 rfl rfl rfl ?_
 refine mv1 rfl rfl ?_
 refine fld (o' := 1) rfl fo82_1 rfl rfl rfl rfl ?_
 refine ld1 rfl T3 S (i := 1) rfl rfl rfl rfl rfl ?_
 refine fld (o' := 1) rfl fo82_1 rfl rfl rfl rfl ?_
 refine ld1 rfl T3 S (i := 0) rfl rfl rfl rfl rfl ?_
 refine neq rfl rfl rfl rfl rfl rfl ?_
 refine pkO rfl rfl rfl rfl rfl rfl ?_
 refine mv1 rfl rfl ?_
 refine fld (o' := 2) rfl fo82_2 rfl rfl rfl rfl ?_
 refine ld1 rfl T3 S (i := 1) rfl rfl rfl rfl rfl ?_
 refine fld (o' := 2) rfl fo82_2 rfl rfl rfl rfl ?_
 refine ld1 rfl T3 S (i := 0) rfl rfl rfl rfl rfl ?_
 refine neq rfl rfl rfl rfl rfl rfl ?_
 refine pkO rfl rfl rfl rfl rfl rfl ?_
 refine mv1 rfl rfl ?_
 refine fld (o' := 3) rfl fo82_3 rfl rfl rfl rfl ?_
 refine ld1 rfl T3 S (i := 1) rfl rfl rfl rfl rfl ?_
 refine fld (o' := 3) rfl fo82_3 rfl rfl rfl rfl ?_
 refine ld1 rfl T3 S (i := 0) rfl rfl rfl rfl rfl ?_
 refine neq rfl rfl rfl rfl rfl rfl ?_
 refine pkO rfl rfl rfl rfl rfl rfl ?_
 refine mv1 rfl rfl ?_
 refine fld (o' := 4) rfl fo82_4 rfl rfl rfl rfl ?_
 refine ld1 rfl T3 S (i := 1) rfl rfl rfl rfl rfl ?_
 refine fld (o' := 4) rfl fo82_4 rfl rfl rfl rfl ?_
 refine ld1 rfl T3 S (i := 0) rfl rfl rfl rfl rfl ?_
 refine neq rfl rfl rfl rfl rfl rfl ?_
 refine pkO rfl rfl rfl rfl rfl rfl ?_
 refine mv1 rfl rfl ?_
 refine fld (o' := 5) rfl fo82_5 rfl rfl rfl rfl ?_
 refine ld1 rfl T3 S (i := 1) rfl rfl rfl rfl rfl ?_
 refine fld (o' := 5) rfl fo82_5 rfl rfl rfl rfl ?_
 refine ld1 rfl T3 S (i := 0) rfl rfl rfl rfl rfl ?_
 refine neq rfl rfl rfl rfl rfl rfl ?_
 refine pkO rfl rfl rfl rfl rfl rfl ?_
 refine mv1 rfl rfl ?_
 refine fld (o' := 6) rfl fo82_6 rfl rfl rfl rfl ?_
 refine ld1 rfl T3 S (i := 1) rfl rfl rfl rfl rfl ?_
 refine fld (o' := 6) rfl fo82_6 rfl rfl rfl rfl ?_
 refine ld1 rfl T3 S (i := 0) rfl rfl rfl rfl rfl ?_
 refine neq rfl rfl rfl rfl rfl rfl ?_
 refine pkO rfl rfl rfl rfl rfl rfl ?_
 refine Ro.nil ?_
 refine Nrm.code ?_
 refine Run.cond rfl (fun hc1 => ?_) (fun hc1 => ?_)
 ·
  refine Run.seq ?_
  refine Run.region ?_
  refine asg1 rfl rfl ?_
  refine Ro.nil ?_
  refine Nrm.code ?_
  refine Run.ret ?_
  refine Rt.one rfl rfl ?_
  exact ⟨by rw [sameT, show diffT a b = true from hc1]; rfl, S.bl⟩
 ·
  refine Run.skip ?_
  refine Nrm.code ?_
  refine Run.seq ?_
  refine Run.region ?_
  refine fld (o' := 7) rfl fo82_7 rfl rfl rfl rfl ?_
  refine ld1 rfl T25 S (i := 1) rfl rfl rfl rfl rfl ?_
  refine fld (o' := 7) rfl fo82_7 rfl rfl rfl rfl ?_
  refine ld1 rfl T25 S (i := 0) rfl rfl rfl rfl rfl ?_
  refine calg (vs := [_, _]) rfl ⟨⟨_, _, rfl, rfl⟩, ⟨_, _, rfl, rfl⟩, trivial⟩ k46 rfl (fun hG => c46 _ _ _ _ _ (hO.now S) (hP.now S) (by omega)) ?_
  intro w3 B_; have S := S.call B_
  refine mv1 rfl rfl ?_
  refine fld (o' := 8) rfl fo82_8 rfl rfl rfl rfl ?_
  refine ld1 rfl T26 S (i := 1) rfl rfl rfl rfl rfl ?_
  refine fld (o' := 8) rfl fo82_8 rfl rfl rfl rfl ?_
  refine ld1 rfl T26 S (i := 0) rfl rfl rfl rfl rfl ?_
  refine calg (vs := [_, _]) rfl ⟨⟨_, _, rfl, rfl⟩, ⟨_, _, rfl, rfl⟩, trivial⟩ k37 rfl (fun hG => c37 _ _ _ _ _ (hd.now S) (he.now S)) ?_
  intro w4 B_; have S := S.call B_
  refine pkA rfl rfl rfl rfl rfl rfl ?_
  refine asg1 rfl rfl ?_
  refine Ro.nil ?_
  refine Nrm.code ?_
  refine Run.ret ?_
  refine Rt.one rfl rfl ?_
  exact ⟨by rw [sameT, show diffT a b = false from hc1]; rfl, S.bl⟩
set_option maxHeartbeats 1000000 in
theorem c70 (t : Tcp) (o d : Value) (w : World) (hO : OS [] w o t.opts) (hd : BS [] w d t.data) (hol : t.opts.length ≤ 1099511627776) (hoo : ∀ p ∈ t.opts, p.data.length ≤ 1099511627776) (hdl : t.data.length ≤ 1099511627776) :
  CallsD Tryd.prog 70 #[.agg (encTcp t o d).toArray] w (.tuple #[.int .i64 (mssF t.opts).1, .bool (mssF t.opts).2]) := by
 refine enter Tryd.func70 rfl Tryd.ntmps70 (l := [(0, [], _)]) rfl rfl ?_
 have S := St.refl [] w
 obtain ⟨ds, hOS, hOB⟩ := id hO
 refine Run.seq ?_
 refine Run.region ?_
 refine boxA rfl S rfl ?_
 intro b1 w1 hb1 S B_
 refine asg1 rfl rfl ?_
 refine asg1 rfl rfl ?_
 refine Ro.nil ?_
 refine Nrm.code ?_
 refine Run.seq ?_
 refine Run.seq ?_
 refine Run.region ?_
 refine fld (o' := 7) rfl fo82_7 rfl rfl rfl rfl ?_
 refine ld1 rfl T25 S (i := 0) rfl rfl rfl rfl rfl ?_
 refine lenS rfl hOS Tryd.underlying25 rfl rfl rfl ?_
 refine mv1 rfl rfl ?_
 refine Ro.nil ?_
 refine Nrm.code ?_
 refine Run.block ?_
 refine Run.loop1 (fun (i : Nat) w_ => i ≤ t.opts.length ∧ mssF t.opts = mssF (t.opts.drop i) ∧ St [] w [] w_) (fun (i : Nat) => [(9, [], o), (10, [], .int .i64 t.opts.length), (11, [], .int .i64 i)]) (fun (i : Nat) => t.opts.length - i) (0) ⟨Nat.zero_le _, rfl, (S.pick [false] rfl)⟩ ⟨rfl, rfl, rfl, trivial⟩ ?_
 rintro i w2 ⟨hi, hm, S⟩
 refine Run.seq ?_
 refine Run.region ?_
 refine lss1 rfl rfl rfl ?_
 refine Ro.nil ?_
 refine Nrm.code ?_
 refine Run.seq ?_
 refine Run.cond rfl (fun hc2 => ?_) (fun hc2 => ?_)
 ·
  try simp only [Bool.or_eq_true, Bool.and_eq_true, Bool.or_eq_false_iff, Bool.and_eq_false_iff, decide_eq_true_eq, decide_eq_false_iff_not, Bool.not_eq_true', Bool.not_eq_false', Bool.not_eq_true, Bool.not_eq_false] at hc2
  refine Run.skip ?_
  refine Nrm.code ?_
  refine Run.seq ?_
  refine Run.block ?_
  refine Run.seq ?_
  refine Run.region ?_
  obtain ⟨p1, hp1, hb1⟩ := hOB.at (i := i) (by omega)
  refine ixa rfl rfl hOS e25 rfl rfl rfl rfl (fun _ => by first | omega | (simp only [List.length_cons, List.length_nil]; omega)) ?_
  refine ldEA rfl hOS S T93 rfl rfl rfl (by decide) rfl (fun _ => hOB.two (by omega) hp1) ?_
  refine alc T93 S rfl ?_
  intro b5 w3 hb5 S B_
  refine stW rfl rfl T93 rfl rfl (one_cons rfl (one_cons hb1.one one_nil)) S (i := 0) rfl rfl ?_
  intro w4 S
  refine Ro.nil ?_
  refine Nrm.code ?_
  refine Run.seq ?_
  refine Run.region ?_
  refine ldW rfl T93 S (i := 0) rfl rfl rfl rfl rfl ?_
  refine calg (vs := [_]) rfl ⟨⟨_, _, rfl, rfl⟩, trivial⟩ k128 rfl (fun hG => c128 _ _ _ (hb1.now S)) ?_
  intro w5 B_; have S := S.call B_
  refine mv1 rfl rfl ?_
  refine extr1 rfl rfl rfl ?_
  refine extr1 rfl rfl rfl ?_
  refine asg1 rfl rfl ?_
  refine asg1 rfl rfl ?_
  refine Ro.nil ?_
  refine Nrm.code ?_
  refine Run.seq ?_
  refine Run.region ?_
  refine mv1 rfl rfl ?_
  refine Ro.nil ?_
  refine Nrm.code ?_
  refine Run.cond rfl (fun hc5 => ?_) (fun hc5 => ?_)
  ·
   try simp only [Bool.or_eq_true, Bool.and_eq_true, Bool.or_eq_false_iff, Bool.and_eq_false_iff, decide_eq_true_eq, decide_eq_false_iff_not, Bool.not_eq_true', Bool.not_eq_false', Bool.not_eq_true, Bool.not_eq_false] at hc5
   refine Run.seq ?_
   refine Run.region ?_
   refine mv1 rfl rfl ?_
   refine asg1 rfl rfl ?_
   refine asg1 rfl rfl ?_
   refine Ro.nil ?_
   refine Nrm.code ?_
   refine Run.ret ?_
   refine Rt.two rfl rfl rfl ?_
   exact ⟨by rw [hm, mssF_at (by omega), if_pos hc5]; rfl, S.bl⟩
  ·
   try simp only [Bool.or_eq_true, Bool.and_eq_true, Bool.or_eq_false_iff, Bool.and_eq_false_iff, decide_eq_true_eq, decide_eq_false_iff_not, Bool.not_eq_true', Bool.not_eq_false', Bool.not_eq_true, Bool.not_eq_false] at hc5
   refine Run.skip ?_
   refine Nrm.blk ?_
   refine Nrm.code ?_
   refine Run.region ?_
   refine add1 rfl rfl rfl (w64 (by omega)) ?_
   refine mv1 rfl rfl ?_
   refine Ro.nil ?_
   refine Nrm.loop1 (i + 1) ⟨by omega, by rw [hm, mssF_at (by omega), if_neg (by simpa using hc5)], S.drop0⟩ (by omega) ⟨rfl, rfl, rfl, trivial⟩
 ·
  try simp only [Bool.or_eq_true, Bool.and_eq_true, Bool.or_eq_false_iff, Bool.and_eq_false_iff, decide_eq_true_eq, decide_eq_false_iff_not, Bool.not_eq_true', Bool.not_eq_false', Bool.not_eq_true, Bool.not_eq_false] at hc2
  refine Run.exit ?_
  refine Lv.code ?_
  refine Lv.back ?_
  refine Lv.hit ?_
  refine Nrm.code ?_
  refine Run.seq ?_
  refine Run.region ?_
  refine asg1 rfl rfl ?_
  refine asg1 rfl rfl ?_
  refine Ro.nil ?_
  refine Nrm.code ?_
  refine Run.ret ?_
  refine Rt.two rfl rfl rfl ?_
  exact ⟨by rw [hm, mssF_end (by omega)], S.bl⟩
set_option maxHeartbeats 1000000 in
theorem c84 (t : Tcp) (o d : Value) (w : World) (hO : OS [] w o t.opts) (hd : BS [] w d t.data) (hol : t.opts.length ≤ 1099511627776) (hoo : ∀ p ∈ t.opts, p.data.length ≤ 1099511627776) (hdl : t.data.length ≤ 1099511627776) :
  CallsD Tryd.prog 84 #[.agg (encTcp t o d).toArray] w (.tuple #[.int .i64 (mssF t.opts).1, .bool (mssF t.opts).2]) := by
 refine enter Tryd.func84 rfl Tryd.ntmps84 (l := [(0, [], _)]) rfl rfl ?_
 have S := St.refl [] w
 obtain ⟨ds, hOS, hOB⟩ := id hO
 refine Run.seq ?_
 refine Run.region ?_
 refine boxA rfl S rfl ?_
 intro b1 w1 hb1 S B_
 refine asg1 rfl rfl ?_
 refine asg1 rfl rfl ?_
 refine Ro.nil ?_
 refine Nrm.code ?_
 refine Run.seq ?_
 refine Run.seq ?_
 refine Run.region ?_
 refine asg1 rfl rfl ?_
 refine Ro.nil ?_
 refine Nrm.code ?_
 refine Run.block ?_
 refine Run.loop1 (fun (i : Nat) w_ => i ≤ t.opts.length ∧ mssF t.opts = mssF (t.opts.drop i) ∧ St [] w [.var b1 82 (encTcp t o d)] w_) (fun (i : Nat) => [(1, [], .pointer (some ⟨b1, 0, none⟩)), (4, [], .int .i64 i)]) (fun (i : Nat) => t.opts.length - i) (0) ⟨Nat.zero_le _, rfl, S⟩ ⟨rfl, rfl, trivial⟩ ?_
 rintro i w2 ⟨hi, hm, S⟩
 refine Run.seq ?_
 refine Run.seq ?_
 refine Run.region ?_
 refine mv1 rfl rfl ?_
 refine fld (o' := 7) rfl fo82_7 rfl rfl rfl rfl ?_
 refine ld1 rfl T25 S (i := 0) rfl rfl rfl rfl rfl ?_
 refine lenS rfl hOS Tryd.underlying25 rfl rfl rfl ?_
 refine lss1 rfl rfl rfl ?_
 refine Ro.nil ?_
 refine Nrm.code ?_
 refine Run.cond rfl (fun hc2 => ?_) (fun hc2 => ?_)
 ·
  try simp only [Bool.or_eq_true, Bool.and_eq_true, Bool.or_eq_false_iff, Bool.and_eq_false_iff, decide_eq_true_eq, decide_eq_false_iff_not, Bool.not_eq_true', Bool.not_eq_false', Bool.not_eq_true, Bool.not_eq_false] at hc2
  refine Run.skip ?_
  refine Nrm.code ?_
  refine Run.seq ?_
  refine Run.block ?_
  refine Run.seq ?_
  refine Run.region ?_
  obtain ⟨p1, hp1, hb1⟩ := hOB.at (i := i) (by omega)
  refine fld (o' := 7) rfl fo82_7 rfl rfl rfl rfl ?_
  refine ld1 rfl T25 S (i := 0) rfl rfl rfl rfl rfl ?_
  refine mv1 rfl rfl ?_
  refine ixa rfl rfl hOS e25 rfl rfl rfl rfl (fun _ => by first | omega | (simp only [List.length_cons, List.length_nil]; omega)) ?_
  refine ldEA rfl hOS S T93 rfl rfl rfl (by decide) rfl (fun _ => hOB.two (by omega) hp1) ?_
  refine calg (vs := [_]) rfl ⟨⟨_, _, rfl, rfl⟩, trivial⟩ k137 rfl (fun hG => c137 _ _ _ (hb1.now S)) ?_
  intro w3 B_; have S := S.call B_
  refine asg1 rfl rfl ?_
  refine Ro.nil ?_
  refine Nrm.code ?_
  refine Run.seq ?_
  refine Run.region ?_
  refine mv1 rfl rfl ?_
  refine Ro.nil ?_
  refine Nrm.code ?_
  refine Run.cond rfl (fun hc5 => ?_) (fun hc5 => ?_)
  ·
   try simp only [Bool.or_eq_true, Bool.and_eq_true, Bool.or_eq_false_iff, Bool.and_eq_false_iff, decide_eq_true_eq, decide_eq_false_iff_not, Bool.not_eq_true', Bool.not_eq_false', Bool.not_eq_true, Bool.not_eq_false] at hc5
   refine Run.seq ?_
   refine Run.region ?_
   refine fld (o' := 7) rfl fo82_7 rfl rfl rfl rfl ?_
   refine ld1 rfl T25 S (i := 0) rfl rfl rfl rfl rfl ?_
   refine mv1 rfl rfl ?_
   refine ixa rfl rfl hOS e25 rfl rfl rfl rfl (fun _ => by first | omega | (simp only [List.length_cons, List.length_nil]; omega)) ?_
   refine flE rfl hOS fo93_1 rfl rfl rfl (fun _ => hOB.lt (by omega)) ?_
   refine ldE rfl hOS S T26 rfl rfl rfl (fun _ => hOB.k1 (by omega) hp1) ?_
   refine calg (vs := [_, _, _]) rfl ⟨⟨_, _, rfl, rfl⟩, ⟨_, _, rfl, rfl⟩, ⟨_, _, rfl, rfl⟩, trivial⟩ k131 rfl (fun hG => (by have ht := told_len hc5; have := c131 _ (t.opts.getD i o0).data 0 2 _ (hb1.now S) (by omega) (by decide) (by omega); rw [numN_2] at this; exact this)) ?_
   intro w4 B_; have S := S.call B_
   refine asg1 rfl rfl ?_
   refine asg1 rfl rfl ?_
   refine Ro.nil ?_
   refine Nrm.code ?_
   refine Run.ret ?_
   refine Rt.two rfl rfl rfl ?_
   exact ⟨by rw [hm, mssF_at (by omega), if_pos hc5, toldN, if_pos hc5], S.bl⟩
  ·
   try simp only [Bool.or_eq_true, Bool.and_eq_true, Bool.or_eq_false_iff, Bool.and_eq_false_iff, decide_eq_true_eq, decide_eq_false_iff_not, Bool.not_eq_true', Bool.not_eq_false', Bool.not_eq_true, Bool.not_eq_false] at hc5
   refine Run.skip ?_
   refine Nrm.blk ?_
   refine Nrm.code ?_
   refine Run.region ?_
   refine mv1 rfl rfl ?_
   refine add1 rfl rfl rfl (w64 (by omega)) ?_
   refine asg1 rfl rfl ?_
   refine Ro.nil ?_
   refine Nrm.loop1 (i + 1) ⟨by omega, by rw [hm, mssF_at (by omega), if_neg (by simpa using hc5)], S⟩ (by omega) ⟨rfl, rfl, trivial⟩
 ·
  try simp only [Bool.or_eq_true, Bool.and_eq_true, Bool.or_eq_false_iff, Bool.and_eq_false_iff, decide_eq_true_eq, decide_eq_false_iff_not, Bool.not_eq_true', Bool.not_eq_false', Bool.not_eq_true, Bool.not_eq_false] at hc2
  refine Run.exit ?_
  refine Lv.code ?_
  refine Lv.back ?_
  refine Lv.hit ?_
  refine Nrm.code ?_
  refine Run.seq ?_
  refine Run.region ?_
  refine asg1 rfl rfl ?_
  refine asg1 rfl rfl ?_
  refine Ro.nil ?_
  refine Nrm.code ?_
  refine Run.ret ?_
  refine Rt.two rfl rfl rfl ?_
  exact ⟨by rw [hm, mssF_end (by omega)], S.bl⟩
end Go.Proofs.YtkahmepenjhcpaaDoor.W
/- Contracts: canonical bytes. No statement of the seat is proved here. -/
namespace Go.Proofs.YtkahmepenjhcpaaDoor.W
open Go
set_option linter.unusedSimpArgs false
set_option linter.unusedVariables false
theorem OSs.now {N0 : List Nat} {w0 w : World} {L : List Own} {vs : List Value} {os : List Opt} (h : OSs N0 w0 vs os) (S : St N0 w0 L w) : OSs [] w vs os := (BSs.st S h).weak (by simp)
theorem optsG_len : ∀ (n : Nat) (b : List Int), b.length ≤ n → ∀ l, optsG b = some l → l.length ≤ b.length ∧ ∀ o ∈ l, o.data.length ≤ b.length := by
  intro n
  induction n with
  | zero =>
    intro b hb l h
    have : b = [] := List.length_eq_zero_iff.1 (by omega)
    subst this
    rw [optsG] at h; simp at h; subst h; simp
  | succ n ih =>
    intro b hb l h
    match b with
    | [] => rw [optsG] at h; simp at h; subst h; simp
    | [k] =>
      rw [optsG] at h
      split at h
      · simp at h; subst h; simp
      · simp at h
    | k :: m :: r =>
      rw [optsG] at h
      split at h
      · simp at h; subst h; simp
      · split at h
        · have := ih (m :: r) (by simp at hb ⊢; omega) l h
          simp only [List.length_cons] at this ⊢
          exact ⟨by omega, fun o ho => by have := this.2 o ho; omega⟩
        · split at h
          · simp at h
          · cases hg : optsG (r.drop (m.toNat - 2)) with
            | none => rw [hg] at h; simp at h
            | some l' =>
              rw [hg] at h
              simp only [Option.map_some, Option.some.injEq] at h
              subst h
              have := ih (r.drop (m.toNat - 2)) (by simp at hb ⊢; omega) l' hg
              simp only [List.length_cons, List.length_drop] at this ⊢
              refine ⟨by omega, ?_⟩
              intro o ho
              rcases List.mem_cons.1 ho with e | e
              · rw [e]; simp only [List.length_take]; omega
              · have := this.2 o e; omega
theorem optL_len (b : List Int) : (optL b).length ≤ 40 ∧ ∀ o ∈ optL b, o.data.length ≤ 40 := by
  unfold optL
  split
  · simp
  · cases hg : optsG b with
    | none => simp
    | some l =>
      have := optsG_len b.length b (Nat.le_refl _) l hg
      simp only [Option.getD_some]
      exact ⟨by omega, fun o ho => by have := this.2 o ho; omega⟩
theorem ip4of_ok {a b c d : Int} (ha : 0 ≤ a ∧ a < 256) (hb : 0 ≤ b ∧ b < 256) (hc : 0 ≤ c ∧ c < 256) (hd : 0 ≤ d ∧ d < 256) : (ip4of a b c d).ok := by
  refine ⟨fun i _ => ?_, by simp [ip4of]⟩
  simp only [ip4of]
  (repeat' split) <;> omega
theorem ipOf_ok {b : List Int} (h : byt b) (i : Nat) : (ipOf b i).ok := ip4of_ok (byt_getD h _) (byt_getD h _) (byt_getD h _) (byt_getD h _)
theorem ip0_ok : ip0.ok := ⟨fun _ _ => by simp [ip0], by simp [ip0]⟩
theorem parH_ok {b : List Int} (h : byt b) : (parH b).src.ok ∧ (parH b).dst.ok ∧ (parH b).opts.length ≤ 40 ∧ (∀ o ∈ (parH b).opts, o.data.length ≤ 40) ∧ (parH b).data.length ≤ b.length := by
  unfold parH
  split
  · have hl := optL_len (optB4 b)
    exact ⟨ipOf_ok h 12, ipOf_ok h 16, hl.1, hl.2, by simp only [parG, List.length_take, List.length_drop]; omega⟩
  · exact ⟨ip0_ok, ip0_ok, by simp [h00], by simp [h00], by simp [h00]⟩
theorem byt_set' {l : List Int} (h : byt l) {i : Nat} {x : Int} (hx : 0 ≤ x ∧ x < 256) : byt (l.set i x) := byt_set h _ hx
theorem serL_byt {h : Ip4} (h1 : h.src.ok) (h2 : h.dst.ok) (hd : ∀ o ∈ h.opts, W.byt o.data) (hb : W.byt h.data) : byt (serL h) := by
  unfold serL
  split
  · rename_i hc
    have hX := headB_byt hc h1 h2 hd
    have hs := sumC_bd hX
    exact byt_app (byt_set' (byt_set' hX (by omega)) (by omega)) hb
  · intro x hx; simp at hx
theorem parE_len {b : List Int} (h : parE b = 0) : b.length ≤ 65535 := by
  rcases Nat.lt_or_ge 65535 b.length with h1 | h1
  · unfold parE at h; rw [if_pos h1] at h; omega
  · exact h1
def canB (b : List Int) : Bool := decide (parE b = 0) && (decide (chkE (parH b) = 0) && decide (b = serL (parH b)))
set_option maxHeartbeats 1000000 in
theorem c35 (v : Value) (b : List Int) (w : World) (hb : BS [] w v b) (hg : GV [] w 0 130 (W4.map i64)) :
  CallsD Tryd.prog 35 #[v] w (.bool (canB b)) := by
 refine enter Tryd.func35 rfl Tryd.ntmps35 (l := [(0, [], _)]) rfl rfl ?_
 have S := St.refl [] w
 have hpk := parH_ok hb.1
 refine Run.seq ?_
 refine Run.region ?_
 refine asg1 rfl rfl ?_
 refine Ro.nil ?_
 refine Nrm.code ?_
 refine Run.seq ?_
 refine Run.region ?_
 refine mv1 rfl rfl ?_
 refine call (vs := [_]) ⟨⟨_, _, rfl, rfl⟩, trivial⟩ k33 rfl (c33 _ _ _ (hb.now S) (hg.now S)) ?_
 rintro _ w1 ⟨o, d, vs, rfl, hF, hwp⟩
 have S := S.fo hF
 have hdp := (hwp _ _ hb).2
 have hop := (hwp _ _ hb).1
 refine mv1 rfl rfl ?_
 refine extr1 rfl rfl rfl ?_
 refine extr1 rfl rfl rfl ?_
 refine alc T28 S rfl ?_
 intro b3 w2 hb3 S B_
 refine stW rfl rfl T28 rfl rfl (one_cons rfl (one_cons rfl (one_cons rfl (one_cons rfl (one_cons rfl (one_cons rfl (one_cons rfl (one_cons rfl (one_cons rfl (one_cons rfl (one_cons rfl (one_cons rfl (one_cons rfl (one_cons rfl (one_cons rfl (one_cons rfl (one_cons rfl (one_cons rfl (one_cons rfl (one_cons rfl (one_cons rfl (one_cons rfl (one_cons rfl (one_cons rfl (one_cons rfl (one_cons rfl (one_cons rfl (one_cons rfl (one_cons rfl (one_cons rfl (one_cons rfl (one_cons rfl (one_cons rfl (one_cons rfl (one_cons rfl (one_cons rfl (one_cons rfl (one_cons rfl (one_cons rfl (one_cons rfl (one_cons rfl (one_cons (S.slI (i := 1) rfl).one (one_cons hdp.one one_nil))))))))))))))))))))))))))))))))))))))))))) S (i := 0) rfl rfl ?_
 intro w3 S
 refine asg1 rfl rfl ?_
 refine Ro.nil ?_
 refine Nrm.code ?_
 refine Run.seq ?_
 refine Run.seq ?_
 refine Run.region ?_
 refine mv1 rfl rfl ?_
 refine neq1 rfl rfl rfl ?_
 refine Ro.nil ?_
 refine Nrm.code ?_
 refine Run.cond rfl (fun hc2 => ?_) (fun hc2 => ?_)
 ·
  try simp only [Bool.or_eq_true, Bool.and_eq_true, Bool.or_eq_false_iff, Bool.and_eq_false_iff, decide_eq_true_eq, decide_eq_false_iff_not, Bool.not_eq_true', Bool.not_eq_false', Bool.not_eq_true, Bool.not_eq_false] at hc2
  refine Run.seq ?_
  refine Run.region ?_
  refine asg1 rfl rfl ?_
  refine Ro.nil ?_
  refine Nrm.code ?_
  refine Run.ret ?_
  refine Rt.one rfl rfl ?_
  exact ⟨by rw [canB, decide_eq_false hc2]; rfl, S.bl⟩
 ·
  try simp only [Bool.or_eq_true, Bool.and_eq_true, Bool.or_eq_false_iff, Bool.and_eq_false_iff, decide_eq_true_eq, decide_eq_false_iff_not, Bool.not_eq_true', Bool.not_eq_false', Bool.not_eq_true, Bool.not_eq_false] at hc2
  replace hc2 : parE b = 0 := by omega
  have hbl := parE_len hc2
  have hodt : ∀ o ∈ (parH b).opts, byt o.data := fun o ho => BSs.byts hop _ (List.mem_map_of_mem ho)
  have hby_u5 := serL_byt hpk.1 hpk.2.1 hodt hdp.1
  refine Run.skip ?_
  refine Nrm.code ?_
  refine Run.seq ?_
  refine Run.region ?_
  refine ldW rfl T28 S (i := 0) rfl rfl rfl rfl rfl ?_
  refine call (vs := [_]) ⟨⟨_, _, rfl, rfl⟩, trivial⟩ k30 rfl (c30 _ _ _ _ (S.osI (i := 1) rfl (hop.now S)) (hdp.now S) (by omega) (by omega) hpk.1 hpk.2.1 (hg.now S)) ?_
  rintro _ w4 ⟨u5, rfl, hF⟩
  have S := S.fb hF
  refine mv1 rfl rfl ?_
  refine extr1 rfl rfl rfl ?_
  refine extr1 rfl rfl rfl ?_
  refine asg1 rfl rfl ?_
  refine asg1 rfl rfl ?_
  refine Ro.nil ?_
  refine Nrm.code ?_
  refine Run.seq ?_
  refine Run.region ?_
  refine mv1 rfl rfl ?_
  refine eql1 rfl rfl rfl ?_
  refine mv1 rfl rfl ?_
  refine mv rfl rfl rfl rfl ?_
  refine mv rfl rfl rfl rfl ?_
  refine calg (vs := [_, _]) rfl ⟨⟨_, _, rfl, rfl⟩, ⟨_, _, rfl, rfl⟩, trivial⟩ k104 rfl (fun hG => c104 _ _ _ _ _ (hb.now S) (S.bsI (i := 0) rfl hby_u5)) ?_
  intro w5 B_; have S := S.call B_
  refine pkA rfl rfl rfl rfl rfl rfl ?_
  refine asg1 rfl rfl ?_
  refine Ro.nil ?_
  refine Nrm.code ?_
  refine Run.ret ?_
  refine Rt.one rfl rfl ?_
  exact ⟨by rw [canB, hc2]; rfl, S.bl⟩
end Go.Proofs.YtkahmepenjhcpaaDoor.W
/- Contracts: segments read. No statement of the seat is proved here. -/
namespace Go.Proofs.YtkahmepenjhcpaaDoor.W
open Go
set_option linter.unusedSimpArgs false
set_option linter.unusedVariables false
abbrev W10 : List Int := [16, 16, 32, 32, 4, 4, 8, 16, 16, 16]
theorem fv32 {l : List Int} (j : Nat) (h : ∀ k, 0 ≤ l.getD k 0 ∧ l.getD k 0 < 256) : fv l (8 * j) 32 = numN l j 4 := by
  have e := fv_add l (8 * j) 16 16
  rw [show (16 + 16 : Nat) = 32 from rfl, fv16 j h, show 8 * j + 16 = 8 * (j + 2) from by omega, fv16 (j + 2) h, show j + 2 + 1 = j + 3 from rfl] at e
  rw [e]
  simp only [numN, Int.reducePow, Nat.add_zero]
  omega
def tcpH (b : List Int) : Nat := (4 * (b.getD 12 0 / 16)).toNat
def tcpO (b : List Int) : List Int := (b.drop 20).take (tcpH b - 20)
theorem fields_tcp {b : List Int} (h : ∀ k, 0 ≤ b.getD k 0 ∧ b.getD k 0 < 256) : fieldsS b 0 W10 =
    [wd2 b 0, wd2 b 2, numN b 4 4, numN b 8 4, b.getD 12 0 / 16, b.getD 12 0 % 16, b.getD 13 0, wd2 b 14, wd2 b 16, wd2 b 18] := by
  have e0 := fv16 (l := b) 0 h
  have e1 := fv16 (l := b) 2 h
  have e2 := fv32 (l := b) 4 h
  have e3 := fv32 (l := b) 8 h
  have e4 := fvp (l := b) 12 0 4 (h 12) (by omega)
  have e5 := fvp (l := b) 12 4 4 (h 12) (by omega)
  have e6 := fv8 (l := b) 13 (h 13)
  have e7 := fv16 (l := b) 14 h
  have e8 := fv16 (l := b) 16 h
  have e9 := fv16 (l := b) 18 h
  have g12 := h 12
  simp only [Nat.mul_zero, Nat.add_zero, Nat.zero_add, Nat.reduceMul, Nat.reduceAdd, Nat.reduceSub, Int.reducePow] at e0 e1 e2 e3 e4 e5 e6 e7 e8 e9
  simp only [W10, fieldsS, Int.reduceToNat, Nat.zero_add, Nat.reduceAdd, e0, e1, e2, e3, e4, e5, e6, e7, e8, e9, Int.ediv_one, List.cons.injEq, and_true, wd2]
  refine ⟨trivial, trivial, trivial, trivial, ?_⟩
  have h1 : b.getD 12 0 / 16 < 16 := by omega
  omega
def tcpE (s d : IP) (b : List Int) : Int :=
  if 65535 < b.length then 2 else if fitE s d ≠ 0 then fitE s d else if b.length < 20 then 94 else if tcpH b < 20 ∨ b.length < tcpH b then 95
  else if psum s d 6 b ≠ 65535 then 96 else tE (tcpO b)
def tcpG (b : List Int) : Tcp := ⟨wd2 b 0, wd2 b 2, numN b 4 4, numN b 8 4, b.getD 13 0, wd2 b 14, wd2 b 18, tL (tcpO b), (b.drop (tcpH b)).take (b.length - tcpH b)⟩
def t00 : Tcp := ⟨0, 0, 0, 0, 0, 0, 0, [], []⟩
def tcpT (s d : IP) (b : List Int) : Tcp := if tcpE s d b = 0 then tcpG b else t00
theorem tcpT_err {s d : IP} {b : List Int} {e : Int} (he : tcpE s d b = e) (h0 : e ≠ 0) : tcpT s d b = t00 := by unfold tcpT; rw [if_neg (by omega)]
theorem tE_or (b : List Int) : tE b = 0 ∨ tE b = 97 := by unfold tE; (repeat' split) <;> simp
theorem tcpE_bd (s d : IP) (b : List Int) : 0 ≤ tcpE s d b ∧ tcpE s d b ≤ 97 := by
  have := fitE_or s d
  have := tE_or (tcpO b)
  unfold tcpE; (repeat' split) <;> omega
theorem topt_len0 (b : List Int) : (tL b).length ≤ 40 ∧ ∀ o ∈ tL b, o.data.length ≤ 40 := by
  unfold tL
  split
  · simp
  · unfold toptsG
    cases hg : optsG b with
    | none => simp
    | some l =>
      have := optsG_len b.length b (Nat.le_refl _) l hg
      simp only [Option.bind_some]
      split
      · simp only [Option.getD_some]; exact ⟨by omega, fun o ho => by have := this.2 o ho; omega⟩
      · simp
set_option maxHeartbeats 1000000 in
theorem c62 (s d : IP) (v : Value) (b : List Int) (w : World) (hs : s.ok) (ht : d.ok) (hb : BS [] w v b) (hg2 : GV [] w 2 166 (W10.map i64)) (hg3 : GV [] w 3 183 (lenT.map u64)) :
  CallsV Tryd.prog 62 #[.agg (encIP s).toArray, .agg (encIP d).toArray, v] w (fun r w' => ∃ o dv vs, r = .tuple #[.agg (encTcp (tcpT s d b) o dv).toArray, .int .i64 (tcpE s d b)] ∧ FO w w' o (tcpT s d b).opts vs ∧ ∀ N w1, BS N w1 v b → OSs N w1 vs (tcpT s d b).opts ∧ BS N w1 dv (tcpT s d b).data) := by
 refine enter Tryd.func62 rfl Tryd.ntmps62 (l := [(0, [], _), (1, [], _), (2, [], _)]) rfl rfl ?_
 have S := St.refl [] w
 have hB := byt_getD hb.1
 have hfl := fields_tcp hB
 have g12 := hB 12
 have g13 := hB 13
 have hH : 4 * (b.getD 12 0 / 16) = (tcpH b : Int) := by unfold tcpH; omega
 have hH2 : b.getD 12 0 / 16 * 4 = (tcpH b : Int) := by unfold tcpH; omega
 have hHb : tcpH b ≤ 60 := by omega
 have hfo := fitE_or s d
 have hte := tE_or (tcpO b)
 have ho4 : tE (tcpO b) = tE ((b.drop 20).take (tcpH b - 20)) := rfl
 have h0b := wd2_bd hb.1 0
 have h2b := wd2_bd hb.1 2
 have h14b := wd2_bd hb.1 14
 have h16b := wd2_bd hb.1 16
 have h18b := wd2_bd hb.1 18
 have n4b := numN_lt hb.1 4 4 (by decide)
 have n8b := numN_lt hb.1 8 4 (by decide)
 refine Run.seq ?_
 refine Run.region ?_
 refine boxA rfl S rfl ?_
 intro b3 w1 hb3 S B_
 refine boxA rfl S rfl ?_
 intro b4 w2 hb4 S B_
 refine alc T82 S rfl ?_
 intro b6 w3 hb6 S B_
 refine asg1 rfl rfl ?_
 refine Ro.nil ?_
 refine Nrm.code ?_
 refine Run.seq ?_
 refine Run.seq ?_
 refine Run.region ?_
 refine mv1 rfl rfl ?_
 refine lenS rfl hb.2 Tryd.underlying26 rfl rfl rfl ?_
 refine gtr1 rfl rfl rfl ?_
 refine Ro.nil ?_
 refine Nrm.code ?_
 refine Run.cond rfl (fun hc1 => ?_) (fun hc1 => ?_)
 ·
  try simp only [Bool.or_eq_true, Bool.and_eq_true, Bool.or_eq_false_iff, Bool.and_eq_false_iff, decide_eq_true_eq, decide_eq_false_iff_not, Bool.not_eq_true', Bool.not_eq_false', Bool.not_eq_true, Bool.not_eq_false] at hc1
  refine Run.seq ?_
  refine Run.region ?_
  refine bld B82 (qs := []) trivial rfl rfl rfl ?_
  refine stW rfl rfl T82 rfl rfl (by simp [Value.oneCell']) S (i := 0) rfl rfl ?_
  intro w4 S
  refine asg1 rfl rfl ?_
  refine Ro.nil ?_
  refine Nrm.code ?_
  refine Run.ret ?_
  refine Rt.cell2 rfl rfl rfl T82 S (i := 0) rfl rfl ?_
  have he : tcpE s d b = 2 := by
   unfold tcpE
   rw [if_pos (by omega)]
  exact ⟨.slice none 0 0, .slice none 0 0, [], by rw [tcpT_err he (by omega), he]; rfl, by rw [tcpT_err he (by omega)]; exact (S.nilO).toFO (i := 0) rfl, fun _ _ _ => by rw [tcpT_err he (by omega)]; exact ⟨trivial, BS.nil _ _⟩⟩
 ·
  try simp only [Bool.or_eq_true, Bool.and_eq_true, Bool.or_eq_false_iff, Bool.and_eq_false_iff, decide_eq_true_eq, decide_eq_false_iff_not, Bool.not_eq_true', Bool.not_eq_false', Bool.not_eq_true, Bool.not_eq_false] at hc1
  refine Run.skip ?_
  refine Nrm.code ?_
  refine Run.seq ?_
  refine Run.seq ?_
  refine Run.region ?_
  refine ldW rfl T24 S (i := 2) rfl rfl rfl rfl rfl ?_
  refine ldW rfl T24 S (i := 1) rfl rfl rfl rfl rfl ?_
  refine calg (vs := [_, _]) rfl ⟨⟨_, _, rfl, rfl⟩, ⟨_, _, rfl, rfl⟩, trivial⟩ k123 rfl (fun hG => c123 s d _ hs ht) ?_
  intro w4 B_; have S := S.call B_
  refine asg1 rfl rfl ?_
  refine Ro.nil ?_
  refine Nrm.code ?_
  refine Run.seq ?_
  refine Run.region ?_
  refine mv1 rfl rfl ?_
  refine neq1 rfl rfl rfl ?_
  refine Ro.nil ?_
  refine Nrm.code ?_
  refine Run.cond rfl (fun hc4 => ?_) (fun hc4 => ?_)
  ·
   try simp only [Bool.or_eq_true, Bool.and_eq_true, Bool.or_eq_false_iff, Bool.and_eq_false_iff, decide_eq_true_eq, decide_eq_false_iff_not, Bool.not_eq_true', Bool.not_eq_false', Bool.not_eq_true, Bool.not_eq_false] at hc4
   refine Run.seq ?_
   refine Run.region ?_
   refine bld B82 (qs := []) trivial rfl rfl rfl ?_
   refine mv1 rfl rfl ?_
   refine stW rfl rfl T82 rfl rfl (by simp [Value.oneCell']) S (i := 0) rfl rfl ?_
   intro w5 S
   refine asg1 rfl rfl ?_
   refine Ro.nil ?_
   refine Nrm.code ?_
   refine Run.ret ?_
   refine Rt.cell2 rfl rfl rfl T82 S (i := 0) rfl rfl ?_
   have he : tcpE s d b = fitE s d := by
    unfold tcpE
    rw [if_neg (by omega), if_pos (by omega)]
   exact ⟨.slice none 0 0, .slice none 0 0, [], by rw [tcpT_err he (by omega), he]; rfl, by rw [tcpT_err he (by omega)]; exact (S.nilO).toFO (i := 0) rfl, fun _ _ _ => by rw [tcpT_err he (by omega)]; exact ⟨trivial, BS.nil _ _⟩⟩
  ·
   try simp only [Bool.or_eq_true, Bool.and_eq_true, Bool.or_eq_false_iff, Bool.and_eq_false_iff, decide_eq_true_eq, decide_eq_false_iff_not, Bool.not_eq_true', Bool.not_eq_false', Bool.not_eq_true, Bool.not_eq_false] at hc4
   refine Run.skip ?_
   refine Nrm.code ?_
   refine Run.seq ?_
   refine Run.seq ?_
   refine Run.region ?_
   refine mv1 rfl rfl ?_
   refine lenS rfl hb.2 Tryd.underlying26 rfl rfl rfl ?_
   refine lss1 rfl rfl rfl ?_
   refine Ro.nil ?_
   refine Nrm.code ?_
   refine Run.cond rfl (fun hc6 => ?_) (fun hc6 => ?_)
   ·
    try simp only [Bool.or_eq_true, Bool.and_eq_true, Bool.or_eq_false_iff, Bool.and_eq_false_iff, decide_eq_true_eq, decide_eq_false_iff_not, Bool.not_eq_true', Bool.not_eq_false', Bool.not_eq_true, Bool.not_eq_false] at hc6
    refine Run.seq ?_
    refine Run.region ?_
    refine bld B82 (qs := []) trivial rfl rfl rfl ?_
    refine stW rfl rfl T82 rfl rfl (by simp [Value.oneCell']) S (i := 0) rfl rfl ?_
    intro w5 S
    refine asg1 rfl rfl ?_
    refine Ro.nil ?_
    refine Nrm.code ?_
    refine Run.ret ?_
    refine Rt.cell2 rfl rfl rfl T82 S (i := 0) rfl rfl ?_
    have he : tcpE s d b = 94 := by
     unfold tcpE
     rw [if_neg (by omega), if_neg (by omega), if_pos (by omega)]
    exact ⟨.slice none 0 0, .slice none 0 0, [], by rw [tcpT_err he (by omega), he]; rfl, by rw [tcpT_err he (by omega)]; exact (S.nilO).toFO (i := 0) rfl, fun _ _ _ => by rw [tcpT_err he (by omega)]; exact ⟨trivial, BS.nil _ _⟩⟩
   ·
    try simp only [Bool.or_eq_true, Bool.and_eq_true, Bool.or_eq_false_iff, Bool.and_eq_false_iff, decide_eq_true_eq, decide_eq_false_iff_not, Bool.not_eq_true', Bool.not_eq_false', Bool.not_eq_true, Bool.not_eq_false] at hc6
    refine Run.skip ?_
    refine Nrm.code ?_
    refine Run.seq ?_
    refine Run.region ?_
    refine ldG hg2 S T166 rfl rfl ?_
    refine alc T166 S rfl ?_
    intro b9 w5 hb9 S B_
    refine stW rfl rfl T166 rfl rfl (by simp [Value.oneCell']) S (i := 0) rfl rfl ?_
    intro w6 S
    refine Ro.nil ?_
    refine Nrm.code ?_
    refine Run.seq ?_
    refine Run.region ?_
    refine mv1 rfl rfl ?_
    refine slAT rfl Tryd.underlying166 T3 rfl rfl rfl (i2 := none) trivial rfl (by decide) (by decide) ?_
    refine call (vs := [_, _, _]) ⟨⟨_, _, rfl, rfl⟩, ⟨_, _, rfl, rfl⟩, ⟨_, _, rfl, rfl⟩, trivial⟩ k101 rfl (c101 _ _ _ W10 _ (hb.now S) (S.varSl (i := 0) (m := 10) (sz := 1) rfl rfl rfl (by decide)) (by decide) (by decide) (by decide) (by rw [show W10.sum / 8 = 20 from by decide]; omega) (by omega)) ?_
    rintro _ w7 ⟨u10, rfl, hF⟩
    rw [hfl] at hF
    have S := S.fi hF
    refine mv1 rfl rfl ?_
    refine extr1 rfl rfl rfl ?_
    refine extr1 rfl rfl rfl ?_
    refine extr1 rfl rfl rfl ?_
    refine asg1 rfl rfl ?_
    refine asg1 rfl rfl ?_
    refine asg1 rfl rfl ?_
    refine Ro.nil ?_
    refine Nrm.code ?_
    refine Run.seq ?_
    refine Run.region ?_
    refine mv1 rfl rfl ?_
    refine ixa rfl rfl (S.slI (i := 0) rfl) e132 rfl rfl rfl rfl (fun _ => by first | omega | (simp only [List.length_cons, List.length_nil]; omega)) ?_
    refine ldE rfl (S.slI (i := 0) rfl) (St.refl [] _) T3 rfl rfl rfl (fun _ => rfl) ?_
    refine mul1 rfl rfl rfl ((show IntKind.i64.wrap (4 * (b.getD 12 0 / 16)) = (tcpH b : Int) from by rw [w64 (by omega)]; exact hH)) ?_
    refine asg1 rfl rfl ?_
    refine Ro.nil ?_
    refine Nrm.code ?_
    refine Run.seq ?_
    refine Run.block ?_
    refine Run.seq ?_
    refine Run.region ?_
    refine mv1 rfl rfl ?_
    refine lss1 rfl rfl rfl ?_
    refine mv1 rfl rfl ?_
    refine mv rfl rfl rfl rfl ?_
    refine mv rfl rfl rfl rfl ?_
    refine lenS rfl hb.2 Tryd.underlying26 rfl rfl rfl ?_
    refine gtr rfl rfl rfl rfl rfl rfl ?_
    refine pkO rfl rfl rfl rfl rfl rfl ?_
    refine asg1 rfl rfl ?_
    refine Ro.nil ?_
    refine Nrm.code ?_
    refine Run.cond rfl (fun hc11 => ?_) (fun hc11 => ?_)
    ·
     try simp only [Bool.or_eq_true, Bool.and_eq_true, Bool.or_eq_false_iff, Bool.and_eq_false_iff, decide_eq_true_eq, decide_eq_false_iff_not, Bool.not_eq_true', Bool.not_eq_false', Bool.not_eq_true, Bool.not_eq_false] at hc11
     refine Run.seq ?_
     refine Run.region ?_
     refine bld B82 (qs := []) trivial rfl rfl rfl ?_
     refine stW rfl rfl T82 rfl rfl (by simp [Value.oneCell']) S (i := 2) rfl rfl ?_
     intro w8 S
     refine asg1 rfl rfl ?_
     refine Ro.nil ?_
     refine Nrm.code ?_
     refine Run.ret ?_
     refine Rt.cell2 rfl rfl rfl T82 S (i := 2) rfl rfl ?_
     have he : tcpE s d b = 95 := by
      unfold tcpE
      rw [if_neg (by omega), if_neg (by omega), if_neg (by omega), if_pos (by omega)]
     exact ⟨.slice none 0 0, .slice none 0 0, [], by rw [tcpT_err he (by omega), he]; rfl, by rw [tcpT_err he (by omega)]; exact (S.nilO).toFO (i := 0) rfl, fun _ _ _ => by rw [tcpT_err he (by omega)]; exact ⟨trivial, BS.nil _ _⟩⟩
    ·
     try simp only [Bool.or_eq_true, Bool.and_eq_true, Bool.or_eq_false_iff, Bool.and_eq_false_iff, decide_eq_true_eq, decide_eq_false_iff_not, Bool.not_eq_true', Bool.not_eq_false', Bool.not_eq_true, Bool.not_eq_false] at hc11
     refine Run.seq ?_
     refine Run.region ?_
     refine ldW rfl T24 S (i := 4) rfl rfl rfl rfl rfl ?_
     refine ldW rfl T24 S (i := 3) rfl rfl rfl rfl rfl ?_
     refine mv1 rfl rfl ?_
     refine calg (vs := [_, _, _, _]) rfl ⟨⟨_, _, rfl, rfl⟩, ⟨_, _, rfl, rfl⟩, ⟨_, _, rfl, rfl⟩, ⟨_, _, rfl, rfl⟩, trivial⟩ k124 rfl (fun hG => c124 s d 6 _ b _ hs ht (hb.now S) (by omega) (fit_pse (by omega) (by decide) (by omega))) ?_
     intro w8 B_; have S := S.call B_
     refine nt1 rfl rfl ?_
     refine asg1 rfl rfl ?_
     refine Ro.nil ?_
     refine Nrm.code ?_
     refine Run.cond rfl (fun hc13 => ?_) (fun hc13 => ?_)
     ·
      try simp only [Bool.or_eq_true, Bool.and_eq_true, Bool.or_eq_false_iff, Bool.and_eq_false_iff, decide_eq_true_eq, decide_eq_false_iff_not, Bool.not_eq_true', Bool.not_eq_false', Bool.not_eq_true, Bool.not_eq_false] at hc13
      have hgd : psum s d 6 b ≠ 65535 := by simpa using hc13
      refine Run.seq ?_
      refine Run.region ?_
      refine bld B82 (qs := []) trivial rfl rfl rfl ?_
      refine stW rfl rfl T82 rfl rfl (by simp [Value.oneCell']) S (i := 2) rfl rfl ?_
      intro w9 S
      refine asg1 rfl rfl ?_
      refine Ro.nil ?_
      refine Nrm.code ?_
      refine Run.ret ?_
      refine Rt.cell2 rfl rfl rfl T82 S (i := 2) rfl rfl ?_
      have he : tcpE s d b = 96 := by
       unfold tcpE
       rw [if_neg (by omega), if_neg (by omega), if_neg (by omega), if_neg (by omega), if_pos hgd]
      exact ⟨.slice none 0 0, .slice none 0 0, [], by rw [tcpT_err he (by omega), he]; rfl, by rw [tcpT_err he (by omega)]; exact (S.nilO).toFO (i := 0) rfl, fun _ _ _ => by rw [tcpT_err he (by omega)]; exact ⟨trivial, BS.nil _ _⟩⟩
     ·
      try simp only [Bool.or_eq_true, Bool.and_eq_true, Bool.or_eq_false_iff, Bool.and_eq_false_iff, decide_eq_true_eq, decide_eq_false_iff_not, Bool.not_eq_true', Bool.not_eq_false', Bool.not_eq_true, Bool.not_eq_false] at hc13
      have hgd : ¬ psum s d 6 b ≠ 65535 := by simpa using hc13
      refine Run.skip ?_
      refine Nrm.blk ?_
      refine Nrm.code ?_
      refine Run.seq ?_
      refine Run.region ?_
      refine mv1 rfl rfl ?_
      refine mv1 rfl rfl ?_
      refine mv1 rfl rfl ?_
      refine slC (lo := 20) (hi := tcpH b) (mx := tcpH b) rfl hb e26 rfl rfl rfl (i1 := some 20) (i2 := some (tcpH b)) (i3 := some (tcpH b)) ⟨_, _, _, rfl, rfl⟩ ⟨_, _, _, rfl, rfl⟩ ⟨_, _, _, rfl, rfl⟩ rfl rfl rfl (fun h => by first | rfl | cases h) (fun hG => by (try simp [allT] at hG); have hcap := hb.cap; omega) ?_
      have hv64 := hb.cut (lo := 20) (hi := tcpH b) (mx := tcpH b) (by have hcap := hb.cap; omega)
      refine call (vs := [_]) ⟨⟨_, _, rfl, rfl⟩, trivial⟩ k67 rfl (c67 _ _ _ (hv64.now S) (hg3.now S)) ?_
      rintro _ w9 ⟨u14, vs, rfl, hF, hwin⟩
      have S := S.fo hF
      refine mv1 rfl rfl ?_
      refine extr1 rfl rfl rfl ?_
      refine extr1 rfl rfl rfl ?_
      refine asg1 rfl rfl ?_
      refine asg1 rfl rfl ?_
      refine Ro.nil ?_
      refine Nrm.code ?_
      refine Run.seq ?_
      refine Run.seq ?_
      refine Run.region ?_
      refine mv1 rfl rfl ?_
      refine neq1 rfl rfl rfl ?_
      refine Ro.nil ?_
      refine Nrm.code ?_
      refine Run.cond rfl (fun hc16 => ?_) (fun hc16 => ?_)
      ·
       try simp only [Bool.or_eq_true, Bool.and_eq_true, Bool.or_eq_false_iff, Bool.and_eq_false_iff, decide_eq_true_eq, decide_eq_false_iff_not, Bool.not_eq_true', Bool.not_eq_false', Bool.not_eq_true, Bool.not_eq_false] at hc16
       refine Run.seq ?_
       refine Run.region ?_
       refine bld B82 (qs := []) trivial rfl rfl rfl ?_
       refine mv1 rfl rfl ?_
       refine stW rfl rfl T82 rfl rfl (by simp [Value.oneCell']) S (i := 3) rfl rfl ?_
       intro w10 S
       refine asg1 rfl rfl ?_
       refine Ro.nil ?_
       refine Nrm.code ?_
       refine Run.ret ?_
       refine Rt.cell2 rfl rfl rfl T82 S (i := 3) rfl rfl ?_
       have he : tcpE s d b = tE (tcpO b) := by
        unfold tcpE
        rw [if_neg (by omega), if_neg (by omega), if_neg (by omega), if_neg (by omega), if_neg hgd]
       exact ⟨.slice none 0 0, .slice none 0 0, [], by rw [tcpT_err he (by omega), he]; rfl, by rw [tcpT_err he (by omega)]; exact (S.nilO).toFO (i := 0) rfl, fun _ _ _ => by rw [tcpT_err he (by omega)]; exact ⟨trivial, BS.nil _ _⟩⟩
      ·
       try simp only [Bool.or_eq_true, Bool.and_eq_true, Bool.or_eq_false_iff, Bool.and_eq_false_iff, decide_eq_true_eq, decide_eq_false_iff_not, Bool.not_eq_true', Bool.not_eq_false', Bool.not_eq_true, Bool.not_eq_false] at hc16
       refine Run.skip ?_
       refine Nrm.code ?_
       refine Run.seq ?_
       refine Run.heldB (by kernel_rfl) S [true, true, true, false, true, true] rfl rfl rfl ?_
       intro w10 BD S SC
       refine Hb.take (i := 0) SC (fun _ _ S B => S.call B) Pp.body rfl (by kernel_rfl) (by kernel_rfl) (by kernel_rfl) rfl rfl ?_
       refine qmv rfl rfl rfl rfl ?_
       refine Hb.back ?_
       refine Hb.take (i := 1) SC (fun _ _ S B => S.call B) Pp.body rfl (by kernel_rfl) (by kernel_rfl) (by kernel_rfl) rfl rfl ?_
       refine qixa rfl rfl (S.slI (i := 1) rfl) e132 rfl rfl rfl rfl (fun _ => by first | omega | (simp only [List.length_cons, List.length_nil]; omega)) ?_
       refine Hb.back ?_
       refine Hb.take (i := 2) SC (fun _ _ S B => S.call B) Pp.body rfl (by kernel_rfl) (by kernel_rfl) (by kernel_rfl) rfl rfl ?_
       refine qldR rfl (fun _ S => S) (i := 1) rfl T3 rfl rfl rfl (fun _ => rfl) ?_
       refine Hb.back ?_
       refine Hb.take (i := 3) SC (fun _ _ S B => S.call B) Pp.body rfl (by kernel_rfl) (by kernel_rfl) (by kernel_rfl) rfl rfl ?_
       refine qmv rfl rfl rfl rfl ?_
       refine Hb.back ?_
       refine Hb.take (i := 4) SC (fun _ _ S B => S.call B) Pp.body rfl (by kernel_rfl) (by kernel_rfl) (by kernel_rfl) rfl rfl ?_
       refine qixa rfl rfl (S.slI (i := 1) rfl) e132 rfl rfl rfl rfl (fun _ => by first | omega | (simp only [List.length_cons, List.length_nil]; omega)) ?_
       refine Hb.back ?_
       refine Hb.take (i := 5) SC (fun _ _ S B => S.call B) Pp.body rfl (by kernel_rfl) (by kernel_rfl) (by kernel_rfl) rfl rfl ?_
       refine qldR rfl (fun _ S => S) (i := 1) rfl T3 rfl rfl rfl (fun _ => rfl) ?_
       refine Hb.back ?_
       refine Hb.take (i := 6) SC (fun _ _ S B => S.call B) Pp.body rfl (by kernel_rfl) (by kernel_rfl) (by kernel_rfl) rfl rfl ?_
       refine qmv rfl rfl rfl rfl ?_
       refine Hb.back ?_
       refine Hb.take (i := 7) SC (fun _ _ S B => S.call B) Pp.body rfl (by kernel_rfl) (by kernel_rfl) (by kernel_rfl) rfl rfl ?_
       refine qixa rfl rfl (S.slI (i := 1) rfl) e132 rfl rfl rfl rfl (fun _ => by first | omega | (simp only [List.length_cons, List.length_nil]; omega)) ?_
       refine Hb.back ?_
       refine Hb.take (i := 8) SC (fun _ _ S B => S.call B) Pp.body rfl (by kernel_rfl) (by kernel_rfl) (by kernel_rfl) rfl rfl ?_
       refine qldR rfl (fun _ S => S) (i := 1) rfl T3 rfl rfl rfl (fun _ => rfl) ?_
       refine Hb.back ?_
       refine Hb.take (i := 9) SC (fun _ _ S B => S.call B) Pp.body rfl (by kernel_rfl) (by kernel_rfl) (by kernel_rfl) rfl rfl ?_
       refine qmv rfl rfl rfl rfl ?_
       refine Hb.back ?_
       refine Hb.take (i := 10) SC (fun _ _ S B => S.call B) Pp.body rfl (by kernel_rfl) (by kernel_rfl) (by kernel_rfl) rfl rfl ?_
       refine qixa rfl rfl (S.slI (i := 1) rfl) e132 rfl rfl rfl rfl (fun _ => by first | omega | (simp only [List.length_cons, List.length_nil]; omega)) ?_
       refine Hb.back ?_
       refine Hb.take (i := 11) SC (fun _ _ S B => S.call B) Pp.body rfl (by kernel_rfl) (by kernel_rfl) (by kernel_rfl) rfl rfl ?_
       refine qldR rfl (fun _ S => S) (i := 1) rfl T3 rfl rfl rfl (fun _ => rfl) ?_
       refine Hb.back ?_
       refine Hb.take (i := 12) SC (fun _ _ S B => S.call B) Pp.body rfl (by kernel_rfl) (by kernel_rfl) (by kernel_rfl) rfl rfl ?_
       refine qmv rfl rfl rfl rfl ?_
       refine Hb.back ?_
       refine Hb.take (i := 13) SC (fun _ _ S B => S.call B) Pp.body rfl (by kernel_rfl) (by kernel_rfl) (by kernel_rfl) rfl rfl ?_
       refine qixa rfl rfl (S.slI (i := 1) rfl) e132 rfl rfl rfl rfl (fun _ => by first | omega | (simp only [List.length_cons, List.length_nil]; omega)) ?_
       refine Hb.back ?_
       refine Hb.take (i := 14) SC (fun _ _ S B => S.call B) Pp.body rfl (by kernel_rfl) (by kernel_rfl) (by kernel_rfl) rfl rfl ?_
       refine qldR rfl (fun _ S => S) (i := 1) rfl T3 rfl rfl rfl (fun _ => rfl) ?_
       refine Hb.back ?_
       refine Hb.take (i := 15) SC (fun _ _ S B => S.call B) Pp.body rfl (by kernel_rfl) (by kernel_rfl) (by kernel_rfl) rfl rfl ?_
       refine qmv rfl rfl rfl rfl ?_
       refine Hb.back ?_
       refine Hb.take (i := 16) SC (fun _ _ S B => S.call B) Pp.body rfl (by kernel_rfl) (by kernel_rfl) (by kernel_rfl) rfl rfl ?_
       refine qixa rfl rfl (S.slI (i := 1) rfl) e132 rfl rfl rfl rfl (fun _ => by first | omega | (simp only [List.length_cons, List.length_nil]; omega)) ?_
       refine Hb.back ?_
       refine Hb.take (i := 17) SC (fun _ _ S B => S.call B) Pp.body rfl (by kernel_rfl) (by kernel_rfl) (by kernel_rfl) rfl rfl ?_
       refine qldR rfl (fun _ S => S) (i := 1) rfl T3 rfl rfl rfl (fun _ => rfl) ?_
       refine Hb.back ?_
       refine Hb.take (i := 18) SC (fun _ _ S B => S.call B) Pp.body rfl (by kernel_rfl) (by kernel_rfl) (by kernel_rfl) rfl rfl ?_
       refine qmv rfl rfl rfl rfl ?_
       refine Hb.back ?_
       refine Hb.take (i := 19) SC (fun _ _ S B => S.call B) Pp.body rfl (by kernel_rfl) (by kernel_rfl) (by kernel_rfl) rfl rfl ?_
       refine qixa rfl rfl (S.slI (i := 1) rfl) e132 rfl rfl rfl rfl (fun _ => by first | omega | (simp only [List.length_cons, List.length_nil]; omega)) ?_
       refine Hb.back ?_
       refine Hb.take (i := 20) SC (fun _ _ S B => S.call B) Pp.body rfl (by kernel_rfl) (by kernel_rfl) (by kernel_rfl) rfl rfl ?_
       refine qldR rfl (fun _ S => S) (i := 1) rfl T3 rfl rfl rfl (fun _ => rfl) ?_
       refine Hb.back ?_
       refine Hb.take (i := 21) SC (fun _ _ S B => S.call B) Pp.body rfl (by kernel_rfl) (by kernel_rfl) (by kernel_rfl) rfl rfl ?_
       refine qmv rfl rfl rfl rfl ?_
       refine Hb.back ?_
       refine Hb.take (i := 22) SC (fun _ _ S B => S.call B) Pp.body rfl (by kernel_rfl) (by kernel_rfl) (by kernel_rfl) rfl rfl ?_
       refine qmv rfl rfl rfl rfl ?_
       refine Hb.back ?_
       refine Hb.take (i := 23) SC (fun _ _ S B => S.call B) Pp.body rfl (by kernel_rfl) (by kernel_rfl) (by kernel_rfl) rfl rfl ?_
       refine qmv rfl rfl rfl rfl ?_
       refine Hb.back ?_
       refine Hb.take (i := 24) SC (fun _ _ S B => S.call B) Pp.body rfl (by kernel_rfl) (by kernel_rfl) (by kernel_rfl) rfl rfl ?_
       refine qmv rfl rfl rfl rfl ?_
       refine Hb.back ?_
       refine Hb.take (i := 25) SC (fun _ _ S B => S.call B) Pp.body rfl (by kernel_rfl) (by kernel_rfl) (by kernel_rfl) rfl rfl ?_
       refine qlenS rfl hb.2 Tryd.underlying26 rfl rfl rfl ?_
       refine Hb.back ?_
       refine Hb.take (i := 26) SC (fun _ _ S B => S.call B) Pp.body rfl (by kernel_rfl) (by kernel_rfl) (by kernel_rfl) rfl rfl ?_
       refine qmv rfl rfl rfl rfl ?_
       refine Hb.back ?_
       refine Hb.take (i := 27) SC (fun _ _ S B => S.call B) Pp.body rfl (by kernel_rfl) (by kernel_rfl) (by kernel_rfl) rfl rfl ?_
       refine qlenS rfl hb.2 Tryd.underlying26 rfl rfl rfl ?_
       refine Hb.back ?_
       refine Hb.take (i := 28) SC (fun _ _ S B => S.call B) Pp.body rfl (by kernel_rfl) (by kernel_rfl) (by kernel_rfl) rfl rfl ?_
       have hv100 := hb.cut (lo := tcpH b) (hi := b.length) (mx := b.length) (by have hcap := hb.cap; omega)
       refine qslC (lo := tcpH b) (hi := b.length) (mx := b.length) rfl hb e26 rfl rfl rfl (i1 := some (tcpH b)) (i2 := some (b.length)) (i3 := some (b.length)) ⟨_, _, _, rfl, rfl⟩ ⟨_, _, _, rfl, rfl⟩ ⟨_, _, _, rfl, rfl⟩ rfl rfl rfl (fun h => by first | rfl | cases h) (fun hG => by (try simp [allT] at hG); have hcap := hb.cap; omega) ?_
       refine Hb.back ?_
       refine Hb.take (i := 29) SC (fun _ _ S B => S.call B) Pp.body rfl (by kernel_rfl) (by kernel_rfl) (by kernel_rfl) rfl rfl ?_
       refine qbld B82 (qs := [(_, _), (_, _), (_, _), (_, _), (_, _), (_, _), (_, _), (_, _), (_, _)]) ⟨⟨_, _, _, rfl, rfl, rfl, rfl, by first | (simp [Value.cells]; done) | simp [Value.cells, encIP]⟩, ⟨_, _, _, rfl, rfl, rfl, rfl, by first | (simp [Value.cells]; done) | simp [Value.cells, encIP]⟩, ⟨_, _, _, rfl, rfl, rfl, rfl, by first | (simp [Value.cells]; done) | simp [Value.cells, encIP]⟩, ⟨_, _, _, rfl, rfl, rfl, rfl, by first | (simp [Value.cells]; done) | simp [Value.cells, encIP]⟩, ⟨_, _, _, rfl, rfl, rfl, rfl, by first | (simp [Value.cells]; done) | simp [Value.cells, encIP]⟩, ⟨_, _, _, rfl, rfl, rfl, rfl, by first | (simp [Value.cells]; done) | simp [Value.cells, encIP]⟩, ⟨_, _, _, rfl, rfl, rfl, rfl, by first | (simp [Value.cells]; done) | simp [Value.cells, encIP]⟩, ⟨_, _, _, rfl, rfl, cells1 (S.slI (i := 0) rfl).one, rfl, List.cons_ne_nil _ _⟩, ⟨_, _, _, rfl, rfl, cells1 hv100.one, rfl, List.cons_ne_nil _ _⟩, trivial⟩ rfl rfl rfl ?_
       refine Hb.back ?_
       refine Hb.one (i := 30) (by kernel_rfl) rfl rfl ?_
       intro w11 BD; have S := S.call BD
       refine stW rfl rfl T82 rfl rfl (one_cons rfl (one_cons rfl (one_cons rfl (one_cons rfl (one_cons rfl (one_cons rfl (one_cons rfl (one_cons (S.slI (i := 0) rfl).one (one_cons hv100.one one_nil))))))))) S (i := 3) rfl rfl ?_
       intro w12 S
       have SC := S.pick [true, true, true, false, true, true] rfl
       refine Hb.on SC ?_
       refine Hb.take (i := 31) SC (fun _ _ S B => S.call B) Pp.body rfl (by kernel_rfl) (by kernel_rfl) (by kernel_rfl) rfl rfl ?_
       refine qasg rfl rfl rfl rfl ?_
       refine Hb.back ?_
       refine Hb.done (by kernel_rfl) ?_
       intro w13 BD; have S := S.call BD
       refine Nrm.code ?_
       refine Run.ret ?_
       refine Rt.cell2 rfl rfl rfl T82 S (i := 3) rfl rfl ?_
       have he : tcpE s d b = 0 := by
        unfold tcpE
        rw [if_neg (by omega), if_neg (by omega), if_neg (by omega), if_neg (by omega), if_neg hgd]
        omega
       exact ⟨_, _, vs, by rw [tcpT, if_pos he, he]; rfl, by rw [tcpT, if_pos he]; exact (S.pick [true, false, false, false, false, false] rfl).toFO (i := 0) rfl, fun N w1 h1 => by rw [tcpT, if_pos he]; exact ⟨hwin N w1 (h1.cut (by have := h1.cap; omega)), h1.cut (by have := h1.cap; omega)⟩⟩
set_option maxHeartbeats 1000000 in
theorem c77 (s d : IP) (v : Value) (b : List Int) (w : World) (hs : s.ok) (ht : d.ok) (hb : BS [] w v b) :
  CallsV Tryd.prog 77 #[.agg (encIP s).toArray, .agg (encIP d).toArray, v] w (fun r w' => ∃ o dv, r = .tuple #[.agg (encTcp (tcpT s d b) o dv).toArray, .int .i64 (tcpE s d b)] ∧ Bl w w' ∧ ∀ N, (∀ i ∈ N, i < w.heap.size) → OS N w' o (tcpT s d b).opts ∧ BS N w' dv (tcpT s d b).data) := by
 refine enter Tryd.func77 rfl Tryd.ntmps77 (l := [(0, [], _), (1, [], _), (2, [], _)]) rfl rfl ?_
 have S := St.refl [] w
 have hB := byt_getD hb.1
 have hfl := fields_tcp hB
 have g12 := hB 12
 have g13 := hB 13
 have hH : 4 * (b.getD 12 0 / 16) = (tcpH b : Int) := by unfold tcpH; omega
 have hH2 : b.getD 12 0 / 16 * 4 = (tcpH b : Int) := by unfold tcpH; omega
 have hHb : tcpH b ≤ 60 := by omega
 have hfo := fitE_or s d
 have hte := tE_or (tcpO b)
 have ho4 : tE (tcpO b) = tE ((b.drop 20).take (tcpH b - 20)) := rfl
 have h0b := wd2_bd hb.1 0
 have h2b := wd2_bd hb.1 2
 have h14b := wd2_bd hb.1 14
 have h16b := wd2_bd hb.1 16
 have h18b := wd2_bd hb.1 18
 have n4b := numN_lt hb.1 4 4 (by decide)
 have n8b := numN_lt hb.1 8 4 (by decide)
 have hdr : b.drop (tcpH b) = (b.drop (tcpH b)).take (b.length - tcpH b) := (List.take_of_length_le (by rw [List.length_drop]; exact Nat.le_refl _)).symm
 refine Run.seq ?_
 refine Run.region ?_
 refine boxA rfl S rfl ?_
 intro b3 w1 hb3 S B_
 refine boxA rfl S rfl ?_
 intro b4 w2 hb4 S B_
 refine alc T82 S rfl ?_
 intro b6 w3 hb6 S B_
 refine asg1 rfl rfl ?_
 refine Ro.nil ?_
 refine Nrm.code ?_
 refine Run.seq ?_
 refine Run.region ?_
 refine bld B82 (qs := []) trivial rfl rfl rfl ?_
 refine alc T82 S rfl ?_
 intro b8 w4 hb8 S B_
 refine stW rfl rfl T82 rfl rfl (by simp [Value.oneCell']) S (i := 0) rfl rfl ?_
 intro w5 S
 refine Ro.nil ?_
 refine Nrm.code ?_
 refine Run.seq ?_
 refine Run.seq ?_
 refine Run.region ?_
 refine mv1 rfl rfl ?_
 refine lenS rfl hb.2 Tryd.underlying26 rfl rfl rfl ?_
 refine gtr1 rfl rfl rfl ?_
 refine Ro.nil ?_
 refine Nrm.code ?_
 refine Run.cond rfl (fun hc2 => ?_) (fun hc2 => ?_)
 ·
  try simp only [Bool.or_eq_true, Bool.and_eq_true, Bool.or_eq_false_iff, Bool.and_eq_false_iff, decide_eq_true_eq, decide_eq_false_iff_not, Bool.not_eq_true', Bool.not_eq_false', Bool.not_eq_true, Bool.not_eq_false] at hc2
  refine Run.seq ?_
  refine Run.region ?_
  refine ldW rfl T82 S (i := 0) rfl rfl rfl rfl rfl ?_
  refine stW rfl rfl T82 rfl rfl (by simp [Value.oneCell']) S (i := 1) rfl rfl ?_
  intro w6 S
  refine asg1 rfl rfl ?_
  refine Ro.nil ?_
  refine Nrm.code ?_
  refine Run.ret ?_
  refine Rt.cell2 rfl rfl rfl T82 S (i := 1) rfl rfl ?_
  have he : tcpE s d b = 2 := by
   unfold tcpE
   rw [if_pos (by omega)]
  exact ⟨.slice none 0 0, .slice none 0 0, by rw [tcpT_err he (by omega), he]; rfl, S.bl, fun _ _ => by rw [tcpT_err he (by omega)]; exact ⟨OS.nil _ _, BS.nil _ _⟩⟩
 ·
  try simp only [Bool.or_eq_true, Bool.and_eq_true, Bool.or_eq_false_iff, Bool.and_eq_false_iff, decide_eq_true_eq, decide_eq_false_iff_not, Bool.not_eq_true', Bool.not_eq_false', Bool.not_eq_true, Bool.not_eq_false] at hc2
  refine Run.skip ?_
  refine Nrm.code ?_
  refine Run.seq ?_
  refine Run.region ?_
  refine ldW rfl T24 S (i := 3) rfl rfl rfl rfl rfl ?_
  refine ldW rfl T24 S (i := 2) rfl rfl rfl rfl rfl ?_
  refine calg (vs := [_, _]) rfl ⟨⟨_, _, rfl, rfl⟩, ⟨_, _, rfl, rfl⟩, trivial⟩ k130 rfl (fun hG => c130 s d _ hs ht) ?_
  intro w6 B_; have S := S.call B_
  refine asg1 rfl rfl ?_
  refine Ro.nil ?_
  refine Nrm.code ?_
  refine Run.seq ?_
  refine Run.seq ?_
  refine Run.region ?_
  refine mv1 rfl rfl ?_
  refine nt1 rfl rfl ?_
  refine Ro.nil ?_
  refine Nrm.code ?_
  refine Run.cond rfl (fun hc5 => ?_) (fun hc5 => ?_)
  ·
   try simp only [Bool.or_eq_true, Bool.and_eq_true, Bool.or_eq_false_iff, Bool.and_eq_false_iff, decide_eq_true_eq, decide_eq_false_iff_not, Bool.not_eq_true', Bool.not_eq_false', Bool.not_eq_true, Bool.not_eq_false] at hc5
   refine Run.seq ?_
   refine Run.region ?_
   refine ldW rfl T82 S (i := 0) rfl rfl rfl rfl rfl ?_
   refine stW rfl rfl T82 rfl rfl (by simp [Value.oneCell']) S (i := 1) rfl rfl ?_
   intro w7 S
   refine asg1 rfl rfl ?_
   refine Ro.nil ?_
   refine Nrm.code ?_
   refine Run.ret ?_
   refine Rt.cell2 rfl rfl rfl T82 S (i := 1) rfl rfl ?_
   have he : tcpE s d b = 20 := by
    unfold tcpE
    rw [if_neg (by omega), if_pos (by omega)]
    omega
   exact ⟨.slice none 0 0, .slice none 0 0, by rw [tcpT_err he (by omega), he]; rfl, S.bl, fun _ _ => by rw [tcpT_err he (by omega)]; exact ⟨OS.nil _ _, BS.nil _ _⟩⟩
  ·
   try simp only [Bool.or_eq_true, Bool.and_eq_true, Bool.or_eq_false_iff, Bool.and_eq_false_iff, decide_eq_true_eq, decide_eq_false_iff_not, Bool.not_eq_true', Bool.not_eq_false', Bool.not_eq_true, Bool.not_eq_false] at hc5
   refine Run.skip ?_
   refine Nrm.code ?_
   refine Run.seq ?_
   refine Run.seq ?_
   refine Run.region ?_
   refine mv1 rfl rfl ?_
   refine lenS rfl hb.2 Tryd.underlying26 rfl rfl rfl ?_
   refine lss1 rfl rfl rfl ?_
   refine Ro.nil ?_
   refine Nrm.code ?_
   refine Run.cond rfl (fun hc7 => ?_) (fun hc7 => ?_)
   ·
    try simp only [Bool.or_eq_true, Bool.and_eq_true, Bool.or_eq_false_iff, Bool.and_eq_false_iff, decide_eq_true_eq, decide_eq_false_iff_not, Bool.not_eq_true', Bool.not_eq_false', Bool.not_eq_true, Bool.not_eq_false] at hc7
    refine Run.seq ?_
    refine Run.region ?_
    refine ldW rfl T82 S (i := 0) rfl rfl rfl rfl rfl ?_
    refine stW rfl rfl T82 rfl rfl (by simp [Value.oneCell']) S (i := 1) rfl rfl ?_
    intro w7 S
    refine asg1 rfl rfl ?_
    refine Ro.nil ?_
    refine Nrm.code ?_
    refine Run.ret ?_
    refine Rt.cell2 rfl rfl rfl T82 S (i := 1) rfl rfl ?_
    have he : tcpE s d b = 94 := by
     unfold tcpE
     rw [if_neg (by omega), if_neg (by omega), if_pos (by omega)]
    exact ⟨.slice none 0 0, .slice none 0 0, by rw [tcpT_err he (by omega), he]; rfl, S.bl, fun _ _ => by rw [tcpT_err he (by omega)]; exact ⟨OS.nil _ _, BS.nil _ _⟩⟩
   ·
    try simp only [Bool.or_eq_true, Bool.and_eq_true, Bool.or_eq_false_iff, Bool.and_eq_false_iff, decide_eq_true_eq, decide_eq_false_iff_not, Bool.not_eq_true', Bool.not_eq_false', Bool.not_eq_true, Bool.not_eq_false] at hc7
    refine Run.skip ?_
    refine Nrm.code ?_
    refine Run.seq ?_
    refine Run.region ?_
    refine mv1 rfl rfl ?_
    refine ixa rfl rfl hb.2 e26 rfl rfl rfl rfl (fun _ => by first | omega | (simp only [List.length_cons, List.length_nil]; omega)) ?_
    refine ldB rfl hb S T5 rfl rfl rfl (fun _ => by omega) ?_
    intro q30 hq30 hbq30
    try simp only [Int.toNat_natCast, Nat.mul_one, Int.reduceToNat] at hq30
    replace hq30 : q30 = b.getD 12 0 := hq30
    refine quo1 rfl rfl rfl (by decide) ((show IntKind.u8.wrap (Int.tdiv q30 16) = b.getD 12 0 / 16 from by rw [Int.tdiv_eq_ediv_of_nonneg (by omega), hq30]; exact w8of rfl (by omega))) ?_
    refine cvi1 rfl rfl Tryd.underlying5 Tryd.underlying3 (w64 (by omega)) ?_
    refine mul1 rfl rfl rfl ((show IntKind.i64.wrap (b.getD 12 0 / 16 * 4) = (tcpH b : Int) from by rw [w64 (by omega)]; exact hH2)) ?_
    refine asg1 rfl rfl ?_
    refine Ro.nil ?_
    refine Nrm.code ?_
    refine Run.seq ?_
    refine Run.seq ?_
    refine Run.region ?_
    refine mv1 rfl rfl ?_
    refine lss1 rfl rfl rfl ?_
    refine mv1 rfl rfl ?_
    refine mv rfl rfl rfl rfl ?_
    refine mv rfl rfl rfl rfl ?_
    refine lenS rfl hb.2 Tryd.underlying26 rfl rfl rfl ?_
    refine gtr rfl rfl rfl rfl rfl rfl ?_
    refine pkO rfl rfl rfl rfl rfl rfl ?_
    refine Ro.nil ?_
    refine Nrm.code ?_
    refine Run.cond rfl (fun hc10 => ?_) (fun hc10 => ?_)
    ·
     try simp only [Bool.or_eq_true, Bool.and_eq_true, Bool.or_eq_false_iff, Bool.and_eq_false_iff, decide_eq_true_eq, decide_eq_false_iff_not, Bool.not_eq_true', Bool.not_eq_false', Bool.not_eq_true, Bool.not_eq_false] at hc10
     refine Run.seq ?_
     refine Run.region ?_
     refine ldW rfl T82 S (i := 0) rfl rfl rfl rfl rfl ?_
     refine stW rfl rfl T82 rfl rfl (by simp [Value.oneCell']) S (i := 1) rfl rfl ?_
     intro w7 S
     refine asg1 rfl rfl ?_
     refine Ro.nil ?_
     refine Nrm.code ?_
     refine Run.ret ?_
     refine Rt.cell2 rfl rfl rfl T82 S (i := 1) rfl rfl ?_
     have he : tcpE s d b = 95 := by
      unfold tcpE
      rw [if_neg (by omega), if_neg (by omega), if_neg (by omega), if_pos (by omega)]
     exact ⟨.slice none 0 0, .slice none 0 0, by rw [tcpT_err he (by omega), he]; rfl, S.bl, fun _ _ => by rw [tcpT_err he (by omega)]; exact ⟨OS.nil _ _, BS.nil _ _⟩⟩
    ·
     try simp only [Bool.or_eq_true, Bool.and_eq_true, Bool.or_eq_false_iff, Bool.and_eq_false_iff, decide_eq_true_eq, decide_eq_false_iff_not, Bool.not_eq_true', Bool.not_eq_false', Bool.not_eq_true, Bool.not_eq_false] at hc10
     refine Run.skip ?_
     refine Nrm.code ?_
     refine Run.seq ?_
     refine Run.region ?_
     refine ldW rfl T24 S (i := 3) rfl rfl rfl rfl rfl ?_
     refine ldW rfl T24 S (i := 2) rfl rfl rfl rfl rfl ?_
     refine mv1 rfl rfl ?_
     refine calg (vs := [_, _, _, _]) rfl ⟨⟨_, _, rfl, rfl⟩, ⟨_, _, rfl, rfl⟩, ⟨_, _, rfl, rfl⟩, ⟨_, _, rfl, rfl⟩, trivial⟩ k132 rfl (fun hG => c132 s d 6 _ b _ hs ht (hb.now S) (by omega) (fit_pse (by omega) (by decide) (by omega))) ?_
     intro w7 B_; have S := S.call B_
     refine asg1 rfl rfl ?_
     refine Ro.nil ?_
     refine Nrm.code ?_
     refine Run.seq ?_
     refine Run.seq ?_
     refine Run.region ?_
     refine mv1 rfl rfl ?_
     refine nt1 rfl rfl ?_
     refine Ro.nil ?_
     refine Nrm.code ?_
     refine Run.cond rfl (fun hc13 => ?_) (fun hc13 => ?_)
     ·
      try simp only [Bool.or_eq_true, Bool.and_eq_true, Bool.or_eq_false_iff, Bool.and_eq_false_iff, decide_eq_true_eq, decide_eq_false_iff_not, Bool.not_eq_true', Bool.not_eq_false', Bool.not_eq_true, Bool.not_eq_false] at hc13
      have hgd : psum s d 6 b ≠ 65535 := by simpa using hc13
      refine Run.seq ?_
      refine Run.region ?_
      refine ldW rfl T82 S (i := 0) rfl rfl rfl rfl rfl ?_
      refine stW rfl rfl T82 rfl rfl (by simp [Value.oneCell']) S (i := 1) rfl rfl ?_
      intro w8 S
      refine asg1 rfl rfl ?_
      refine Ro.nil ?_
      refine Nrm.code ?_
      refine Run.ret ?_
      refine Rt.cell2 rfl rfl rfl T82 S (i := 1) rfl rfl ?_
      have he : tcpE s d b = 96 := by
       unfold tcpE
       rw [if_neg (by omega), if_neg (by omega), if_neg (by omega), if_neg (by omega), if_pos hgd]
      exact ⟨.slice none 0 0, .slice none 0 0, by rw [tcpT_err he (by omega), he]; rfl, S.bl, fun _ _ => by rw [tcpT_err he (by omega)]; exact ⟨OS.nil _ _, BS.nil _ _⟩⟩
     ·
      try simp only [Bool.or_eq_true, Bool.and_eq_true, Bool.or_eq_false_iff, Bool.and_eq_false_iff, decide_eq_true_eq, decide_eq_false_iff_not, Bool.not_eq_true', Bool.not_eq_false', Bool.not_eq_true, Bool.not_eq_false] at hc13
      have hgd : ¬ psum s d 6 b ≠ 65535 := by simpa using hc13
      refine Run.skip ?_
      refine Nrm.code ?_
      refine Run.seq ?_
      refine Run.region ?_
      refine mv1 rfl rfl ?_
      refine mv1 rfl rfl ?_
      refine slC (lo := 20) (hi := tcpH b) (mx := capV v) rfl hb e26 rfl rfl rfl (i1 := some 20) (i2 := some (tcpH b)) (i3 := none) ⟨_, _, _, rfl, rfl⟩ ⟨_, _, _, rfl, rfl⟩ trivial rfl rfl rfl (fun h => by first | rfl | cases h) (fun hG => by (try simp [allT] at hG); have hcap := hb.cap; omega) ?_
      have hv53 := hb.cut (lo := 20) (hi := tcpH b) (mx := capV v) (by have hcap := hb.cap; omega)
      have S0 := S
      have SS0 := S
      refine call (vs := [_]) ⟨⟨_, _, rfl, rfl⟩, trivial⟩ k78 rfl (c78 _ _ _ (hv53.now S)) ?_
      rintro _ w8 ⟨o54, rfl, hFO⟩
      have S := S.call hFO.1
      have ho54 := hFO.2 _ S0.lt
      have ho54F := hFO.2 _ SS0.ltR
      obtain ⟨N1, hN1, S_1⟩ := S.reb
      have hb := hb.st S; rw [hN1] at hb
      rw [hN1] at ho54
      rw [hN1] at ho54F
      have SS := S
      have S := S_1
      refine mv1 rfl rfl ?_
      refine extr1 rfl rfl rfl ?_
      refine extr1 rfl rfl rfl ?_
      refine asg1 rfl rfl ?_
      refine asg1 rfl rfl ?_
      refine Ro.nil ?_
      refine Nrm.code ?_
      refine Run.seq ?_
      refine Run.seq ?_
      refine Run.region ?_
      refine mv1 rfl rfl ?_
      refine neq1 rfl rfl rfl ?_
      refine Ro.nil ?_
      refine Nrm.code ?_
      refine Run.cond rfl (fun hc16 => ?_) (fun hc16 => ?_)
      ·
       try simp only [Bool.or_eq_true, Bool.and_eq_true, Bool.or_eq_false_iff, Bool.and_eq_false_iff, decide_eq_true_eq, decide_eq_false_iff_not, Bool.not_eq_true', Bool.not_eq_false', Bool.not_eq_true, Bool.not_eq_false] at hc16
       refine Run.seq ?_
       refine Run.region ?_
       refine ldW rfl T82 S (i := 0) rfl rfl rfl rfl rfl ?_
       refine mv1 rfl rfl ?_
       refine stW rfl rfl T82 rfl rfl (by simp [Value.oneCell']) S (i := 1) rfl rfl ?_
       intro w9 S
       refine asg1 rfl rfl ?_
       refine Ro.nil ?_
       refine Nrm.code ?_
       refine Run.ret ?_
       refine Rt.cell2 rfl rfl rfl T82 S (i := 1) rfl rfl ?_
       have he : tcpE s d b = tE (tcpO b) := by
        unfold tcpE
        rw [if_neg (by omega), if_neg (by omega), if_neg (by omega), if_neg (by omega), if_neg hgd]
       exact ⟨.slice none 0 0, .slice none 0 0, by rw [tcpT_err he (by omega), he]; rfl, (SS.tran hN1 S).bl, fun _ _ => by rw [tcpT_err he (by omega)]; exact ⟨OS.nil _ _, BS.nil _ _⟩⟩
      ·
       try simp only [Bool.or_eq_true, Bool.and_eq_true, Bool.or_eq_false_iff, Bool.and_eq_false_iff, decide_eq_true_eq, decide_eq_false_iff_not, Bool.not_eq_true', Bool.not_eq_false', Bool.not_eq_true, Bool.not_eq_false] at hc16
       refine Run.skip ?_
       refine Nrm.code ?_
       refine Run.seq ?_
       refine Run.heldB (by kernel_rfl) S [true, false, true, true] rfl rfl rfl ?_
       intro w9 BD S SC
       refine Hb.take (i := 0) SC (fun _ _ S B => S.call B) Pp.body rfl (by kernel_rfl) (by kernel_rfl) (by kernel_rfl) rfl rfl ?_
       refine qmv rfl rfl rfl rfl ?_
       refine Hb.back ?_
       refine Hb.take (i := 2) SC (fun _ _ S B => S.call B) Pp.body rfl (by kernel_rfl) (by kernel_rfl) (by kernel_rfl) rfl rfl ?_
       refine qmv rfl rfl rfl rfl ?_
       refine Hb.back ?_
       refine Hb.take (i := 4) SC (fun _ _ S B => S.call B) Pp.body rfl (by kernel_rfl) (by kernel_rfl) (by kernel_rfl) rfl rfl ?_
       refine qmv rfl rfl rfl rfl ?_
       refine Hb.back ?_
       refine Hb.take (i := 6) SC (fun _ _ S B => S.call B) Pp.body rfl (by kernel_rfl) (by kernel_rfl) (by kernel_rfl) rfl rfl ?_
       refine qmv rfl rfl rfl rfl ?_
       refine Hb.back ?_
       refine Hb.take (i := 8) SC (fun _ _ S B => S.call B) Pp.body rfl (by kernel_rfl) (by kernel_rfl) (by kernel_rfl) rfl rfl ?_
       refine qmv rfl rfl rfl rfl ?_
       refine Hb.back ?_
       refine Hb.take (i := 9) SC (fun _ _ S B => S.call B) Pp.body rfl (by kernel_rfl) (by kernel_rfl) (by kernel_rfl) rfl rfl ?_
       refine qixa rfl rfl hb.2 e26 rfl rfl rfl rfl (fun _ => by first | omega | (simp only [List.length_cons, List.length_nil]; omega)) ?_
       refine Hb.back ?_
       refine Hb.take (i := 10) SC (fun _ _ S B => S.call B) Pp.body rfl (by kernel_rfl) (by kernel_rfl) (by kernel_rfl) rfl rfl ?_
       refine qldB rfl hb (fun _ S => S) T5 rfl rfl rfl (fun _ => by omega) ?_
       intro q71 hq71 hbq71
       try simp only [Int.toNat_natCast, Nat.mul_one, Int.reduceToNat] at hq71
       refine Hb.back ?_
       refine Hb.take (i := 11) SC (fun _ _ S B => S.call B) Pp.body rfl (by kernel_rfl) (by kernel_rfl) (by kernel_rfl) rfl rfl ?_
       refine qcvi rfl rfl rfl rfl Tryd.underlying5 Tryd.underlying3 (fun _ => w64 (by omega)) ?_
       refine Hb.back ?_
       refine Hb.take (i := 12) SC (fun _ _ S B => S.call B) Pp.body rfl (by kernel_rfl) (by kernel_rfl) (by kernel_rfl) rfl rfl ?_
       refine qmv rfl rfl rfl rfl ?_
       refine Hb.back ?_
       refine Hb.take (i := 14) SC (fun _ _ S B => S.call B) Pp.body rfl (by kernel_rfl) (by kernel_rfl) (by kernel_rfl) rfl rfl ?_
       refine qmv rfl rfl rfl rfl ?_
       refine Hb.back ?_
       refine Hb.take (i := 16) SC (fun _ _ S B => S.call B) Pp.body rfl (by kernel_rfl) (by kernel_rfl) (by kernel_rfl) rfl rfl ?_
       refine qmv rfl rfl rfl rfl ?_
       refine Hb.back ?_
       refine Hb.take (i := 17) SC (fun _ _ S B => S.call B) Pp.body rfl (by kernel_rfl) (by kernel_rfl) (by kernel_rfl) rfl rfl ?_
       refine qmv rfl rfl rfl rfl ?_
       refine Hb.back ?_
       refine Hb.take (i := 18) SC (fun _ _ S B => S.call B) Pp.body rfl (by kernel_rfl) (by kernel_rfl) (by kernel_rfl) rfl rfl ?_
       refine qmv rfl rfl rfl rfl ?_
       refine Hb.back ?_
       refine Hb.take (i := 19) SC (fun _ _ S B => S.call B) Pp.body rfl (by kernel_rfl) (by kernel_rfl) (by kernel_rfl) rfl rfl ?_
       have hv80 := hb.cut (lo := tcpH b) (hi := b.length) (mx := capV v) (by have hcap := hb.cap; omega)
       refine qslC (lo := tcpH b) (hi := b.length) (mx := capV v) rfl hb e26 rfl rfl rfl (i1 := some (tcpH b)) (i2 := none) (i3 := none) ⟨_, _, _, rfl, rfl⟩ trivial trivial rfl rfl rfl (fun h => by first | rfl | cases h) (fun hG => by (try simp [allT] at hG); have hcap := hb.cap; omega) ?_
       refine Hb.back ?_
       refine Hb.call (i := 1) SC (fun _ _ S B => S.call B) Pp.body rfl (by kernel_rfl) (by kernel_rfl) (by kernel_rfl) rfl (vs := [_, _, _]) rfl ⟨⟨_, _, rfl, rfl⟩, ⟨_, _, rfl, rfl⟩, ⟨_, _, rfl, rfl⟩, trivial⟩ k131 rfl (fun hG w_ S => (by have := c131 _ b 0 2 _ (hb.now S) (by omega) (by decide) (by omega); rw [numN_2] at this; exact this)) ?_
       refine Hb.call (i := 3) SC (fun _ _ S B => S.call B) Pp.body rfl (by kernel_rfl) (by kernel_rfl) (by kernel_rfl) rfl (vs := [_, _, _]) rfl ⟨⟨_, _, rfl, rfl⟩, ⟨_, _, rfl, rfl⟩, ⟨_, _, rfl, rfl⟩, trivial⟩ k131 rfl (fun hG w_ S => (by have := c131 _ b 2 2 _ (hb.now S) (by omega) (by decide) (by omega); rw [numN_2] at this; exact this)) ?_
       refine Hb.call (i := 5) SC (fun _ _ S B => S.call B) Pp.body rfl (by kernel_rfl) (by kernel_rfl) (by kernel_rfl) rfl (vs := [_, _, _]) rfl ⟨⟨_, _, rfl, rfl⟩, ⟨_, _, rfl, rfl⟩, ⟨_, _, rfl, rfl⟩, trivial⟩ k131 rfl (fun hG w_ S => (by have := c131 _ b 4 4 _ (hb.now S) (by omega) (by decide) (by omega); exact this)) ?_
       refine Hb.call (i := 7) SC (fun _ _ S B => S.call B) Pp.body rfl (by kernel_rfl) (by kernel_rfl) (by kernel_rfl) rfl (vs := [_, _, _]) rfl ⟨⟨_, _, rfl, rfl⟩, ⟨_, _, rfl, rfl⟩, ⟨_, _, rfl, rfl⟩, trivial⟩ k131 rfl (fun hG w_ S => (by have := c131 _ b 8 4 _ (hb.now S) (by omega) (by decide) (by omega); exact this)) ?_
       refine Hb.call (i := 13) SC (fun _ _ S B => S.call B) Pp.body rfl (by kernel_rfl) (by kernel_rfl) (by kernel_rfl) rfl (vs := [_, _, _]) rfl ⟨⟨_, _, rfl, rfl⟩, ⟨_, _, rfl, rfl⟩, ⟨_, _, rfl, rfl⟩, trivial⟩ k131 rfl (fun hG w_ S => (by have := c131 _ b 14 2 _ (hb.now S) (by omega) (by decide) (by omega); rw [numN_2] at this; exact this)) ?_
       refine Hb.call (i := 15) SC (fun _ _ S B => S.call B) Pp.body rfl (by kernel_rfl) (by kernel_rfl) (by kernel_rfl) rfl (vs := [_, _, _]) rfl ⟨⟨_, _, rfl, rfl⟩, ⟨_, _, rfl, rfl⟩, ⟨_, _, rfl, rfl⟩, trivial⟩ k131 rfl (fun hG w_ S => (by have := c131 _ b 18 2 _ (hb.now S) (by omega) (by decide) (by omega); rw [numN_2] at this; exact this)) ?_
       refine Hb.one (i := 20) (by kernel_rfl) rfl rfl ?_
       intro w10 BD; have S := S.call BD
       have S0 := S
       have SS0 := (SS.tran hN1 S)
       refine call (vs := [_]) ⟨⟨_, _, rfl, rfl⟩, trivial⟩ k39 rfl (c39 _ _ _ (hv80.now S) (by rw [List.length_take, List.length_drop]; omega)) ?_
       rintro d81 w11 hFd81
       have S := S.call hFd81.1
       have hd81 := hFd81.bs hv80.1 S0.lt
       have hd81F := hFd81.bs hv80.1 SS0.ltR
       obtain ⟨N2, hN2, S_2⟩ := S.reb
       have hb := hb.st S; rw [hN2] at hb
       have ho54 := ho54.st S; rw [hN2] at ho54
       have ho54F := ho54F.reF S; rw [hN2] at ho54F
       rw [hN2] at hd81
       rw [hN2] at hd81F
       have SS := SS.tran hN1 S
       have SH := S
       have S := S_2
       have SC := (SH.tran hN2 S).pick [true, false, true, true] rfl
       refine Hb.on SC ?_
       refine Hb.take (i := 21) SC (fun _ _ S B => S.call B) Pp.body rfl (by kernel_rfl) (by kernel_rfl) (by kernel_rfl) rfl rfl ?_
       refine qbld B82 (qs := [(_, _), (_, _), (_, _), (_, _), (_, _), (_, _), (_, _), (_, _), (_, _)]) ⟨⟨_, _, _, rfl, rfl, rfl, rfl, by first | (simp [Value.cells]; done) | simp [Value.cells, encIP]⟩, ⟨_, _, _, rfl, rfl, rfl, rfl, by first | (simp [Value.cells]; done) | simp [Value.cells, encIP]⟩, ⟨_, _, _, rfl, rfl, rfl, rfl, by first | (simp [Value.cells]; done) | simp [Value.cells, encIP]⟩, ⟨_, _, _, rfl, rfl, rfl, rfl, by first | (simp [Value.cells]; done) | simp [Value.cells, encIP]⟩, ⟨_, _, _, rfl, rfl, rfl, rfl, by first | (simp [Value.cells]; done) | simp [Value.cells, encIP]⟩, ⟨_, _, _, rfl, rfl, rfl, rfl, by first | (simp [Value.cells]; done) | simp [Value.cells, encIP]⟩, ⟨_, _, _, rfl, rfl, rfl, rfl, by first | (simp [Value.cells]; done) | simp [Value.cells, encIP]⟩, ⟨_, _, _, rfl, rfl, cells1 ho54.one, rfl, List.cons_ne_nil _ _⟩, ⟨_, _, _, rfl, rfl, cells1 hd81.one, rfl, List.cons_ne_nil _ _⟩, trivial⟩ rfl rfl rfl ?_
       refine Hb.back ?_
       refine Hb.one (i := 22) (by kernel_rfl) rfl rfl ?_
       intro w12 BD; have S := S.call BD
       refine stW rfl rfl T82 rfl rfl (one_cons rfl (one_cons rfl (one_cons rfl (one_cons rfl (one_cons rfl (one_cons rfl (one_cons rfl (one_cons ho54.one (one_cons hd81.one one_nil))))))))) S (i := 1) rfl rfl ?_
       intro w13 S
       have SC := (SH.tran hN2 S).pick [true, false, true, true] rfl
       refine Hb.on SC ?_
       refine Hb.take (i := 23) SC (fun _ _ S B => S.call B) Pp.body rfl (by kernel_rfl) (by kernel_rfl) (by kernel_rfl) rfl rfl ?_
       refine qasg rfl rfl rfl rfl ?_
       refine Hb.back ?_
       refine Hb.done (by kernel_rfl) ?_
       intro w14 BD; have S := S.call BD
       refine Nrm.code ?_
       refine Run.ret ?_
       refine Rt.cell2 rfl rfl rfl T82 S (i := 1) rfl rfl ?_
       have he : tcpE s d b = 0 := by
        unfold tcpE
        rw [if_neg (by omega), if_neg (by omega), if_neg (by omega), if_neg (by omega), if_neg hgd]
        omega
       have e71 : q71 = b.getD 13 0 := hq71
       exact ⟨o54, d81, by rw [tcpT, if_pos he, he, e71]; rfl, (SS.tran hN2 S).bl, fun N hN => by rw [tcpT, if_pos he]; exact ⟨ho54F.fin S hN, hd81F.fin S hN⟩⟩
end Go.Proofs.YtkahmepenjhcpaaDoor.W
/- Tables of layer 9, as a row lays them. No statement of the seat is proved here. -/
namespace Go.Proofs.YtkahmepenjhcpaaDoor.W
open Go
set_option linter.unusedVariables false
set_option linter.unusedSimpArgs false
theorem laid_tl {P : Program} {x : String × DataW Unit} {r : List (String × DataW Unit)} {w : World} (h : laidMet P (x :: r) w) : laidMet P r w := by
  obtain ⟨ps, hv, hnd, hrows⟩ := h
  obtain ⟨n, d⟩ := x
  obtain ⟨g, t, cs, fuel, p, q, _, _, _, _, hq, rfl⟩ := hv
  exact ⟨q, hq, List.Nodup.sublist (List.sublist_append_right _ _) hnd, fun b off hm => hrows b off (List.mem_append_right _ hm)⟩
theorem gv_tab {W : World} {name : String} {k : IntKind} {zs : List Int} {g : Nat} {T : TypeId} (h : Lib.TabIs Tryd.prog W name k zs) (hg : Tryd.prog.globalNamed name = some g) : GV [] W g T (zs.map fun z => Value.int k z) := by
  intro i hi
  have hi' : i < zs.length := by simpa using hi
  refine ⟨⟨g, 0, none⟩, rfl, rfl, by simp, ?_⟩
  have := h.cell hg i hi'
  rw [Nat.zero_add, this, List.getElem_map, List.getD_eq_getElem?_getD, List.getElem?_eq_getElem hi']
  rfl
theorem gName1 : Tryd.prog.globalNamed "weir/l4.udpWidths" = some 1 := by kernel_rfl
theorem gName2 : Tryd.prog.globalNamed "weir/l4.tcpWidths" = some 2 := by kernel_rfl
theorem gName3 : Tryd.prog.globalNamed "weir/l4.lengths" = some 3 := by kernel_rfl
theorem gType1 : (Tryd.prog.globals[1]?).map (·.type) = some 163 := by kernel_rfl
theorem gType2 : (Tryd.prog.globals[2]?).map (·.type) = some 166 := by kernel_rfl
theorem gType3 : (Tryd.prog.globals[3]?).map (·.type) = some 183 := by kernel_rfl
theorem cells163 : Tryd.prog.cellsOf 163 = 4 := by kernel_rfl
theorem cells166 : Tryd.prog.cellsOf 166 = 10 := by kernel_rfl
theorem cells183 : Tryd.prog.cellsOf 183 = 9 := by kernel_rfl
theorem cells182 : Tryd.prog.cellsOf 182 = 1 := by kernel_rfl
def laid9 : List (String × DataW Unit) := [("weir/l4.udpWidths", Lib.tabData .i64 W16), ("weir/l4.tcpWidths", Lib.tabData .i64 W10), ("weir/l4.lengths", Lib.tabData .u64 lenT)]
theorem gv1_of {W : World} (h : laidMet Tryd.prog laid9 W) : GV [] W 1 163 (W16.map i64) :=
  gv_tab (Lib.tabIs_of_head gName1 gType1 Tryd.underlying163 Tryd.underlying3 cells3 cells163 h) gName1
theorem gv2_of {W : World} (h : laidMet Tryd.prog laid9 W) : GV [] W 2 166 (W10.map i64) :=
  gv_tab (Lib.tabIs_of_head gName2 gType2 Tryd.underlying166 Tryd.underlying3 cells3 cells166 (laid_tl h)) gName2
theorem gv3_of {W : World} (h : laidMet Tryd.prog laid9 W) : GV [] W 3 183 (lenT.map u64) :=
  gv_tab (Lib.tabIs_of_head (rest := []) gName3 gType3 Tryd.underlying183 Tryd.underlying182 cells182 cells183 (laid_tl (laid_tl h))) gName3
def setC (c : Array Value) : Obj → Obj
  | .cells _ t frozen => .cells c t frozen
  | o => o
noncomputable def laidWorld9 (os : Os) : World :=
  { World.holding Tryd.prog os ⟨#[], #[], []⟩ with
    heap := (((World.holding Tryd.prog os ⟨#[], #[], []⟩).heap.modify 1 (setC #[.int .i64 16, .int .i64 16, .int .i64 16, .int .i64 16])).modify 2 (setC #[.int .i64 16, .int .i64 16, .int .i64 32, .int .i64 32, .int .i64 4, .int .i64 4, .int .i64 8, .int .i64 16, .int .i64 16, .int .i64 16])).modify 3 (setC #[.int .u64 0, .int .u64 0, .int .u64 16, .int .u64 8, .int .u64 4, .int .u64 17247241216, .int .u64 0, .int .u64 0, .int .u64 1024]) }
end Go.Proofs.YtkahmepenjhcpaaDoor.W
/- Contracts: segments written. No statement of the seat is proved here. -/
namespace Go.Proofs.YtkahmepenjhcpaaDoor.W
open Go
set_option linter.unusedSimpArgs false
set_option linter.unusedVariables false
theorem bitsOf_32 {v : Int} (h : 0 ≤ v ∧ v < 4294967296) : bitsOf v 32 = bitsB [v / 16777216, v / 65536 % 256, v / 256 % 256, v % 256] := by
  simp only [bitsB, bitsOf, List.append_nil, List.nil_append, List.cons_append, List.cons.injEq, and_true, Int.reducePow]
  refine ⟨?_, ?_, ?_, ?_, ?_, ?_, ?_, ?_, ?_, ?_, ?_, ?_, ?_, ?_, ?_, ?_, ?_, ?_, ?_, ?_, ?_, ?_, ?_, ?_, ?_, ?_, ?_, ?_, ?_, ?_, ?_, ?_⟩ <;> omega
def hdT (t : Tcp) : Int := (20 + ((tputL t.opts).length : Int)) / 4
def tcp20 (t : Tcp) : List Int := [t.sport / 256, t.sport % 256] ++ [t.dport / 256, t.dport % 256] ++ [t.seq / 16777216, t.seq / 65536 % 256, t.seq / 256 % 256, t.seq % 256] ++ [t.ack / 16777216, t.ack / 65536 % 256, t.ack / 256 % 256, t.ack % 256] ++ [hdT t * 16 + 0] ++ [t.flags] ++ [t.win / 256, t.win % 256] ++ [(0 : Int) / 256, (0 : Int) % 256] ++ [t.urg / 256, t.urg % 256]
def tcpB0 (t : Tcp) : List Int := tcp20 t ++ tputL t.opts ++ t.data
def tcpC (s d : IP) (t : Tcp) : Int := 65535 - psum s d 6 (tcpB0 t)
def putTE (s d : IP) (t : Tcp) : Int := if fitE s d = 0 then chkT t else fitE s d
def putTB (s d : IP) (t : Tcp) : List Int := ((tcpB0 t).set 16 (tcpC s d t / 256)).set 17 (tcpC s d t % 256)
def putTL (s d : IP) (t : Tcp) : List Int := if putTE s d t = 0 then putTB s d t else []
theorem putTE_fit {s d : IP} {t : Tcp} (h : fitE s d = 0) : putTE s d t = chkT t := by unfold putTE; rw [if_pos h]
theorem putTE_no {s d : IP} {t : Tcp} (h : fitE s d ≠ 0) : putTE s d t = fitE s d := by unfold putTE; rw [if_neg h]
theorem putTE_bd (s d : IP) (t : Tcp) : 0 ≤ putTE s d t ∧ putTE s d t ≤ 98 := by
  have := fitE_or s d
  have := chkT_bd t
  unfold putTE; split <;> omega
theorem putTE_zero {s d : IP} {t : Tcp} (h : putTE s d t = 0) : fitE s d = 0 ∧ chkT t = 0 := by
  have := fitE_or s d
  unfold putTE at h
  by_cases h1 : fitE s d = 0
  · rw [if_pos h1] at h; exact ⟨h1, h⟩
  · rw [if_neg h1] at h; omega
theorem hdT_bd (t : Tcp) : 5 ≤ hdT t ∧ hdT t < 16 ∧ hdT t * 4 = 20 + ((tputL t.opts).length : Int) := by
  have := tputL_len t.opts
  unfold hdT; omega
theorem tcp20_len (t : Tcp) : (tcp20 t).length = 20 := rfl
theorem tcpB0_len (t : Tcp) : (tcpB0 t).length = 20 + (tputL t.opts).length + t.data.length := by simp [tcpB0, tcp20_len]; omega
theorem byt2 {v : Int} (h : 0 ≤ v ∧ v ≤ 65535) : byt [v / 256, v % 256] := by
  intro x hx
  simp only [List.mem_cons, List.not_mem_nil, or_false] at hx
  rcases hx with rfl | rfl <;> omega
theorem byt4 {v : Int} (h : 0 ≤ v ∧ v ≤ 4294967295) : byt [v / 16777216, v / 65536 % 256, v / 256 % 256, v % 256] := by
  intro x hx
  simp only [List.mem_cons, List.not_mem_nil, or_false] at hx
  rcases hx with rfl | rfl | rfl | rfl <;> omega
theorem byt1 {v : Int} (h : 0 ≤ v ∧ v ≤ 255) : byt [v] := by
  intro x hx
  simp only [List.mem_cons, List.not_mem_nil, or_false] at hx
  subst hx; omega
theorem tcp20_byt {t : Tcp} (h : chkT t = 0) : byt (tcp20 t) := by
  have hb := badT_off (chkT_zero h).1
  have hh := hdT_bd t
  unfold tcp20
  exact byt_app (byt_app (byt_app (byt_app (byt_app (byt_app (byt_app (byt_app (byt2 (by omega)) (byt2 (by omega))) (byt4 (by omega))) (byt4 (by omega))) (byt1 (by omega))) (byt1 (by omega))) (byt2 (by omega))) (byt2 (by omega))) (byt2 (by omega))
theorem tcpB0_byt {t : Tcp} (h : chkT t = 0) (ho : ∀ o ∈ t.opts, W.byt o.data) (hd : byt t.data) : byt (tcpB0 t) := byt_app (byt_app (tcp20_byt h) (tputL_byt ho)) hd
theorem tcpC_bd {s d : IP} {t : Tcp} (hs : s.ok) (ht : d.ok) (hb : byt (tcpB0 t)) : 0 ≤ tcpC s d t ∧ tcpC s d t ≤ 65535 := by
  have := psum_bd (p := 6) hs ht hb
  unfold tcpC; omega
theorem putTL_byt {s d : IP} {t : Tcp} (hs : s.ok) (ht : d.ok) (ho : ∀ o ∈ t.opts, W.byt o.data) (hd : byt t.data) : byt (putTL s d t) := by
  unfold putTL
  split
  · rename_i h
    have hb := tcpB0_byt (putTE_zero h).2 ho hd
    have hc := tcpC_bd hs ht hb
    unfold putTB
    exact byt_set (byt_set hb _ (by omega)) _ (by omega)
  · exact byt_nil
theorem tcp20_bits {t : Tcp} (h : chkT t = 0) : bitsB (tcp20 t) = strm W10 [t.sport, t.dport, t.seq, t.ack, hdT t, 0, t.flags, t.win, 0, t.urg] := by
  have hb := badT_off (chkT_zero h).1
  have hh := hdT_bd t
  have e : strm W10 [t.sport, t.dport, t.seq, t.ack, hdT t, 0, t.flags, t.win, 0, t.urg] =
      bitsOf t.sport 16 ++ (bitsOf t.dport 16 ++ (bitsOf t.seq 32 ++ (bitsOf t.ack 32 ++ ((bitsOf (hdT t) 4 ++ bitsOf 0 4) ++ (bitsOf t.flags 8 ++ (bitsOf t.win 16 ++ (bitsOf 0 16 ++ bitsOf t.urg 16))))))) := by
    simp [strm, W10, List.append_assoc]
  rw [e, bitsOf_16 (by omega), bitsOf_16 (by omega), bitsOf_32 (by omega), bitsOf_32 (by omega), bitsOf_44 (by omega) (by omega), bitsOf_8, bitsOf_16 (by omega), bitsOf_16 (by omega), bitsOf_16 (by omega)]
  simp only [← bitsB_app]
  rfl
theorem tcp20_pack {t : Tcp} (h : chkT t = 0) : ∀ i, i < W10.length → 0 ≤ [t.sport, t.dport, t.seq, t.ack, hdT t, 0, t.flags, t.win, 0, t.urg].getD i 0 ∧ [t.sport, t.dport, t.seq, t.ack, hdT t, 0, t.flags, t.win, 0, t.urg].getD i 0 < 2 ^ (W10.getD i 0).toNat := by
  have hb := badT_off (chkT_zero h).1
  have hh := hdT_bd t
  intro i hi
  rcases i with _ | _ | _ | _ | _ | _ | _ | _ | _ | _ | i
  all_goals first
    | (simp only [W10, List.getD_cons_zero, List.getD_cons_succ, Int.reducePow, Int.reduceToNat]; omega)
    | (exfalso; simp at hi; omega)
theorem tcp20_be {t : Tcp} (h : chkT t = 0) : ([] ++ beN t.sport 2 ++ beN t.dport 2 ++ beN t.seq 4 ++ beN t.ack 4 ++ beN ((20 + ((tputL t.opts).length : Int)) / 4 * 16) 1 ++ beN t.flags 1 ++ beN t.win 2 ++ beN 0 2 ++ beN t.urg 2) = tcp20 t := by
  have hb := badT_off (chkT_zero h).1
  have hh := hdT_bd t
  rw [beN_2, beN_2, beN_4, beN_4, beN_1, beN_1, beN_2, beN_2, beN_2]
  rw [show (20 + ((tputL t.opts).length : Int)) / 4 = hdT t from rfl]
  simp only [tcp20, List.nil_append]
  rw [show t.sport / 256 % 256 = t.sport / 256 from by omega, show t.dport / 256 % 256 = t.dport / 256 from by omega, show t.seq / 16777216 % 256 = t.seq / 16777216 from by omega, show t.ack / 16777216 % 256 = t.ack / 16777216 from by omega,
    show hdT t * 16 % 256 = hdT t * 16 + 0 from by omega, show t.flags % 256 = t.flags from by omega, show t.win / 256 % 256 = t.win / 256 from by omega, show t.urg / 256 % 256 = t.urg / 256 from by omega]
  rfl
set_option maxHeartbeats 1000000 in
theorem c61 (s d : IP) (t : Tcp) (o dv : Value) (w : World) (hs : s.ok) (ht : d.ok) (hO : OS [] w o t.opts) (hd : BS [] w dv t.data) (hol : t.opts.length ≤ 1099511627776) (hoo : ∀ p ∈ t.opts, p.data.length ≤ 1099511627776) (hdl : t.data.length ≤ 1099511627776) (hg2 : GV [] w 2 166 (W10.map i64)) (hg3 : GV [] w 3 183 (lenT.map u64)) :
  CallsV Tryd.prog 61 #[.agg (encIP s).toArray, .agg (encIP d).toArray, .agg (encTcp t o dv).toArray] w (fun r w' => ∃ v, r = .tuple #[v, .int .i64 (putTE s d t)] ∧ FB w w' v (putTL s d t)) := by
 refine enter Tryd.func61 rfl Tryd.ntmps61 (l := [(0, [], _), (1, [], _), (2, [], _)]) rfl rfl ?_
 have S := St.refl [] w
 have hpb0 := putTE_bd s d t
 have hfo := fitE_or s d
 refine Run.seq ?_
 refine Run.region ?_
 refine boxA rfl S rfl ?_
 intro b3 w1 hb3 S B_
 refine boxA rfl S rfl ?_
 intro b4 w2 hb4 S B_
 refine boxA rfl S rfl ?_
 intro b5 w3 hb5 S B_
 refine asg1 rfl rfl ?_
 refine asg1 rfl rfl ?_
 refine Ro.nil ?_
 refine Nrm.code ?_
 refine Run.seq ?_
 refine Run.region ?_
 refine ldW rfl T24 S (i := 2) rfl rfl rfl rfl rfl ?_
 refine ldW rfl T24 S (i := 1) rfl rfl rfl rfl rfl ?_
 refine calg (vs := [_, _]) rfl ⟨⟨_, _, rfl, rfl⟩, ⟨_, _, rfl, rfl⟩, trivial⟩ k123 rfl (fun hG => c123 s d _ hs ht) ?_
 intro w4 B_; have S := S.call B_
 refine asg1 rfl rfl ?_
 refine Ro.nil ?_
 refine Nrm.code ?_
 refine Run.cut (γ := Unit) (fun g w_ => St [] w [.var b5 82 (encTcp t o dv), .var b4 24 (encIP d), .var b3 24 (encIP s)] w_) (fun g => [(3, [], .pointer (some ⟨b3, 0, none⟩)), (4, [], .pointer (some ⟨b4, 0, none⟩)), (5, [], .pointer (some ⟨b5, 0, none⟩)), (8, [], .int .i64 (putTE s d t))]) ?_ ?_
 ·
  refine Run.seq ?_
  refine Run.region ?_
  refine mv1 rfl rfl ?_
  refine eql1 rfl rfl rfl ?_
  refine Ro.nil ?_
  refine Nrm.code ?_
  refine Run.cond rfl (fun hc2 => ?_) (fun hc2 => ?_)
  ·
   try simp only [Bool.or_eq_true, Bool.and_eq_true, Bool.or_eq_false_iff, Bool.and_eq_false_iff, decide_eq_true_eq, decide_eq_false_iff_not, Bool.not_eq_true', Bool.not_eq_false', Bool.not_eq_true, Bool.not_eq_false] at hc2
   refine Run.region ?_
   refine ldW rfl T82 S (i := 0) rfl rfl rfl rfl rfl ?_
   refine calg (vs := [_]) rfl ⟨⟨_, _, rfl, rfl⟩, trivial⟩ k64 rfl (fun hG => c64 _ _ _ _ (hO.now S) (hd.now S) hol hoo hdl (hg3.now S)) ?_
   intro w5 B_; have S := S.call B_
   refine asg1 rfl rfl ?_
   refine Ro.nil ?_
   exact Nrm.cut () S ⟨rfl, rfl, rfl, (by rw [putTE_fit hc2]; rfl), trivial⟩
  ·
   try simp only [Bool.or_eq_true, Bool.and_eq_true, Bool.or_eq_false_iff, Bool.and_eq_false_iff, decide_eq_true_eq, decide_eq_false_iff_not, Bool.not_eq_true', Bool.not_eq_false', Bool.not_eq_true, Bool.not_eq_false] at hc2
   refine Run.skip ?_
   exact Nrm.cut () S ⟨rfl, rfl, rfl, (by rw [putTE_no hc2]; rfl), trivial⟩
 ·
  rintro g4 w5 S
  refine Run.seq ?_
  refine Run.seq ?_
  refine Run.region ?_
  refine mv1 rfl rfl ?_
  refine neq1 rfl rfl rfl ?_
  refine Ro.nil ?_
  refine Nrm.code ?_
  refine Run.cond rfl (fun hc4 => ?_) (fun hc4 => ?_)
  ·
   try simp only [Bool.or_eq_true, Bool.and_eq_true, Bool.or_eq_false_iff, Bool.and_eq_false_iff, decide_eq_true_eq, decide_eq_false_iff_not, Bool.not_eq_true', Bool.not_eq_false', Bool.not_eq_true, Bool.not_eq_false] at hc4
   refine Run.seq ?_
   refine Run.region ?_
   refine mv1 rfl rfl ?_
   refine asg1 rfl rfl ?_
   refine asg1 rfl rfl ?_
   refine Ro.nil ?_
   refine Nrm.code ?_
   refine Run.ret ?_
   refine Rt.two rfl rfl rfl ?_
   have hl0 : putTL s d t = [] := by unfold putTL; rw [if_neg (by omega)]
   exact ⟨.slice none 0 0, by rfl, by rw [hl0]; exact (S.nilB).toFB (i := 0) rfl⟩
  ·
   try simp only [Bool.or_eq_true, Bool.and_eq_true, Bool.or_eq_false_iff, Bool.and_eq_false_iff, decide_eq_true_eq, decide_eq_false_iff_not, Bool.not_eq_true', Bool.not_eq_false', Bool.not_eq_true, Bool.not_eq_false] at hc4
   have hpe : putTE s d t = 0 := by omega
   have hz := putTE_zero hpe
   have hzz := chkT_zero hz.2
   have hbo := badT_off hzz.1
   have hpb := tputL_byt hO.byt
   have hpl := tputL_len t.opts
   have hbB := tcpB0_byt hz.2 hO.byt hd.1
   have hlB := tcpB0_len t
   have hCb := tcpC_bd (s := s) (d := d) hs ht hbB
   have h20 := tcp20_len t
   have hpsb := psum_bd (p := 6) hs ht hbB
   have hhd := hdT_bd t
   have hl2 : (tcp20 t ++ tputL t.opts).length = 20 + (tputL t.opts).length := by rw [List.length_append, h20]
   refine Run.skip ?_
   refine Nrm.code ?_
   refine Run.seq ?_
   refine Run.region ?_
   refine fld (o' := 7) rfl fo82_7 rfl rfl rfl rfl ?_
   refine ld1 rfl T25 S (i := 0) rfl rfl rfl rfl rfl ?_
   refine call (vs := [_]) ⟨⟨_, _, rfl, rfl⟩, trivial⟩ k73 rfl (c73 _ _ _ (hO.now S) hol hoo (hg3.now S)) ?_
   rintro _ w6 ⟨u9, rfl, hF⟩
   have S := S.fb hF
   refine mv1 rfl rfl ?_
   refine extr1 rfl rfl rfl ?_
   refine extr1 rfl rfl rfl ?_
   refine asg1 rfl rfl ?_
   refine asg1 rfl rfl ?_
   refine Ro.nil ?_
   refine Nrm.code ?_
   refine Run.seq ?_
   refine Run.region ?_
   refine ldG hg2 S T166 rfl rfl ?_
   refine alc T166 S rfl ?_
   intro b11 w7 hb11 S B_
   refine stW rfl rfl T166 rfl rfl (by simp [Value.oneCell']) S (i := 0) rfl rfl ?_
   intro w8 S
   refine Ro.nil ?_
   refine Nrm.code ?_
   refine Run.seq ?_
   refine Run.heldB (by kernel_rfl) S [true, true, true, true, true] rfl rfl rfl ?_
   intro w9 BD S SC
   refine Hb.take (i := 0) SC (fun _ _ S B => S.call B) Pp.body rfl (by kernel_rfl) (by kernel_rfl) (by kernel_rfl) rfl rfl ?_
   refine qslAT rfl Tryd.underlying166 T3 rfl rfl rfl (i2 := none) trivial rfl (by decide) (by decide) ?_
   refine Hb.back ?_
   refine Hb.take (i := 1) SC (fun _ _ S B => S.call B) Pp.body rfl (by kernel_rfl) (by kernel_rfl) (by kernel_rfl) rfl rfl ?_
   refine qfld (o' := 0) rfl fo82_0 rfl rfl rfl rfl ?_
   refine Hb.back ?_
   refine Hb.take (i := 2) SC (fun _ _ S B => S.call B) Pp.body rfl (by kernel_rfl) (by kernel_rfl) (by kernel_rfl) rfl rfl ?_
   refine qld1 rfl T3 (fun _ S => S) (i := 2) rfl rfl rfl rfl rfl ?_
   refine Hb.back ?_
   refine Hb.take (i := 3) SC (fun _ _ S B => S.call B) Pp.body rfl (by kernel_rfl) (by kernel_rfl) (by kernel_rfl) rfl rfl ?_
   refine qfld (o' := 1) rfl fo82_1 rfl rfl rfl rfl ?_
   refine Hb.back ?_
   refine Hb.take (i := 4) SC (fun _ _ S B => S.call B) Pp.body rfl (by kernel_rfl) (by kernel_rfl) (by kernel_rfl) rfl rfl ?_
   refine qld1 rfl T3 (fun _ S => S) (i := 2) rfl rfl rfl rfl rfl ?_
   refine Hb.back ?_
   refine Hb.take (i := 5) SC (fun _ _ S B => S.call B) Pp.body rfl (by kernel_rfl) (by kernel_rfl) (by kernel_rfl) rfl rfl ?_
   refine qfld (o' := 2) rfl fo82_2 rfl rfl rfl rfl ?_
   refine Hb.back ?_
   refine Hb.take (i := 6) SC (fun _ _ S B => S.call B) Pp.body rfl (by kernel_rfl) (by kernel_rfl) (by kernel_rfl) rfl rfl ?_
   refine qld1 rfl T3 (fun _ S => S) (i := 2) rfl rfl rfl rfl rfl ?_
   refine Hb.back ?_
   refine Hb.take (i := 7) SC (fun _ _ S B => S.call B) Pp.body rfl (by kernel_rfl) (by kernel_rfl) (by kernel_rfl) rfl rfl ?_
   refine qfld (o' := 3) rfl fo82_3 rfl rfl rfl rfl ?_
   refine Hb.back ?_
   refine Hb.take (i := 8) SC (fun _ _ S B => S.call B) Pp.body rfl (by kernel_rfl) (by kernel_rfl) (by kernel_rfl) rfl rfl ?_
   refine qld1 rfl T3 (fun _ S => S) (i := 2) rfl rfl rfl rfl rfl ?_
   refine Hb.back ?_
   refine Hb.take (i := 9) SC (fun _ _ S B => S.call B) Pp.body rfl (by kernel_rfl) (by kernel_rfl) (by kernel_rfl) rfl rfl ?_
   refine qmv rfl rfl rfl rfl ?_
   refine Hb.back ?_
   refine Hb.take (i := 10) SC (fun _ _ S B => S.call B) Pp.body rfl (by kernel_rfl) (by kernel_rfl) (by kernel_rfl) rfl rfl ?_
   refine qlenS rfl (S.slI (i := 1) rfl) Tryd.underlying26 rfl rfl rfl ?_
   refine Hb.back ?_
   refine Hb.take (i := 11) SC (fun _ _ S B => S.call B) Pp.body rfl (by kernel_rfl) (by kernel_rfl) (by kernel_rfl) rfl rfl ?_
   refine qadd rfl rfl rfl rfl rfl rfl (fun _ => w64 (by omega)) ?_
   refine Hb.back ?_
   refine Hb.take (i := 12) SC (fun _ _ S B => S.call B) Pp.body rfl (by kernel_rfl) (by kernel_rfl) (by kernel_rfl) rfl rfl ?_
   refine qquo rfl rfl rfl rfl rfl rfl (fun _ => by decide) (fun _ => q64 (by omega)) ?_
   refine Hb.back ?_
   refine Hb.take (i := 13) SC (fun _ _ S B => S.call B) Pp.body rfl (by kernel_rfl) (by kernel_rfl) (by kernel_rfl) rfl rfl ?_
   refine qfld (o' := 4) rfl fo82_4 rfl rfl rfl rfl ?_
   refine Hb.back ?_
   refine Hb.take (i := 14) SC (fun _ _ S B => S.call B) Pp.body rfl (by kernel_rfl) (by kernel_rfl) (by kernel_rfl) rfl rfl ?_
   refine qld1 rfl T3 (fun _ S => S) (i := 2) rfl rfl rfl rfl rfl ?_
   refine Hb.back ?_
   refine Hb.take (i := 15) SC (fun _ _ S B => S.call B) Pp.body rfl (by kernel_rfl) (by kernel_rfl) (by kernel_rfl) rfl rfl ?_
   refine qfld (o' := 5) rfl fo82_5 rfl rfl rfl rfl ?_
   refine Hb.back ?_
   refine Hb.take (i := 16) SC (fun _ _ S B => S.call B) Pp.body rfl (by kernel_rfl) (by kernel_rfl) (by kernel_rfl) rfl rfl ?_
   refine qld1 rfl T3 (fun _ S => S) (i := 2) rfl rfl rfl rfl rfl ?_
   refine Hb.back ?_
   refine Hb.take (i := 17) SC (fun _ _ S B => S.call B) Pp.body rfl (by kernel_rfl) (by kernel_rfl) (by kernel_rfl) rfl rfl ?_
   refine qfld (o' := 6) rfl fo82_6 rfl rfl rfl rfl ?_
   refine Hb.back ?_
   refine Hb.take (i := 18) SC (fun _ _ S B => S.call B) Pp.body rfl (by kernel_rfl) (by kernel_rfl) (by kernel_rfl) rfl rfl ?_
   refine qld1 rfl T3 (fun _ S => S) (i := 2) rfl rfl rfl rfl rfl ?_
   refine Hb.back ?_
   refine Hb.one (i := 19) (by kernel_rfl) rfl rfl ?_
   intro w10 BD; have S := S.call BD
   refine bsl e132 (qs := [(_, _), (_, _), (_, _), (_, _), (_, _), (_, _), (_, _), (_, _), (_, _), (_, _)]) ⟨⟨_, _, _, rfl, rfl, rfl, rfl, by first | (simp [Value.cells]; done) | simp [Value.cells, encIP]⟩, ⟨_, _, _, rfl, rfl, rfl, rfl, by first | (simp [Value.cells]; done) | simp [Value.cells, encIP]⟩, ⟨_, _, _, rfl, rfl, rfl, rfl, by first | (simp [Value.cells]; done) | simp [Value.cells, encIP]⟩, ⟨_, _, _, rfl, rfl, rfl, rfl, by first | (simp [Value.cells]; done) | simp [Value.cells, encIP]⟩, ⟨_, _, _, rfl, rfl, rfl, rfl, by first | (simp [Value.cells]; done) | simp [Value.cells, encIP]⟩, ⟨_, _, _, rfl, rfl, rfl, rfl, by first | (simp [Value.cells]; done) | simp [Value.cells, encIP]⟩, ⟨_, _, _, rfl, rfl, rfl, rfl, by first | (simp [Value.cells]; done) | simp [Value.cells, encIP]⟩, ⟨_, _, _, rfl, rfl, rfl, rfl, by first | (simp [Value.cells]; done) | simp [Value.cells, encIP]⟩, ⟨_, _, _, rfl, rfl, rfl, rfl, by first | (simp [Value.cells]; done) | simp [Value.cells, encIP]⟩, ⟨_, _, _, rfl, rfl, rfl, rfl, by first | (simp [Value.cells]; done) | simp [Value.cells, encIP]⟩, trivial⟩ rfl rfl rfl rfl S ?_
   intro u54 w11 S B_
   have SC := S.pick [false, true, true, true, true, true] rfl
   refine Hb.on SC ?_
   refine Hb.one (i := 20) (by kernel_rfl) rfl rfl ?_
   intro w12 BD; have S := S.call BD
   refine call (vs := [_, _]) ⟨⟨_, _, rfl, rfl⟩, ⟨_, _, rfl, rfl⟩, trivial⟩ k95 rfl (c95 _ _ W10 [t.sport, t.dport, t.seq, t.ack, hdT t, 0, t.flags, t.win, 0, t.urg] _ (S.varSl (i := 1) (m := 10) (sz := 1) rfl rfl rfl (by decide)) (S.isI (l := [t.sport, t.dport, t.seq, t.ack, hdT t, 0, t.flags, t.win, 0, t.urg]) (i := 0) rfl) (by decide) (by decide) (by decide) rfl (tcp20_pack hz.2)) ?_
   rintro _ w13 ⟨u12, out, rfl, hF, hpk⟩
   have hout : out = tcp20 t := bits_of_eq hpk.1 hpk.2.1 hpk.2.2.2 rfl (tcp20_byt hz.2) (tcp20_bits hz.2)
   subst hout
   have S := S.fb hF
   have SC := S.pick [false, false, true, true, true, true, true] rfl
   refine Hb.on SC ?_
   refine Hb.take (i := 21) SC (fun _ _ S B => S.call B) Pp.body rfl (by kernel_rfl) (by kernel_rfl) (by kernel_rfl) rfl rfl ?_
   refine qmv rfl rfl rfl rfl ?_
   refine Hb.back ?_
   refine Hb.take (i := 22) SC (fun _ _ S B => S.call B) Pp.body rfl (by kernel_rfl) (by kernel_rfl) (by kernel_rfl) rfl rfl ?_
   refine qextr rfl rfl rfl rfl rfl ?_
   refine Hb.back ?_
   refine Hb.take (i := 23) SC (fun _ _ S B => S.call B) Pp.body rfl (by kernel_rfl) (by kernel_rfl) (by kernel_rfl) rfl rfl ?_
   refine qextr rfl rfl rfl rfl rfl ?_
   refine Hb.back ?_
   refine Hb.take (i := 24) SC (fun _ _ S B => S.call B) Pp.body rfl (by kernel_rfl) (by kernel_rfl) (by kernel_rfl) rfl rfl ?_
   refine qasg rfl rfl rfl rfl ?_
   refine Hb.back ?_
   refine Hb.take (i := 25) SC (fun _ _ S B => S.call B) Pp.body rfl (by kernel_rfl) (by kernel_rfl) (by kernel_rfl) rfl rfl ?_
   refine qasg rfl rfl rfl rfl ?_
   refine Hb.back ?_
   refine Hb.done (by kernel_rfl) ?_
   intro w14 BD; have S := S.call BD
   refine Nrm.code ?_
   refine Run.seq ?_
   refine Run.region ?_
   refine mv1 rfl rfl ?_
   refine mv1 rfl rfl ?_
   refine apB rfl rfl e26 (S.bsI (i := 3) rfl hpb) S (i := 0) rfl rfl (fun _ => rfl) (by omega) ?_
   intro u12b w15 S B_
   refine asg1 rfl rfl ?_
   refine Ro.nil ?_
   refine Nrm.code ?_
   refine Run.seq ?_
   refine Run.region ?_
   refine mv1 rfl rfl ?_
   refine fld (o' := 8) rfl fo82_8 rfl rfl rfl rfl ?_
   refine ld1 rfl T26 S (i := 4) rfl rfl rfl rfl rfl ?_
   refine apB rfl rfl e26 (hd.now S) S (i := 0) rfl rfl (fun _ => rfl) (by omega) ?_
   intro u12c w16 S B_
   have S : St [] w (oB u12c (tcpB0 t) :: _) w16 := S
   refine asg1 rfl rfl ?_
   refine Ro.nil ?_
   refine Nrm.code ?_
   refine Run.seq ?_
   refine Run.region ?_
   refine ldW rfl T24 S (i := 6) rfl rfl rfl rfl rfl ?_
   refine ldW rfl T24 S (i := 5) rfl rfl rfl rfl rfl ?_
   refine mv1 rfl rfl ?_
   refine lenS rfl (S.slI (i := 0) rfl) Tryd.underlying26 rfl rfl rfl ?_
   refine call (vs := [_, _, _, _]) ⟨⟨_, _, rfl, rfl⟩, ⟨_, _, rfl, rfl⟩, ⟨_, _, rfl, rfl⟩, ⟨_, _, rfl, rfl⟩, trivial⟩ k58 rfl (c58 _ _ _ _ _ hs ht (by unfold inI; omega)) ?_
   rintro _ w17 ⟨up, rfl, hF⟩
   have S := S.fb hF
   refine mv1 rfl rfl ?_
   refine extr1 rfl rfl rfl ?_
   refine extr1 rfl rfl rfl ?_
   refine asg1 rfl rfl ?_
   refine asg1 rfl rfl ?_
   refine Ro.nil ?_
   refine Nrm.code ?_
   refine Run.seq ?_
   refine Run.region ?_
   refine mv1 rfl rfl ?_
   refine mv1 rfl rfl ?_
   refine bsl e102 (qs := [(_, _), (_, _)]) ⟨⟨_, _, _, rfl, rfl, cells1 (S.slI (i := 0) rfl).one, rfl, List.cons_ne_nil _ _⟩, ⟨_, _, _, rfl, rfl, cells1 (S.slI (i := 1) rfl).one, rfl, List.cons_ne_nil _ _⟩, trivial⟩ rfl rfl rfl rfl S ?_
   intro u75 w18 S B_
   have hck : CallsD Tryd.prog 97 #[u75] w18 (.int .i64 (tcpC s d t)) := by
    have := c97 u75 [pseL s d 6 (tcpB0 t).length, tcpB0 t] w18 ⟨[_, _], S.slI (i := 0) rfl, S.bsI (i := 1) rfl (pseL_byt hs ht _ _), S.bsI (i := 2) rfl hbB, trivial⟩ (by have := (pseL_len s d 6 (tcpB0 t).length).1; simp; omega) (by simp)
    rw [show [pseL s d 6 (tcpB0 t).length, tcpB0 t].flatten = pseL s d 6 (tcpB0 t).length ++ tcpB0 t from by simp] at this
    exact this
   refine calg (vs := [_]) rfl ⟨⟨_, _, rfl, rfl⟩, trivial⟩ k97 rfl (fun hG => hck) ?_
   intro w19 B_; have S := S.call B_
   refine asg1 rfl rfl ?_
   refine Ro.nil ?_
   refine Nrm.code ?_
   refine Run.seq ?_
   refine Run.region ?_
   refine mv1 rfl rfl ?_
   refine mv1 rfl rfl ?_
   refine mv1 rfl rfl ?_
   refine shr rfl rfl rfl rfl rfl rfl (fun _ => by decide) (fun _ => sh8 _) ?_
   refine cvi1 rfl rfl Tryd.underlying3 Tryd.underlying5 (w8of (y := tcpC s d t / 256) rfl (by omega)) ?_
   refine mv1 rfl rfl ?_
   refine cvi1 rfl rfl Tryd.underlying3 Tryd.underlying5 (w8m (tcpC s d t)) ?_
   refine ixa rfl rfl (S.slI (i := 2) rfl) e26 rfl rfl rfl rfl (fun _ => by omega) ?_
   refine stB rfl rfl T5 S (i := 2) rfl (by omega) rfl ?_
   intro w20 S
   refine ixa rfl rfl (S.slI (i := 2) rfl) e26 rfl rfl rfl rfl (fun _ => by rw [List.length_set]; omega) ?_
   refine stB rfl rfl T5 S (i := 2) rfl (by rw [List.length_set]; omega) rfl ?_
   intro w21 S
   refine Ro.nil ?_
   refine Nrm.code ?_
   refine Run.seq ?_
   refine Run.region ?_
   refine mv1 rfl rfl ?_
   refine asg1 rfl rfl ?_
   refine asg1 rfl rfl ?_
   refine Ro.nil ?_
   refine Nrm.code ?_
   refine Run.ret ?_
   refine Rt.two rfl rfl rfl ?_
   have hl0 : putTL s d t = ((tcpB0 t).set 16 (tcpC s d t / 256)).set 17 (tcpC s d t % 256) := by unfold putTL putTB; rw [if_pos hpe]
   exact ⟨_, by rw [hpe], by rw [hl0]; exact S.toFB (i := 2) rfl⟩
set_option maxHeartbeats 1000000 in
theorem c81 (s d : IP) (t : Tcp) (o dv : Value) (w : World) (hs : s.ok) (ht : d.ok) (hO : OS [] w o t.opts) (hd : BS [] w dv t.data) (hol : t.opts.length ≤ 1099511627776) (hoo : ∀ p ∈ t.opts, p.data.length ≤ 1099511627776) (hdl : t.data.length ≤ 1099511627776) :
  CallsV Tryd.prog 81 #[.agg (encIP s).toArray, .agg (encIP d).toArray, .agg (encTcp t o dv).toArray] w (fun r w' => ∃ v, r = .tuple #[v, .int .i64 (putTE s d t)] ∧ FB w w' v (putTL s d t)) := by
 refine enter Tryd.func81 rfl Tryd.ntmps81 (l := [(0, [], _), (1, [], _), (2, [], _)]) rfl rfl ?_
 have S := St.refl [] w
 have hpb0 := putTE_bd s d t
 have hfo := fitE_or s d
 refine Run.seq ?_
 refine Run.region ?_
 refine boxA rfl S rfl ?_
 intro b3 w1 hb3 S B_
 refine boxA rfl S rfl ?_
 intro b4 w2 hb4 S B_
 refine boxA rfl S rfl ?_
 intro b5 w3 hb5 S B_
 refine asg1 rfl rfl ?_
 refine asg1 rfl rfl ?_
 refine Ro.nil ?_
 refine Nrm.code ?_
 refine Run.seq ?_
 refine Run.region ?_
 refine ldW rfl T24 S (i := 2) rfl rfl rfl rfl rfl ?_
 refine ldW rfl T24 S (i := 1) rfl rfl rfl rfl rfl ?_
 refine calg (vs := [_, _]) rfl ⟨⟨_, _, rfl, rfl⟩, ⟨_, _, rfl, rfl⟩, trivial⟩ k130 rfl (fun hG => c130 s d _ hs ht) ?_
 intro w4 B_; have S := S.call B_
 refine asg1 rfl rfl ?_
 refine Ro.nil ?_
 refine Nrm.code ?_
 refine Run.seq ?_
 refine Run.seq ?_
 refine Run.region ?_
 refine mv1 rfl rfl ?_
 refine nt1 rfl rfl ?_
 refine Ro.nil ?_
 refine Nrm.code ?_
 refine Run.cond rfl (fun hc2 => ?_) (fun hc2 => ?_)
 ·
  try simp only [Bool.or_eq_true, Bool.and_eq_true, Bool.or_eq_false_iff, Bool.and_eq_false_iff, decide_eq_true_eq, decide_eq_false_iff_not, Bool.not_eq_true', Bool.not_eq_false', Bool.not_eq_true, Bool.not_eq_false] at hc2
  have hf20 : fitE s d = 20 := by omega
  have hpe : putTE s d t = 20 := by rw [putTE_no (by omega)]; exact hf20
  refine Run.seq ?_
  refine Run.region ?_
  refine asg1 rfl rfl ?_
  refine asg1 rfl rfl ?_
  refine Ro.nil ?_
  refine Nrm.code ?_
  refine Run.ret ?_
  refine Rt.two rfl rfl rfl ?_
  have hl0 : putTL s d t = [] := by unfold putTL; rw [if_neg (by omega)]
  exact ⟨.slice none 0 0, by first | rfl | (rw [show putTE s d t = 20 from by omega]) | (rw [hpe]), by rw [hl0]; exact (S.nilB).toFB (i := 0) rfl⟩
 ·
  try simp only [Bool.or_eq_true, Bool.and_eq_true, Bool.or_eq_false_iff, Bool.and_eq_false_iff, decide_eq_true_eq, decide_eq_false_iff_not, Bool.not_eq_true', Bool.not_eq_false', Bool.not_eq_true, Bool.not_eq_false] at hc2
  have hf0 : fitE s d = 0 := by omega
  refine Run.skip ?_
  refine Nrm.code ?_
  refine Run.seq ?_
  refine Run.region ?_
  refine ldW rfl T82 S (i := 0) rfl rfl rfl rfl rfl ?_
  refine calg (vs := [_]) rfl ⟨⟨_, _, rfl, rfl⟩, trivial⟩ k86 rfl (fun hG => c86 _ _ _ _ (hO.now S) (hd.now S) hol hoo hdl) ?_
  intro w5 B_; have S := S.call B_
  refine asg1 rfl rfl ?_
  refine Ro.nil ?_
  refine Nrm.code ?_
  refine Run.seq ?_
  refine Run.seq ?_
  refine Run.region ?_
  refine mv1 rfl rfl ?_
  refine neq1 rfl rfl rfl ?_
  refine Ro.nil ?_
  refine Nrm.code ?_
  refine Run.cond rfl (fun hc5 => ?_) (fun hc5 => ?_)
  ·
   try simp only [Bool.or_eq_true, Bool.and_eq_true, Bool.or_eq_false_iff, Bool.and_eq_false_iff, decide_eq_true_eq, decide_eq_false_iff_not, Bool.not_eq_true', Bool.not_eq_false', Bool.not_eq_true, Bool.not_eq_false] at hc5
   have hpe : putTE s d t = chkT t := putTE_fit hf0
   refine Run.seq ?_
   refine Run.region ?_
   refine mv1 rfl rfl ?_
   refine asg1 rfl rfl ?_
   refine asg1 rfl rfl ?_
   refine Ro.nil ?_
   refine Nrm.code ?_
   refine Run.ret ?_
   refine Rt.two rfl rfl rfl ?_
   have hl0 : putTL s d t = [] := by unfold putTL; rw [if_neg (by omega)]
   exact ⟨.slice none 0 0, by first | rfl | (rw [show putTE s d t = 20 from by omega]) | (rw [hpe]), by rw [hl0]; exact (S.nilB).toFB (i := 0) rfl⟩
  ·
   try simp only [Bool.or_eq_true, Bool.and_eq_true, Bool.or_eq_false_iff, Bool.and_eq_false_iff, decide_eq_true_eq, decide_eq_false_iff_not, Bool.not_eq_true', Bool.not_eq_false', Bool.not_eq_true, Bool.not_eq_false] at hc5
   have hpe : putTE s d t = 0 := by rw [putTE_fit hf0]; omega
   have hz := putTE_zero hpe
   have hzz := chkT_zero hz.2
   have hbo := badT_off hzz.1
   have hpb := tputL_byt hO.byt
   have hpl := tputL_len t.opts
   have hbB := tcpB0_byt hz.2 hO.byt hd.1
   have hlB := tcpB0_len t
   have hCb := tcpC_bd (s := s) (d := d) hs ht hbB
   have h20 := tcp20_len t
   have hpsb := psum_bd (p := 6) hs ht hbB
   have hhd := hdT_bd t
   have hl2 : (tcp20 t ++ tputL t.opts).length = 20 + (tputL t.opts).length := by rw [List.length_append, h20]
   have hcd : tcpC s d t = 65535 - psum s d 6 (tcpB0 t) := rfl
   refine Run.skip ?_
   refine Nrm.code ?_
   refine Run.seq ?_
   refine Run.region ?_
   refine fld (o' := 7) rfl fo82_7 rfl rfl rfl rfl ?_
   refine ld1 rfl T25 S (i := 0) rfl rfl rfl rfl rfl ?_
   refine call (vs := [_]) ⟨⟨_, _, rfl, rfl⟩, trivial⟩ k82 rfl (c82 _ _ _ (hO.now S) hol hoo) ?_
   rintro _ w6 ⟨u9, rfl, hF⟩
   have S := S.fb hF
   refine mv1 rfl rfl ?_
   refine extr1 rfl rfl rfl ?_
   refine extr1 rfl rfl rfl ?_
   refine asg1 rfl rfl ?_
   refine asg1 rfl rfl ?_
   refine Ro.nil ?_
   refine Nrm.code ?_
   refine Run.seq ?_
   refine Run.region ?_
   refine asg1 rfl rfl ?_
   have S := S.nilB
   refine Ro.nil ?_
   refine Nrm.code ?_
   refine Run.seq ?_
   refine Run.region ?_
   refine mv1 rfl rfl ?_
   refine fld (o' := 0) rfl fo82_0 rfl rfl rfl rfl ?_
   refine ld1 rfl T3 S (i := 2) rfl rfl rfl rfl rfl ?_
   refine call (vs := [_, _, _]) ⟨⟨_, _, rfl, rfl⟩, ⟨_, _, rfl, rfl⟩, ⟨_, _, rfl, rfl⟩, trivial⟩ k134 rfl (c134 _ _ _ 2 _ (S.hold_at (i := 0) rfl) (by decide) (by omega) (by first | omega | (simp only [List.length_append, List.length_cons, List.length_nil, beN_len]; omega))) ?_
   rintro a9 w7 hT
   have S := S.tn (i := 0) rfl rfl hT
   refine asg1 rfl rfl ?_
   refine Ro.nil ?_
   refine Nrm.code ?_
   refine Run.seq ?_
   refine Run.region ?_
   refine mv1 rfl rfl ?_
   refine fld (o' := 1) rfl fo82_1 rfl rfl rfl rfl ?_
   refine ld1 rfl T3 S (i := 2) rfl rfl rfl rfl rfl ?_
   refine call (vs := [_, _, _]) ⟨⟨_, _, rfl, rfl⟩, ⟨_, _, rfl, rfl⟩, ⟨_, _, rfl, rfl⟩, trivial⟩ k134 rfl (c134 _ _ _ 2 _ (S.hold_at (i := 0) rfl) (by decide) (by omega) (by first | omega | (simp only [List.length_append, List.length_cons, List.length_nil, beN_len]; omega))) ?_
   rintro a10 w8 hT
   have S := S.tn (i := 0) rfl rfl hT
   refine asg1 rfl rfl ?_
   refine Ro.nil ?_
   refine Nrm.code ?_
   refine Run.seq ?_
   refine Run.region ?_
   refine mv1 rfl rfl ?_
   refine fld (o' := 2) rfl fo82_2 rfl rfl rfl rfl ?_
   refine ld1 rfl T3 S (i := 2) rfl rfl rfl rfl rfl ?_
   refine call (vs := [_, _, _]) ⟨⟨_, _, rfl, rfl⟩, ⟨_, _, rfl, rfl⟩, ⟨_, _, rfl, rfl⟩, trivial⟩ k134 rfl (c134 _ _ _ 4 _ (S.hold_at (i := 0) rfl) (by decide) (by omega) (by first | omega | (simp only [List.length_append, List.length_cons, List.length_nil, beN_len]; omega))) ?_
   rintro a11 w9 hT
   have S := S.tn (i := 0) rfl rfl hT
   refine asg1 rfl rfl ?_
   refine Ro.nil ?_
   refine Nrm.code ?_
   refine Run.seq ?_
   refine Run.region ?_
   refine mv1 rfl rfl ?_
   refine fld (o' := 3) rfl fo82_3 rfl rfl rfl rfl ?_
   refine ld1 rfl T3 S (i := 2) rfl rfl rfl rfl rfl ?_
   refine call (vs := [_, _, _]) ⟨⟨_, _, rfl, rfl⟩, ⟨_, _, rfl, rfl⟩, ⟨_, _, rfl, rfl⟩, trivial⟩ k134 rfl (c134 _ _ _ 4 _ (S.hold_at (i := 0) rfl) (by decide) (by omega) (by first | omega | (simp only [List.length_append, List.length_cons, List.length_nil, beN_len]; omega))) ?_
   rintro a12 w10 hT
   have S := S.tn (i := 0) rfl rfl hT
   refine asg1 rfl rfl ?_
   refine Ro.nil ?_
   refine Nrm.code ?_
   refine Run.seq ?_
   refine Run.region ?_
   refine mv1 rfl rfl ?_
   refine mv1 rfl rfl ?_
   refine lenS rfl (S.slI (i := 1) rfl) Tryd.underlying26 rfl rfl rfl ?_
   refine add1 rfl rfl rfl (w64 (by omega)) ?_
   refine quo1 rfl rfl rfl (by decide) (q64 (by omega)) ?_
   refine mul1 rfl rfl rfl (w64 (by omega)) ?_
   refine call (vs := [_, _, _]) ⟨⟨_, _, rfl, rfl⟩, ⟨_, _, rfl, rfl⟩, ⟨_, _, rfl, rfl⟩, trivial⟩ k134 rfl (c134 _ _ _ 1 _ (S.hold_at (i := 0) rfl) (by decide) (by omega) (by first | omega | (simp only [List.length_append, List.length_cons, List.length_nil, beN_len]; omega))) ?_
   rintro a13 w11 hT
   have S := S.tn (i := 0) rfl rfl hT
   refine asg1 rfl rfl ?_
   refine Ro.nil ?_
   refine Nrm.code ?_
   refine Run.seq ?_
   refine Run.region ?_
   refine mv1 rfl rfl ?_
   refine fld (o' := 4) rfl fo82_4 rfl rfl rfl rfl ?_
   refine ld1 rfl T3 S (i := 2) rfl rfl rfl rfl rfl ?_
   refine call (vs := [_, _, _]) ⟨⟨_, _, rfl, rfl⟩, ⟨_, _, rfl, rfl⟩, ⟨_, _, rfl, rfl⟩, trivial⟩ k134 rfl (c134 _ _ _ 1 _ (S.hold_at (i := 0) rfl) (by decide) (by omega) (by first | omega | (simp only [List.length_append, List.length_cons, List.length_nil, beN_len]; omega))) ?_
   rintro a14 w12 hT
   have S := S.tn (i := 0) rfl rfl hT
   refine asg1 rfl rfl ?_
   refine Ro.nil ?_
   refine Nrm.code ?_
   refine Run.seq ?_
   refine Run.region ?_
   refine mv1 rfl rfl ?_
   refine fld (o' := 5) rfl fo82_5 rfl rfl rfl rfl ?_
   refine ld1 rfl T3 S (i := 2) rfl rfl rfl rfl rfl ?_
   refine call (vs := [_, _, _]) ⟨⟨_, _, rfl, rfl⟩, ⟨_, _, rfl, rfl⟩, ⟨_, _, rfl, rfl⟩, trivial⟩ k134 rfl (c134 _ _ _ 2 _ (S.hold_at (i := 0) rfl) (by decide) (by omega) (by first | omega | (simp only [List.length_append, List.length_cons, List.length_nil, beN_len]; omega))) ?_
   rintro a15 w13 hT
   have S := S.tn (i := 0) rfl rfl hT
   refine asg1 rfl rfl ?_
   refine Ro.nil ?_
   refine Nrm.code ?_
   refine Run.seq ?_
   refine Run.region ?_
   refine mv1 rfl rfl ?_
   refine call (vs := [_, _, _]) ⟨⟨_, _, rfl, rfl⟩, ⟨_, _, rfl, rfl⟩, ⟨_, _, rfl, rfl⟩, trivial⟩ k134 rfl (c134 _ _ _ 2 _ (S.hold_at (i := 0) rfl) (by decide) (by omega) (by first | omega | (simp only [List.length_append, List.length_cons, List.length_nil, beN_len]; omega))) ?_
   rintro a16 w14 hT
   have S := S.tn (i := 0) rfl rfl hT
   refine asg1 rfl rfl ?_
   refine Ro.nil ?_
   refine Nrm.code ?_
   refine Run.seq ?_
   refine Run.region ?_
   refine mv1 rfl rfl ?_
   refine fld (o' := 6) rfl fo82_6 rfl rfl rfl rfl ?_
   refine ld1 rfl T3 S (i := 2) rfl rfl rfl rfl rfl ?_
   refine call (vs := [_, _, _]) ⟨⟨_, _, rfl, rfl⟩, ⟨_, _, rfl, rfl⟩, ⟨_, _, rfl, rfl⟩, trivial⟩ k134 rfl (c134 _ _ _ 2 _ (S.hold_at (i := 0) rfl) (by decide) (by omega) (by first | omega | (simp only [List.length_append, List.length_cons, List.length_nil, beN_len]; omega))) ?_
   rintro a17 w15 hT
   have S := S.tn (i := 0) rfl rfl hT
   have S2 := S; rw [tcp20_be hz.2] at S2
   have S : St [] w (oB a17 (tcp20 t) :: _) w15 := S2
   refine asg1 rfl rfl ?_
   refine Ro.nil ?_
   refine Nrm.code ?_
   refine Run.seq ?_
   refine Run.region ?_
   refine mv1 rfl rfl ?_
   refine mv1 rfl rfl ?_
   refine apB rfl rfl e26 (S.bsI (i := 1) rfl hpb) S (i := 0) rfl rfl (fun _ => rfl) (by omega) ?_
   intro u12b w16 S B_
   refine asg1 rfl rfl ?_
   refine Ro.nil ?_
   refine Nrm.code ?_
   refine Run.seq ?_
   refine Run.region ?_
   refine mv1 rfl rfl ?_
   refine fld (o' := 8) rfl fo82_8 rfl rfl rfl rfl ?_
   refine ld1 rfl T26 S (i := 2) rfl rfl rfl rfl rfl ?_
   refine apB rfl rfl e26 (hd.now S) S (i := 0) rfl rfl (fun _ => rfl) (by omega) ?_
   intro u12c w17 S B_
   have S : St [] w (oB u12c (tcpB0 t) :: _) w17 := S
   refine asg1 rfl rfl ?_
   refine Ro.nil ?_
   refine Nrm.code ?_
   refine Run.seq ?_
   refine Run.region ?_
   refine ldW rfl T24 S (i := 4) rfl rfl rfl rfl rfl ?_
   refine ldW rfl T24 S (i := 3) rfl rfl rfl rfl rfl ?_
   refine mv1 rfl rfl ?_
   refine calg (vs := [_, _, _, _]) rfl ⟨⟨_, _, rfl, rfl⟩, ⟨_, _, rfl, rfl⟩, ⟨_, _, rfl, rfl⟩, ⟨_, _, rfl, rfl⟩, trivial⟩ k135 rfl (fun hG => c135 s d 6 _ (tcpB0 t) _ hs ht (S.bsI (i := 0) rfl hbB) (by omega) (fit_pse hz.1 (by decide) (by omega))) ?_
   intro w18 B_; have S := S.call B_
   refine asg1 rfl rfl ?_
   refine Ro.nil ?_
   refine Nrm.code ?_
   refine Run.seq ?_
   refine Run.region ?_
   refine mv1 rfl rfl ?_
   refine mv1 rfl rfl ?_
   refine quo1 rfl rfl rfl (by decide) (q64 (by omega)) ?_
   refine cvi1 rfl rfl Tryd.underlying3 Tryd.underlying5 (w8of rfl (by omega)) ?_
   refine ixa rfl rfl (S.slI (i := 0) rfl) e26 rfl rfl rfl rfl (fun _ => by omega) ?_
   refine stB rfl rfl T5 S (i := 0) rfl (by omega) rfl ?_
   intro w19 S
   refine Ro.nil ?_
   refine Nrm.code ?_
   refine Run.seq ?_
   refine Run.region ?_
   refine mv1 rfl rfl ?_
   refine mv1 rfl rfl ?_
   refine rem1 rfl rfl rfl (by decide) (r64 (by omega)) ?_
   refine cvi1 rfl rfl Tryd.underlying3 Tryd.underlying5 (w8of rfl (by omega)) ?_
   refine ixa rfl rfl (S.slI (i := 0) rfl) e26 rfl rfl rfl rfl (fun _ => by rw [List.length_set]; omega) ?_
   refine stB rfl rfl T5 S (i := 0) rfl (by rw [List.length_set]; omega) rfl ?_
   intro w20 S
   refine Ro.nil ?_
   refine Nrm.code ?_
   refine Run.seq ?_
   refine Run.region ?_
   refine mv1 rfl rfl ?_
   refine asg1 rfl rfl ?_
   refine asg1 rfl rfl ?_
   refine Ro.nil ?_
   refine Nrm.code ?_
   refine Run.ret ?_
   refine Rt.two rfl rfl rfl ?_
   have hl0 : putTL s d t = ((tcpB0 t).set 16 (tcpC s d t / 256)).set 17 (tcpC s d t % 256) := by unfold putTL putTB; rw [if_pos hpe]
   exact ⟨_, by rw [hpe], by rw [hl0]; exact S.toFB (i := 0) rfl⟩
end Go.Proofs.YtkahmepenjhcpaaDoor.W
/- Contracts: what a segment may hold is bounded. No statement of the seat is proved here. -/
namespace Go.Proofs.YtkahmepenjhcpaaDoor.W
open Go
set_option linter.unusedSimpArgs false
set_option linter.unusedVariables false
section
variable {P : Program} {R : Qp} {ds : List Deferred} {n : Nat} {l : Env} {k : List KI} {w w0 : World} {ops : Array Oper} {os : List Oper}
variable {d : Nat} {G gx gy ex ey : Gs} {ty T T' : TypeId} {ps : String} {af : Array Edge} {gu : Option (Nat × Bool)} {x y : Operand}
theorem maxI {a b : Int} (hx : ev l x = some (gx, .int .i64 a)) (hy : ev l y = some (gy, .int .i64 b)) (hG : gd ops l gu = some G) (hpx : G = gx ++ ex) (hpy : G = gy ++ ey) (hn : Nat.blt d n = true)
    (h : Ro P R ds n ops ((d, G, .int .i64 (if b > a then b else a)) :: l) os k w) :
    Ro P R ds n ops l ({ dst := some d, op := .call { callee := .builtin .max, args := #[x, y], argTypes := #[T, T'] }, type := ty, pos := ps, after := af, guard := gu } :: os) k w := by
  refine opv hG rfl hn ?_ h
  intro hT' a' ha
  simp [execOp, resolve, invoke, builtin, Builtin.max_, Builtin.max2, ha.eval hx (pre_T hpx hT'), ha.eval hy (pre_T hpy hT')]
end
def clM (m : Int) : Int := if 0 > m then 0 else m
theorem clM_bd (m : Int) : 0 ≤ clM m := by unfold clM; split <;> omega
def synN (f : Int) : Int := IntKind.i64.wrap (((f % 2 ^ IntKind.i64.bits).toNat &&& ((2 : Int) % 2 ^ IntKind.i64.bits).toNat : Nat) : Int)
def clB (m f : Int) (o : Opt) : Bool := (toldB o && decide (m < toldN o)) && decide (synN f ≠ 0)
def clampO (m f : Int) (o : Opt) : Opt := if clB m f o = true then ⟨o.kind, [m / 256, m % 256]⟩ else o
def clampT (t : Tcp) (m : Int) : Tcp := { t with opts := t.opts.map (clampO (clM m) t.flags) }
theorem clampO_eta (m f : Int) (o : Opt) : (⟨o.kind, (clampO m f o).data⟩ : Opt) = clampO m f o := by unfold clampO; split <;> rfl
theorem clB_parts {m f : Int} {o : Opt} (h : clB m f o = true) : toldB o = true ∧ m < toldN o ∧ synN f ≠ 0 := by
  simpa only [clB, Bool.and_eq_true, decide_eq_true_eq, and_assoc] using h
theorem told_bd {o : Opt} (h : byt o.data) : 0 ≤ toldN o ∧ toldN o < 65536 := by
  have := wd2_bd h 0
  unfold toldN; split <;> omega
theorem clampO_byt {m f : Int} {o : Opt} (hm : 0 ≤ m) (h : byt o.data) : byt (clampO m f o).data := by
  unfold clampO
  split
  · rename_i hc
    have := clB_parts hc
    have := told_bd h
    exact byt2 (by omega)
  · exact h
theorem St.layOld {w0 w : World} {L L' : List Own} {v : Value} {l : List Int} {i : Nat} (S : St [] w0 L w) (hk : getN L i = some (oB v l)) (hd : delN L i = some L') (hb : byt l) : ∀ N, (∀ i ∈ N, i < w0.heap.size) → BS (idsL L' ++ N) w v l := by
  intro N hN
  obtain ⟨A, B, rfl, rfl⟩ := delN_spec _ _ _ _ hd hk
  refine ⟨hb, Own.sl (S.rowI hk) _ (fun j hj hn => ?_)⟩
  rcases List.mem_append.1 hn with hm | hn
  · have hnd := S.nodup
    simp only [idsL, List.flatMap_append, List.flatMap_cons] at hnd hm
    rw [← List.append_assoc] at hnd
    obtain ⟨ha, _, hc⟩ := List.nodup_append.1 hnd
    obtain ⟨_, _, hab⟩ := List.nodup_append.1 ha
    rcases List.mem_append.1 hm with hm | hm
    · exact hab j hm j hj rfl
    · exact hc j (List.mem_append.2 (.inr hj)) j hm rfl
  · have h1 := S.fresh hk j hj
    have h2 := hN j hn
    omega
theorem rng_lt {w : World} : ∀ i ∈ List.range w.heap.size, i < w.heap.size := fun i hi => List.mem_range.1 hi
theorem tail_sub {o : Own} {L : List Own} {R : List Nat} : ∀ i ∈ idsL L ++ R, i ∈ idsL (o :: L) ++ R := by
  intro i hi
  rcases List.mem_append.1 hi with h | h
  · exact List.mem_append_left _ (by simp only [idsL, List.flatMap_cons]; exact List.mem_append_right _ h)
  · exact List.mem_append_right _ h
set_option maxHeartbeats 1000000 in
theorem c69 (t : Tcp) (m : Int) (o dv : Value) (w : World) (hO : OS [] w o t.opts) (hd : BS [] w dv t.data) (hol : t.opts.length ≤ 1099511627776) (hoo : ∀ p ∈ t.opts, p.data.length ≤ 1099511627776) :
  CallsV Tryd.prog 69 #[.agg (encTcp t o dv).toArray, .int .i64 m] w (fun r w' => ∃ o', r = .agg (encTcp (clampT t m) o' dv).toArray ∧ FOS w w' o' (clampT t m).opts) := by
 refine enter Tryd.func69 rfl Tryd.ntmps69 (l := [(0, [], _), (1, [], _)]) rfl rfl ?_
 have S := St.refl [] w
 obtain ⟨ds, hOS, hOB⟩ := id hO
 have hcm := clM_bd m
 refine Run.seq ?_
 refine Run.region ?_
 refine boxA rfl S rfl ?_
 intro b2 w1 hb2 S B_
 refine alc T82 S rfl ?_
 intro b4 w2 hb4 S B_
 refine Ro.nil ?_
 refine Nrm.code ?_
 refine Run.seq ?_
 refine Run.region ?_
 refine mv1 rfl rfl ?_
 refine maxI rfl rfl rfl rfl rfl rfl ?_
 refine asg1 rfl rfl ?_
 refine Ro.nil ?_
 refine Nrm.code ?_
 refine Run.seq ?_
 refine Run.region ?_
 refine asg1 rfl rfl ?_
 have S := S.nilO
 refine Ro.nil ?_
 refine Nrm.code ?_
 refine Run.seq ?_
 refine Run.seq ?_
 refine Run.region ?_
 refine fld (o' := 7) rfl fo82_7 rfl rfl rfl rfl ?_
 refine ld1 rfl T25 S (i := 2) rfl rfl rfl rfl rfl ?_
 refine lenS rfl hOS Tryd.underlying25 rfl rfl rfl ?_
 refine mv1 rfl rfl ?_
 refine Ro.nil ?_
 refine Nrm.code ?_
 refine Run.block ?_
 refine Run.loop4 (fun (i : Nat) (u : Value) (acc : List Opt) (vs : List Value) w_ => i ≤ t.opts.length ∧ vs.length = acc.length ∧ acc = (t.opts.take i).map (clampO (clM m) t.flags) ∧ OSs (idsL [oO u acc vs, .var b4 82 [.int .i64 0, .int .i64 0, .int .i64 0, .int .i64 0, .int .i64 0, .int .i64 0, .int .i64 0, .slice none 0 0, .slice none 0 0], .var b2 82 (encTcp t o dv)] ++ List.range w.heap.size) w_ vs acc ∧ St [] w [oO u acc vs, .var b4 82 [.int .i64 0, .int .i64 0, .int .i64 0, .int .i64 0, .int .i64 0, .int .i64 0, .int .i64 0, .slice none 0 0, .slice none 0 0], .var b2 82 (encTcp t o dv)] w_) (fun (i : Nat) (u : Value) (acc : List Opt) (vs : List Value) => [(1, [], .int .i64 (clM m)), (2, [], .pointer (some ⟨b2, 0, none⟩)), (4, [], .pointer (some ⟨b4, 0, none⟩)), (5, [], u), (13, [], o), (14, [], .int .i64 t.opts.length), (15, [], .int .i64 i)]) (fun (i : Nat) (u : Value) (acc : List Opt) (vs : List Value) => t.opts.length - i) (0) (_) ([]) ([]) ⟨Nat.zero_le _, rfl, rfl, trivial, S⟩ ⟨rfl, rfl, rfl, rfl, rfl, rfl, rfl, trivial⟩ ?_
 rintro i u acc vs w3 ⟨hi, hvl, hacc, hvs, S⟩
 have hal : acc.length = i := by rw [hacc, List.length_map, List.length_take]; omega
 refine Run.seq ?_
 refine Run.region ?_
 refine lss1 rfl rfl rfl ?_
 refine Ro.nil ?_
 refine Nrm.code ?_
 refine Run.seq ?_
 refine Run.cond rfl (fun hc4 => ?_) (fun hc4 => ?_)
 ·
  try simp only [Bool.or_eq_true, Bool.and_eq_true, Bool.or_eq_false_iff, Bool.and_eq_false_iff, decide_eq_true_eq, decide_eq_false_iff_not, Bool.not_eq_true', Bool.not_eq_false', Bool.not_eq_true, Bool.not_eq_false] at hc4
  refine Run.skip ?_
  refine Nrm.code ?_
  refine Run.seq ?_
  refine Run.block ?_
  refine Run.seq ?_
  refine Run.region ?_
  obtain ⟨N1, hN1, S_1⟩ := S.reb
  have hO := hO.st S; rw [hN1] at hO
  have hd := hd.st S; rw [hN1] at hd
  have hOS := hOS.st S; rw [hN1] at hOS
  have hOB := hOB.st S; rw [hN1] at hOB
  rw [hN1] at hvs
  have SS := S
  have SL := S
  have S := S_1
  obtain ⟨p1, hp1, hb1⟩ := hOB.at (i := i) (by omega)
  refine ixa rfl rfl hOS e25 rfl rfl rfl rfl (fun _ => by first | omega | (simp only [List.length_cons, List.length_nil]; omega)) ?_
  refine ldEA rfl hOS S T93 rfl rfl rfl (by decide) rfl (fun _ => hOB.two (by omega) hp1) ?_
  refine alc T93 S rfl ?_
  intro b7 w4 hb7 S B_
  refine stW rfl rfl T93 rfl rfl (one_cons rfl (one_cons hb1.one one_nil)) S (i := 0) rfl rfl ?_
  intro w5 S
  refine Ro.nil ?_
  refine Nrm.code ?_
  refine Run.seq ?_
  refine Run.region ?_
  refine fld (o' := 1) rfl fo93_1 rfl rfl rfl rfl ?_
  refine ld1 rfl T26 S (i := 0) rfl rfl rfl rfl rfl ?_
  have S := S.nilB
  refine apB rfl rfl e26 (hb1.now S) S (i := 0) rfl rfl (fun _ => rfl) (by have := hoo _ (getD_mem' (d := o0) (show i < t.opts.length by omega)); simp only [List.length_nil]; omega) ?_
  intro q6 w6 S B_
  rw [List.nil_append] at S
  refine fld (o' := 1) rfl fo93_1 rfl rfl rfl rfl ?_
  refine st1 rfl rfl T26 (S.slI (i := 0) rfl).one S (i := 1) rfl rfl rfl ?_
  intro w7 S
  refine Ro.nil ?_
  refine Nrm.code ?_
  refine Run.cut (γ := Value) (fun g w_ => St N1 w3 [oB g (clampO (clM m) t.flags (t.opts.getD i o0)).data, .var b7 93 [i64 (t.opts.getD i o0).kind, g], oO u acc vs, .var b4 82 [.int .i64 0, .int .i64 0, .int .i64 0, .int .i64 0, .int .i64 0, .int .i64 0, .int .i64 0, .slice none 0 0, .slice none 0 0], .var b2 82 (encTcp t o dv)] w_) (fun g => [(1, [], .int .i64 (clM m)), (2, [], .pointer (some ⟨b2, 0, none⟩)), (4, [], .pointer (some ⟨b4, 0, none⟩)), (5, [], u), (7, [], .pointer (some ⟨b7, 0, none⟩)), (13, [], o), (14, [], .int .i64 t.opts.length), (15, [], .int .i64 i)]) ?_ ?_
  ·
   refine Run.seq ?_
   refine Run.region ?_
   refine ldW rfl T93 S (i := 1) rfl rfl rfl rfl rfl ?_
   refine calg (vs := [_]) rfl ⟨⟨_, _, rfl, rfl⟩, trivial⟩ k128 rfl (fun hG => c128 (t.opts.getD i o0) _ _ (S.bsI (i := 0) rfl hb1.1)) ?_
   intro w8 B_; have S := S.call B_
   refine mv1 rfl rfl ?_
   refine extr1 rfl rfl rfl ?_
   refine extr1 rfl rfl rfl ?_
   refine asg1 rfl rfl ?_
   refine asg1 rfl rfl ?_
   refine Ro.nil ?_
   refine Nrm.code ?_
   refine Run.seq ?_
   refine Run.region ?_
   refine mv1 rfl rfl ?_
   refine mv1 rfl rfl ?_
   refine mv rfl rfl rfl rfl ?_
   refine mv rfl rfl rfl rfl ?_
   refine gtr rfl rfl rfl rfl rfl rfl ?_
   refine pkA rfl rfl rfl rfl rfl rfl ?_
   refine mv1 rfl rfl ?_
   refine fld (o' := 4) rfl fo82_4 rfl rfl rfl rfl ?_
   refine ld1 rfl T3 S (i := 4) rfl rfl rfl rfl rfl ?_
   refine band rfl rfl rfl rfl rfl rfl (fun hG => by first | exact rfl | (simp [allT] at hG; exact rfl)) ?_
   refine neq rfl rfl rfl rfl rfl rfl ?_
   refine pkA rfl rfl rfl rfl rfl rfl ?_
   refine Ro.nil ?_
   refine Nrm.code ?_
   refine Run.cond rfl (fun hc8 => ?_) (fun hc8 => ?_)
   ·
    refine Run.region ?_
    have hcl := clB_parts (show clB (clM m) t.flags (t.opts.getD i o0) = true from hc8)
    have htb := told_bd hb1.1
    refine mv1 rfl rfl ?_
    refine shr rfl rfl rfl rfl rfl rfl (fun _ => by decide) (fun _ => sh8 _) ?_
    refine cvi1 rfl rfl Tryd.underlying3 Tryd.underlying5 (w8of (y := clM m / 256) rfl (by omega)) ?_
    refine mv1 rfl rfl ?_
    refine cvi1 rfl rfl Tryd.underlying3 Tryd.underlying5 (w8m (clM m)) ?_
    refine bsl e26 (qs := [(_, _), (_, _)]) ⟨⟨_, _, _, rfl, rfl, rfl, rfl, by first | (simp [Value.cells]; done) | simp [Value.cells, encIP]⟩, ⟨_, _, _, rfl, rfl, rfl, rfl, by first | (simp [Value.cells]; done) | simp [Value.cells, encIP]⟩, trivial⟩ rfl rfl rfl rfl S ?_
    intro u45 w9 S B_
    have S : St _ _ (oB u45 [clM m / 256, clM m % 256] :: _) w9 := S
    refine fld (o' := 1) rfl fo93_1 rfl rfl rfl rfl ?_
    refine st1 rfl rfl T26 (S.slI (i := 0) rfl).one S (i := 2) rfl rfl rfl ?_
    intro w10 S
    refine Ro.nil ?_
    exact Nrm.cut _ (by rw [clampO, if_pos (show clB (clM m) t.flags (t.opts.getD i o0) = true from hc8)]; exact S.pick [true, false, true, true, true, true] rfl) ⟨rfl, rfl, rfl, rfl, rfl, rfl, rfl, rfl, trivial⟩
   ·
    refine Run.skip ?_
    exact Nrm.cut _ (by rw [clampO, if_neg (show ¬ clB (clM m) t.flags (t.opts.getD i o0) = true from by rw [show clB (clM m) t.flags (t.opts.getD i o0) = false from hc8]; simp)]; exact S) ⟨rfl, rfl, rfl, rfl, rfl, rfl, rfl, rfl, trivial⟩
  ·
   rintro q2 w8 S
   refine Run.region ?_
   refine mv1 rfl rfl ?_
   refine ldW rfl T93 S (i := 1) rfl rfl rfl rfl rfl ?_
   refine apOF (dt := (clampO (clM m) t.flags (t.opts.getD i o0)).data) rfl e25 (qs := [(_, _)]) ⟨⟨_, _, _, rfl, rfl, rfl, rfl, by first | (simp [Value.cells]; done) | simp [Value.cells, encIP]⟩, trivial⟩ rfl (S.slI (i := 0) rfl).one hvl S (i := 2) rfl rfl rfl (fun t e => by cases e; rfl) (fun _ => rfl) (by first | omega | (simp only [List.length_nil, List.length_append, List.length_cons]; omega)) ?_
   intro u_ u2 w9 S B_
   refine asg1 rfl rfl ?_
   refine Ro.nil ?_
   refine Nrm.blk ?_
   refine Nrm.code ?_
   refine Run.region ?_
   refine add1 rfl rfl rfl (w64 (by omega)) ?_
   refine mv1 rfl rfl ?_
   refine Ro.nil ?_
   refine Nrm.loop4 (i + 1) (_) (_) (_) ⟨by omega, by simp [hvl], by rw [clampO_eta, take_succ_getD (show i < t.opts.length by omega) (d := o0), List.map_append, hacc]; rfl,
     OSs.snoc (BSs.weak tail_sub (OSs.reF hvs (S.pick [true, false, true, true, true] rfl))) (((SS.tran hN1 S).pick [true, false, true, true, true] rfl).layOld (i := 0) rfl rfl (clampO_byt (clM_bd m) hb1.1) _ rng_lt), (SS.tran hN1 S).pick [false, false, true, true, true] rfl⟩ (by omega) ⟨rfl, rfl, rfl, rfl, rfl, rfl, rfl, trivial⟩
 ·
  try simp only [Bool.or_eq_true, Bool.and_eq_true, Bool.or_eq_false_iff, Bool.and_eq_false_iff, decide_eq_true_eq, decide_eq_false_iff_not, Bool.not_eq_true', Bool.not_eq_false', Bool.not_eq_true, Bool.not_eq_false] at hc4
  refine Run.exit ?_
  refine Lv.code ?_
  refine Lv.back ?_
  refine Lv.hit ?_
  refine Nrm.code ?_
  refine Run.seq ?_
  refine Run.region ?_
  obtain ⟨N2, hN2, S_2⟩ := S.reb
  have hO := hO.st S; rw [hN2] at hO
  have hd := hd.st S; rw [hN2] at hd
  have hOS := hOS.st S; rw [hN2] at hOS
  have hOB := hOB.st S; rw [hN2] at hOB
  rw [hN2] at hvs
  have SS := S
  have S := S_2
  refine mv1 rfl rfl ?_
  refine fld (o' := 7) rfl fo82_7 rfl rfl rfl rfl ?_
  refine st1 rfl rfl T25 (S.slI (i := 0) rfl).one S (i := 2) rfl rfl rfl ?_
  intro w4 S
  refine Ro.nil ?_
  refine Nrm.code ?_
  refine Run.seq ?_
  refine Run.region ?_
  refine ldW rfl T82 S (i := 2) rfl rfl rfl rfl rfl ?_
  refine stW rfl rfl T82 rfl rfl (one_cons rfl (one_cons rfl (one_cons rfl (one_cons rfl (one_cons rfl (one_cons rfl (one_cons rfl (one_cons (S.slI (i := 0) rfl).one (one_cons hd.one one_nil))))))))) S (i := 1) rfl rfl ?_
  intro w5 S
  refine Ro.nil ?_
  refine Nrm.code ?_
  refine Run.ret ?_
  refine Rt.cell1 rfl rfl T82 S (i := 1) rfl rfl ?_
  have e : i = t.opts.length := by omega
  rw [e, List.take_length] at hacc
  subst hacc
  exact ⟨u, rfl, (SS.tran hN2 S).toFOS (i := 0) rfl (fun N hN => hvs.fin S hN)⟩
end Go.Proofs.YtkahmepenjhcpaaDoor.W
/- Contracts: the plain datagram. No statement of the seat is proved here. -/
namespace Go.Proofs.YtkahmepenjhcpaaDoor.W
open Go
set_option linter.unusedSimpArgs false
set_option linter.unusedVariables false
def plainH : Ip4 := ⟨0, 0, false, false, 0, 64, 17, ip4of 10 0 0 1, ip4of 10 0 0 2, [], [104, 105]⟩
def plainB : List Int := [69, 0, 0, 22, 0, 0, 0, 0, 64, 17, 102, 213, 10, 0, 0, 1, 10, 0, 0, 2, 104, 105]
theorem plain_chk : chkE plainH = 0 := by decide +kernel
theorem plain_ser : serL plainH = plainB := by decide +kernel
theorem plain_opt : optE (optB4 plainB) = 0 ∧ optL (optB4 plainB) = [] := by
  have e : optB4 plainB = [] := by decide +kernel
  rw [e]; simp [optE, optL, optsG]
theorem plain_par : parE plainB = 0 := by
  unfold parE
  rw [plain_opt.1]
  decide +kernel
theorem plain_same : sameH (parH plainB) plainH = true := by
  unfold parH
  rw [if_pos plain_par]
  unfold sameH parG
  rw [plain_opt.2]
  decide +kernel
theorem par_nil : parE [] = 60 := by decide +kernel
theorem plainH_ok : plainH.src.ok ∧ plainH.dst.ok := ⟨ip4of_ok (by omega) (by omega) (by omega) (by omega), ip4of_ok (by omega) (by omega) (by omega) (by omega)⟩
theorem hi_byt : byt [104, 105] := by intro x hx; revert x; decide +kernel
theorem plainB_byt : byt plainB := by intro x hx; revert x; decide +kernel
set_option maxHeartbeats 1000000 in
theorem c92 (w : World) :
  CallsV Tryd.prog 92 #[] w (fun r w' => ∃ d v, r = .tuple #[.agg (encIp4 plainH (.slice none 0 0) d).toArray, v] ∧ Bl w w' ∧ ∀ N, (∀ i ∈ N, i < w.heap.size) → BS N w' d [104, 105] ∧ BS N w' v plainB) := by
 refine enter Tryd.func92 rfl Tryd.ntmps92 (l := []) rfl rfl ?_
 have S := St.refl [] w
 refine Run.seq ?_
 refine Run.region ?_
 refine alc T28 S rfl ?_
 intro b0 w1 hb0 S B_
 refine asg1 rfl rfl ?_
 refine Ro.nil ?_
 refine Nrm.code ?_
 refine Run.seq ?_
 refine Run.region ?_
 refine bldA rfl (sz := 1) (E := 5) (m := 16) Tryd.underlying22 T22 T5 (qs := [(_, _), (_, _), (_, _), (_, _)]) ⟨⟨_, _, _, rfl, rfl, rfl, rfl, by simp [Value.cells]⟩, ⟨_, _, _, rfl, rfl, rfl, rfl, by simp [Value.cells]⟩, ⟨_, _, _, rfl, rfl, rfl, rfl, by simp [Value.cells]⟩, ⟨_, _, _, rfl, rfl, rfl, rfl, by simp [Value.cells]⟩, trivial⟩ rfl rfl ?_
 refine bld B24 (qs := [(_, _), (_, _)]) ⟨⟨_, _, _, rfl, rfl, rfl, rfl, by simp [Value.cells]⟩, ⟨_, _, _, rfl, rfl, rfl, rfl, by simp [Value.cells]⟩, trivial⟩ rfl rfl rfl ?_
 refine bldA rfl (sz := 1) (E := 5) (m := 16) Tryd.underlying22 T22 T5 (qs := [(_, _), (_, _), (_, _), (_, _)]) ⟨⟨_, _, _, rfl, rfl, rfl, rfl, by simp [Value.cells]⟩, ⟨_, _, _, rfl, rfl, rfl, rfl, by simp [Value.cells]⟩, ⟨_, _, _, rfl, rfl, rfl, rfl, by simp [Value.cells]⟩, ⟨_, _, _, rfl, rfl, rfl, rfl, by simp [Value.cells]⟩, trivial⟩ rfl rfl ?_
 refine bld B24 (qs := [(_, _), (_, _)]) ⟨⟨_, _, _, rfl, rfl, rfl, rfl, by simp [Value.cells]⟩, ⟨_, _, _, rfl, rfl, rfl, rfl, by simp [Value.cells]⟩, trivial⟩ rfl rfl rfl ?_
 refine bsk (b := [104, 105]) e26 Tryd.underlying5 hi_byt (qs := [(_, _), (_, _)]) ⟨⟨_, _, _, rfl, rfl, rfl, rfl, by simp [Value.cells]⟩, ⟨_, _, _, rfl, rfl, rfl, rfl, by simp [Value.cells]⟩, trivial⟩ rfl rfl rfl rfl rfl (by decide) S ?_
 have S0 := S
 intro u q w2 S B_ hq
 have hq1 := hq [] (by simp)
 have Sb := S
 have S := S.rebase
 refine bld B28 (qs := [(_, _), (_, _), (_, _), (_, _), (_, _)]) ⟨⟨_, _, _, rfl, rfl, rfl, rfl, by simp [Value.cells]⟩, ⟨_, _, _, rfl, rfl, rfl, rfl, by simp [Value.cells]⟩, ⟨_, _, _, rfl, rfl, rfl, rfl, by simp [Value.cells]⟩, ⟨_, _, _, rfl, rfl, rfl, rfl, by simp [Value.cells]⟩, ⟨_, _, _, rfl, rfl, cells1 hq1.one, rfl, List.cons_ne_nil _ _⟩, trivial⟩ rfl rfl rfl ?_
 refine alc T28 S rfl ?_
 intro b2 w3 hb2 S B_
 refine stW rfl rfl T28 rfl rfl (one_cons rfl (one_cons rfl (one_cons rfl (one_cons rfl (one_cons rfl (one_cons rfl (one_cons rfl (one_cons rfl (one_cons rfl (one_cons rfl (one_cons rfl (one_cons rfl (one_cons rfl (one_cons rfl (one_cons rfl (one_cons rfl (one_cons rfl (one_cons rfl (one_cons rfl (one_cons rfl (one_cons rfl (one_cons rfl (one_cons rfl (one_cons rfl (one_cons rfl (one_cons rfl (one_cons rfl (one_cons rfl (one_cons rfl (one_cons rfl (one_cons rfl (one_cons rfl (one_cons rfl (one_cons rfl (one_cons rfl (one_cons rfl (one_cons rfl (one_cons rfl (one_cons rfl (one_cons rfl (one_cons rfl (one_cons rfl (one_cons hq1.one one_nil))))))))))))))))))))))))))))))))))))))))))) S (i := 0) rfl rfl ?_
 intro w4 S
 refine Ro.nil ?_
 refine Nrm.code ?_
 refine Run.seq ?_
 refine Run.region ?_
 refine ldW rfl T28 S (i := 0) rfl rfl rfl rfl rfl ?_
 refine bsl e26 (qs := [(_, _), (_, _), (_, _), (_, _), (_, _), (_, _), (_, _), (_, _), (_, _), (_, _), (_, _), (_, _), (_, _), (_, _), (_, _), (_, _), (_, _), (_, _), (_, _), (_, _), (_, _), (_, _)]) ⟨⟨_, _, _, rfl, rfl, rfl, rfl, by simp [Value.cells]⟩, ⟨_, _, _, rfl, rfl, rfl, rfl, by simp [Value.cells]⟩, ⟨_, _, _, rfl, rfl, rfl, rfl, by simp [Value.cells]⟩, ⟨_, _, _, rfl, rfl, rfl, rfl, by simp [Value.cells]⟩, ⟨_, _, _, rfl, rfl, rfl, rfl, by simp [Value.cells]⟩, ⟨_, _, _, rfl, rfl, rfl, rfl, by simp [Value.cells]⟩, ⟨_, _, _, rfl, rfl, rfl, rfl, by simp [Value.cells]⟩, ⟨_, _, _, rfl, rfl, rfl, rfl, by simp [Value.cells]⟩, ⟨_, _, _, rfl, rfl, rfl, rfl, by simp [Value.cells]⟩, ⟨_, _, _, rfl, rfl, rfl, rfl, by simp [Value.cells]⟩, ⟨_, _, _, rfl, rfl, rfl, rfl, by simp [Value.cells]⟩, ⟨_, _, _, rfl, rfl, rfl, rfl, by simp [Value.cells]⟩, ⟨_, _, _, rfl, rfl, rfl, rfl, by simp [Value.cells]⟩, ⟨_, _, _, rfl, rfl, rfl, rfl, by simp [Value.cells]⟩, ⟨_, _, _, rfl, rfl, rfl, rfl, by simp [Value.cells]⟩, ⟨_, _, _, rfl, rfl, rfl, rfl, by simp [Value.cells]⟩, ⟨_, _, _, rfl, rfl, rfl, rfl, by simp [Value.cells]⟩, ⟨_, _, _, rfl, rfl, rfl, rfl, by simp [Value.cells]⟩, ⟨_, _, _, rfl, rfl, rfl, rfl, by simp [Value.cells]⟩, ⟨_, _, _, rfl, rfl, rfl, rfl, by simp [Value.cells]⟩, ⟨_, _, _, rfl, rfl, rfl, rfl, by simp [Value.cells]⟩, ⟨_, _, _, rfl, rfl, rfl, rfl, by simp [Value.cells]⟩, trivial⟩ rfl rfl rfl rfl S ?_
 intro u11 w5 S B_
 refine stW rfl rfl T28 rfl rfl (one_cons rfl (one_cons rfl (one_cons rfl (one_cons rfl (one_cons rfl (one_cons rfl (one_cons rfl (one_cons rfl (one_cons rfl (one_cons rfl (one_cons rfl (one_cons rfl (one_cons rfl (one_cons rfl (one_cons rfl (one_cons rfl (one_cons rfl (one_cons rfl (one_cons rfl (one_cons rfl (one_cons rfl (one_cons rfl (one_cons rfl (one_cons rfl (one_cons rfl (one_cons rfl (one_cons rfl (one_cons rfl (one_cons rfl (one_cons rfl (one_cons rfl (one_cons rfl (one_cons rfl (one_cons rfl (one_cons rfl (one_cons rfl (one_cons rfl (one_cons rfl (one_cons rfl (one_cons rfl (one_cons rfl (one_cons rfl (one_cons hq1.one one_nil))))))))))))))))))))))))))))))))))))))))))) S (i := 2) rfl rfl ?_
 intro w6 S
 refine asg1 rfl rfl ?_
 refine Ro.nil ?_
 refine Nrm.code ?_
 refine Run.ret ?_
 refine Rt.cell2 rfl rfl rfl T28 S (i := 2) rfl rfl ?_
 exact ⟨q, u11, rfl, (Sb.trans S).bl, fun N hN => ⟨((hq _ (below_app S0 hN)).stN (fun _ h => List.mem_append_left _ h) S).weak (fun j hj => List.mem_append_right _ (List.mem_append_right _ hj)), ((Sb.trans S).toFB (i := 0) (l := plainB) rfl).bs plainB_byt hN⟩⟩
set_option maxHeartbeats 1000000 in
theorem c28 (w : World) (hg : GV [] w 0 130 (W4.map i64)) :
  CallsD Tryd.prog 28 #[] w (.bool true) := by
 refine enter Tryd.func28 rfl Tryd.ntmps28 (l := []) rfl rfl ?_
 have S := St.refl [] w
 refine Run.seq ?_
 refine Run.region ?_
 refine asg1 rfl rfl ?_
 refine Ro.nil ?_
 refine Nrm.code ?_
 refine Run.seq ?_
 refine Run.region ?_
 refine call (vs := []) trivial k92 rfl (c92 _) ?_
 rintro _ w1 ⟨d1, v1, rfl, B1, hq⟩
 have Sb := S.call B1
 have hg := (hg.now Sb)
 have S := St.refl [] w1
 have hd1 := (hq [] (by simp)).1
 have hv1 := (hq [] (by simp)).2
 refine mv1 rfl rfl ?_
 refine extr1 rfl rfl rfl ?_
 refine extr1 rfl rfl rfl ?_
 refine alc T28 S rfl ?_
 intro b1 w2 hb1 S B_
 refine stW rfl rfl T28 rfl rfl (one_cons rfl (one_cons rfl (one_cons rfl (one_cons rfl (one_cons rfl (one_cons rfl (one_cons rfl (one_cons rfl (one_cons rfl (one_cons rfl (one_cons rfl (one_cons rfl (one_cons rfl (one_cons rfl (one_cons rfl (one_cons rfl (one_cons rfl (one_cons rfl (one_cons rfl (one_cons rfl (one_cons rfl (one_cons rfl (one_cons rfl (one_cons rfl (one_cons rfl (one_cons rfl (one_cons rfl (one_cons rfl (one_cons rfl (one_cons rfl (one_cons rfl (one_cons rfl (one_cons rfl (one_cons rfl (one_cons rfl (one_cons rfl (one_cons rfl (one_cons rfl (one_cons rfl (one_cons rfl (one_cons rfl (one_cons rfl (one_cons hd1.one one_nil))))))))))))))))))))))))))))))))))))))))))) S (i := 0) rfl rfl ?_
 intro w3 S
 refine asg1 rfl rfl ?_
 refine Ro.nil ?_
 refine Nrm.code ?_
 refine Run.seq ?_
 refine Run.region ?_
 refine ldW rfl T28 S (i := 0) rfl rfl rfl rfl rfl ?_
 refine call (vs := [_]) ⟨⟨_, _, rfl, rfl⟩, trivial⟩ k30 rfl (c30 _ _ _ _ (OS.nil _ _) (hd1.now S) (by decide) (by decide) plainH_ok.1 plainH_ok.2 (hg.now S)) ?_
 rintro _ w4 ⟨u3, rfl, hF⟩
 have S := S.fb hF
 refine mv1 rfl rfl ?_
 refine extr1 rfl rfl rfl ?_
 refine extr1 rfl rfl rfl ?_
 refine asg1 rfl rfl ?_
 refine asg1 rfl rfl ?_
 refine Ro.nil ?_
 refine Nrm.code ?_
 refine Run.seq ?_
 refine Run.region ?_
 refine mv1 rfl rfl ?_
 refine call (vs := [_]) ⟨⟨_, _, rfl, rfl⟩, trivial⟩ k33 rfl (c33 _ _ _ (hv1.now S) (hg.now S)) ?_
 rintro _ w5 ⟨o5, d5, vs5, rfl, hF, hw5⟩
 have S := S.fo hF
 have hd5 := (hw5 _ _ hv1).2
 have ho5 := (hw5 _ _ hv1).1
 refine mv1 rfl rfl ?_
 refine extr1 rfl rfl rfl ?_
 refine extr1 rfl rfl rfl ?_
 refine alc T28 S rfl ?_
 intro b5 w6 hb5 S B_
 refine stW rfl rfl T28 rfl rfl (one_cons rfl (one_cons rfl (one_cons rfl (one_cons rfl (one_cons rfl (one_cons rfl (one_cons rfl (one_cons rfl (one_cons rfl (one_cons rfl (one_cons rfl (one_cons rfl (one_cons rfl (one_cons rfl (one_cons rfl (one_cons rfl (one_cons rfl (one_cons rfl (one_cons rfl (one_cons rfl (one_cons rfl (one_cons rfl (one_cons rfl (one_cons rfl (one_cons rfl (one_cons rfl (one_cons rfl (one_cons rfl (one_cons rfl (one_cons rfl (one_cons rfl (one_cons rfl (one_cons rfl (one_cons rfl (one_cons rfl (one_cons rfl (one_cons rfl (one_cons rfl (one_cons rfl (one_cons rfl (one_cons rfl (one_cons (S.slI (i := 1) rfl).one (one_cons hd5.one one_nil))))))))))))))))))))))))))))))))))))))))))) S (i := 0) rfl rfl ?_
 intro w7 S
 refine asg1 rfl rfl ?_
 refine Ro.nil ?_
 refine Nrm.code ?_
 refine Run.seq ?_
 refine Run.region ?_
 refine call (vs := [_]) ⟨⟨_, _, rfl, rfl⟩, trivial⟩ k33 rfl (c33 _ _ _ (BS.nil _ _) (hg.now S)) ?_
 rintro _ w8 ⟨o7, d7, vs7, rfl, hF, hw7⟩
 have S := S.fo hF
 have hd7 := (hw7 _ _ (BS.nil [] w1)).2
 have ho7 := (hw7 _ _ (BS.nil [] w1)).1
 refine mv1 rfl rfl ?_
 refine extr1 rfl rfl rfl ?_
 refine extr1 rfl rfl rfl ?_
 refine alc T28 S rfl ?_
 intro b7 w9 hb7 S B_
 refine stW rfl rfl T28 rfl rfl (one_cons rfl (one_cons rfl (one_cons rfl (one_cons rfl (one_cons rfl (one_cons rfl (one_cons rfl (one_cons rfl (one_cons rfl (one_cons rfl (one_cons rfl (one_cons rfl (one_cons rfl (one_cons rfl (one_cons rfl (one_cons rfl (one_cons rfl (one_cons rfl (one_cons rfl (one_cons rfl (one_cons rfl (one_cons rfl (one_cons rfl (one_cons rfl (one_cons rfl (one_cons rfl (one_cons rfl (one_cons rfl (one_cons rfl (one_cons rfl (one_cons rfl (one_cons rfl (one_cons rfl (one_cons rfl (one_cons rfl (one_cons rfl (one_cons rfl (one_cons rfl (one_cons rfl (one_cons rfl (one_cons rfl (one_cons (S.slI (i := 1) rfl).one (one_cons hd7.one one_nil))))))))))))))))))))))))))))))))))))))))))) S (i := 0) rfl rfl ?_
 intro w10 S
 refine asg1 rfl rfl ?_
 refine Ro.nil ?_
 refine Nrm.code ?_
 refine Run.seq ?_
 refine Run.region ?_
 refine mv1 rfl rfl ?_
 refine calg (vs := [_]) rfl ⟨⟨_, _, rfl, rfl⟩, trivial⟩ k31 rfl (fun hG => c31 (chkE plainH) _ (by rw [plain_chk]; decide)) ?_
 intro w11 B_; have S := S.call B_
 refine eql1 rfl rfl rfl ?_
 refine mv1 rfl rfl ?_
 refine mv rfl rfl rfl rfl ?_
 refine calg (vs := [_]) rfl ⟨⟨_, _, rfl, rfl⟩, trivial⟩ k31 rfl (fun hG => c31 (parE plainB) _ (by rw [plain_par]; decide)) ?_
 intro w12 B_; have S := S.call B_
 refine eql rfl rfl rfl rfl rfl rfl ?_
 refine pkA rfl rfl rfl rfl rfl rfl ?_
 refine mv1 rfl rfl ?_
 refine mv rfl rfl rfl rfl ?_
 refine calg (vs := [_]) rfl ⟨⟨_, _, rfl, rfl⟩, trivial⟩ k31 rfl (fun hG => c31 (parE []) _ (by rw [par_nil]; decide)) ?_
 intro w13 B_; have S := S.call B_
 refine eql rfl rfl rfl rfl rfl rfl ?_
 refine pkA rfl rfl rfl rfl rfl rfl ?_
 refine mv1 rfl rfl ?_
 refine mv rfl rfl rfl rfl ?_
 refine mv rfl rfl rfl rfl ?_
 have hby_u3 : byt (serL plainH) := by rw [plain_ser]; exact plainB_byt
 refine calg (vs := [_, _]) rfl ⟨⟨_, _, rfl, rfl⟩, ⟨_, _, rfl, rfl⟩, trivial⟩ k37 rfl (fun hG => c37 _ _ _ _ _ (hv1.now S) (S.bsI (i := 4) rfl hby_u3)) ?_
 intro w14 B_; have S := S.call B_
 refine pkA rfl rfl rfl rfl rfl rfl ?_
 refine mv1 rfl rfl ?_
 refine ldW rfl T28 S (i := 2) rfl rfl rfl rfl rfl ?_
 refine ldW rfl T28 S (i := 5) rfl rfl rfl rfl rfl ?_
 refine calg (vs := [_, _]) rfl ⟨⟨_, _, rfl, rfl⟩, ⟨_, _, rfl, rfl⟩, trivial⟩ k34 rfl (fun hG => c34 _ _ _ _ _ _ _ (S.osI (i := 3) rfl (ho5.now S)) (hd5.now S) (OS.nil _ _) (hd1.now S) (by have := (parH_ok plainB_byt).2.2.1; omega)) ?_
 intro w15 B_; have S := S.call B_
 refine pkA rfl rfl rfl rfl rfl rfl ?_
 refine asg1 rfl rfl ?_
 refine Ro.nil ?_
 refine Nrm.code ?_
 refine Run.ret ?_
 refine Rt.one rfl rfl ?_
 exact ⟨by simp [plain_chk, plain_par, par_nil, plain_ser, plain_same], Sb.bl.trans S.bl⟩
end Go.Proofs.YtkahmepenjhcpaaDoor.W
/- Contracts: the endpoints, and what is started. No statement of the seat is proved here. -/
namespace Go.Proofs.YtkahmepenjhcpaaDoor.W
open Go
set_option linter.unusedSimpArgs false
set_option linter.unusedVariables false
section
variable {P : Program} {n : Nat} {l : Env} {k : List KI} {w w0 : World} {N0 : List Nat} {L : List Own}
theorem Rt.cells2 {fn : Func} {Rr : Value → World → Prop} {t u : Nat} {T U : TypeId} {sz sz' b b' i j : Nat} {T' U' : TypeId} {c c' zc zc' : List Value} (hr : fn.results = #[.cell t T, .cell u U]) (ht : lk l t = some ([], .pointer (some ⟨b, 0, none⟩))) (hu : lk l u = some ([], .pointer (some ⟨b', 0, none⟩)))
    (hT : TyI P T sz true zc) (hU : TyI P U sz' true zc') (S : St N0 w0 L w) (hk : getN L i = some (.var b T' c)) (hl : c.length = sz) (hk' : getN L j = some (.var b' U' c')) (hl' : c'.length = sz') (h : Rr (.tuple #[.agg c.toArray, .agg c'.toArray]) w) :
    Rt P (bodyPost P fn (RV Rr)) [] n l k w :=
  Rt.top (R := bodyPost P fn (RV Rr)) (fun a ha => show bodyPost P fn (RV Rr) .ret a w from bodyPost_ret (v := .tuple #[.agg c.toArray, .agg c'.toArray]) (by
    have h1 := ha.getD ht
    have h2 := ha.getD hu
    simp only [Array.getD_eq_getD_getElem?] at h1 h2
    simp [results, hr, h1, h2, asAddr, loadVarRun hT S hk hl, loadVarRun hU S hk' hl']) ha.defers h) k
end
def eS : IP := ip4of 10 0 0 1
def eD : IP := ip4of 10 0 0 2
theorem eS_ok : eS.ok := ip4of_ok (by omega) (by omega) (by omega) (by omega)
theorem eD_ok : eD.ok := ip4of_ok (by omega) (by omega) (by omega) (by omega)
def uA : Udp := ⟨1, 2, false, [104, 105]⟩
def uAB : List Int := [0, 1, 0, 2, 0, 10, 131, 107, 104, 105]
def uN : Udp := ⟨-1, 0, false, List.replicate 65528 0⟩
def tA : Tcp := ⟨1, 2, 0, 0, 0, 0, 0, [⟨3, [7]⟩], []⟩
def tM : Tcp := ⟨0, 0, 0, 0, 0, 0, 0, [⟨2, [5, 180]⟩], []⟩
theorem uAB_byt : byt uAB := by intro x hx; revert x; decide +kernel
theorem b7_byt : byt [7] := by intro x hx; revert x; decide +kernel
theorem b5_byt : byt [5, 180] := by intro x hx; revert x; decide +kernel
theorem uA_putE : putUE eS eD uA = 0 := by decide +kernel
theorem uA_putL : putUL eS eD uA = uAB := by decide +kernel
theorem uA_parE : udpE eS eD uAB = 0 := by decide +kernel
theorem uA_same : sameU uA (udpU eS eD uAB) = true := by decide +kernel
theorem uN_chk : chkU 4 uN = 98 := by
  have : badU 4 uN = true := rfl
  unfold chkU
  rw [if_neg (by decide), if_pos this]
theorem tA_putE : putTE eS eD tA = 0 := by decide +kernel
theorem tA_len : (putTL eS eD tA).length = 24 := by decide +kernel
theorem tA_opt : tcpO (putTL eS eD tA) = [3, 3, 7, 0] := by decide +kernel
theorem tA_optsG : optsG [3, 3, 7, 0] = some [⟨3, [7]⟩] := by simp [optsG]
theorem tA_tG : toptsG [3, 3, 7, 0] = some [⟨3, [7]⟩] := by
  unfold toptsG
  rw [tA_optsG]
  rfl
theorem tA_tE : tE (tcpO (putTL eS eD tA)) = 0 := by
  rw [tA_opt]
  unfold tE
  rw [tA_tG]
  rfl
theorem tA_tL : tL (tcpO (putTL eS eD tA)) = [⟨3, [7]⟩] := by
  rw [tA_opt]
  unfold tL
  rw [tA_tG]
  rfl
theorem tA_parE : tcpE eS eD (putTL eS eD tA) = 0 := by
  unfold tcpE
  rw [tA_tE]
  decide +kernel
theorem tA_same : sameT (tcpT eS eD (putTL eS eD tA)) tA = true := by
  unfold tcpT
  rw [if_pos tA_parE]
  unfold tcpG
  rw [tA_tL]
  decide +kernel
theorem t_nil : tcpE eS eD [] = 94 := by decide +kernel
theorem tM_mss : mssF tM.opts = (1460, true) := by decide +kernel
theorem tA_clamp : sameT (clampT tA 9) tA = true := by decide +kernel
theorem tA_byt : byt (putTL eS eD tA) := putTL_byt eS_ok eD_ok (by intro o ho; simp [tA] at ho; subst ho; exact b7_byt) byt_nil
set_option maxHeartbeats 1000000 in
theorem c122 (w : World) :
  CallsD Tryd.prog 122 #[] w (.tuple #[.agg (encIP eS).toArray, .agg (encIP eD).toArray]) := by
 refine enter Tryd.func122 rfl Tryd.ntmps122 (l := []) rfl rfl ?_
 have S := St.refl [] w
 refine Run.seq ?_
 refine Run.region ?_
 refine alc T24 S rfl ?_
 intro b0 w1 hb0 S B_
 refine alc T24 S rfl ?_
 intro b1 w2 hb1 S B_
 refine Ro.nil ?_
 refine Nrm.code ?_
 refine Run.seq ?_
 refine Run.region ?_
 refine bldA rfl (sz := 1) (E := 5) (m := 16) Tryd.underlying22 T22 T5 (qs := [(_, _), (_, _), (_, _), (_, _)]) ⟨⟨_, _, _, rfl, rfl, rfl, rfl, by first | (simp [Value.cells]; done) | simp [Value.cells, encIP]⟩, ⟨_, _, _, rfl, rfl, rfl, rfl, by first | (simp [Value.cells]; done) | simp [Value.cells, encIP]⟩, ⟨_, _, _, rfl, rfl, rfl, rfl, by first | (simp [Value.cells]; done) | simp [Value.cells, encIP]⟩, ⟨_, _, _, rfl, rfl, rfl, rfl, by first | (simp [Value.cells]; done) | simp [Value.cells, encIP]⟩, trivial⟩ rfl rfl ?_
 refine bld B24 (qs := [(_, _), (_, _)]) ⟨⟨_, _, _, rfl, rfl, rfl, rfl, by first | (simp [Value.cells]; done) | simp [Value.cells, encIP]⟩, ⟨_, _, _, rfl, rfl, rfl, rfl, by first | (simp [Value.cells]; done) | simp [Value.cells, encIP]⟩, trivial⟩ rfl rfl rfl ?_
 refine bldA rfl (sz := 1) (E := 5) (m := 16) Tryd.underlying22 T22 T5 (qs := [(_, _), (_, _), (_, _), (_, _)]) ⟨⟨_, _, _, rfl, rfl, rfl, rfl, by first | (simp [Value.cells]; done) | simp [Value.cells, encIP]⟩, ⟨_, _, _, rfl, rfl, rfl, rfl, by first | (simp [Value.cells]; done) | simp [Value.cells, encIP]⟩, ⟨_, _, _, rfl, rfl, rfl, rfl, by first | (simp [Value.cells]; done) | simp [Value.cells, encIP]⟩, ⟨_, _, _, rfl, rfl, rfl, rfl, by first | (simp [Value.cells]; done) | simp [Value.cells, encIP]⟩, trivial⟩ rfl rfl ?_
 refine bld B24 (qs := [(_, _), (_, _)]) ⟨⟨_, _, _, rfl, rfl, rfl, rfl, by first | (simp [Value.cells]; done) | simp [Value.cells, encIP]⟩, ⟨_, _, _, rfl, rfl, rfl, rfl, by first | (simp [Value.cells]; done) | simp [Value.cells, encIP]⟩, trivial⟩ rfl rfl rfl ?_
 refine stW rfl rfl T24 rfl rfl (by simp [Value.oneCell']) S (i := 1) rfl rfl ?_
 intro w3 S
 refine stW rfl rfl T24 rfl rfl (by simp [Value.oneCell']) S (i := 0) rfl rfl ?_
 intro w4 S
 refine Ro.nil ?_
 refine Nrm.code ?_
 refine Run.ret ?_
 refine Rt.cells2 rfl rfl rfl T24 T24 S (i := 1) (j := 0) rfl rfl rfl rfl ?_
 exact ⟨rfl, S.bl⟩
set_option maxHeartbeats 1000000 in
theorem c54 (w : World) (hg1 : GV [] w 1 163 (W16.map i64)) (hg2 : GV [] w 2 166 (W10.map i64)) (hg3 : GV [] w 3 183 (lenT.map u64)) :
  CallsD Tryd.prog 54 #[] w (.bool true) := by
 refine enter Tryd.func54 rfl Tryd.ntmps54 (l := []) rfl rfl ?_
 have S := St.refl [] w
 have hoA : ∀ p ∈ tA.opts, p.data.length ≤ 1099511627776 := by intro p hp; simp [tA] at hp; subst hp; decide
 have hoM : ∀ p ∈ tM.opts, p.data.length ≤ 1099511627776 := by intro p hp; simp [tM] at hp; subst hp; decide
 refine Run.seq ?_
 refine Run.region ?_
 refine asg1 rfl rfl ?_
 refine Ro.nil ?_
 refine Nrm.code ?_
 refine Run.seq ?_
 refine Run.region ?_
 refine calg (vs := []) rfl trivial k122 rfl (fun hG => c122 _) ?_
 intro w1 B_; have S := S.call B_
 refine mv1 rfl rfl ?_
 refine extr1 rfl rfl rfl ?_
 refine extr1 rfl rfl rfl ?_
 refine alc T24 S rfl ?_
 intro b1 w2 hb1 S B_
 refine alc T24 S rfl ?_
 intro b2 w3 hb2 S B_
 refine stW rfl rfl T24 rfl rfl (encIP_all1 _) S (i := 1) rfl rfl ?_
 intro w4 S
 refine stW rfl rfl T24 rfl rfl (encIP_all1 _) S (i := 0) rfl rfl ?_
 intro w5 S
 refine Ro.nil ?_
 refine Nrm.code ?_
 refine Run.seq ?_
 refine Run.region ?_
 refine bsk (b := [104, 105]) e26 Tryd.underlying5 hi_byt (qs := [(_, _), (_, _)]) ⟨⟨_, _, _, rfl, rfl, rfl, rfl, by simp [Value.cells]⟩, ⟨_, _, _, rfl, rfl, rfl, rfl, by simp [Value.cells]⟩, trivial⟩ rfl rfl rfl rfl rfl (by decide) S ?_
 have S0 := S
 intro u qh25 w6 S B_ hq_
 have h25 := hq_ _ S0.lt
 obtain ⟨N1, hN1, S_1⟩ := S.reb
 have hg1 := hg1.st S; rw [hN1] at hg1
 have hg2 := hg2.st S; rw [hN1] at hg2
 have hg3 := hg3.st S; rw [hN1] at hg3
 rw [hN1] at h25
 have SS := S
 have S := S_1
 refine bld B73 (qs := [(_, _), (_, _), (_, _)]) ⟨⟨_, _, _, rfl, rfl, rfl, rfl, by first | (simp [Value.cells]; done) | simp [Value.cells, encIP]⟩, ⟨_, _, _, rfl, rfl, rfl, rfl, by first | (simp [Value.cells]; done) | simp [Value.cells, encIP]⟩, ⟨_, _, _, rfl, rfl, cells1 h25.one, rfl, List.cons_ne_nil _ _⟩, trivial⟩ rfl rfl rfl ?_
 refine alc T73 S rfl ?_
 intro b3 w7 hb3 S B_
 refine stW rfl rfl T73 rfl rfl (one_cons rfl (one_cons rfl (one_cons rfl (one_cons h25.one one_nil)))) S (i := 0) rfl rfl ?_
 intro w8 S
 refine Ro.nil ?_
 refine Nrm.code ?_
 refine Run.seq ?_
 refine Run.region ?_
 refine ldW rfl T24 S (i := 2) rfl rfl rfl rfl rfl ?_
 refine ldW rfl T24 S (i := 1) rfl rfl rfl rfl rfl ?_
 refine ldW rfl T73 S (i := 0) rfl rfl rfl rfl rfl ?_
 refine call (vs := [_, _, _]) ⟨⟨_, _, rfl, rfl⟩, ⟨_, _, rfl, rfl⟩, ⟨_, _, rfl, rfl⟩, trivial⟩ k55 rfl (c55 eS eD uA _ _ eS_ok eD_ok (h25.now S) (by decide) (hg1.now S)) ?_
 rintro _ w9 ⟨u4, rfl, hF⟩
 have S := S.fb hF
 refine mv1 rfl rfl ?_
 refine extr1 rfl rfl rfl ?_
 refine extr1 rfl rfl rfl ?_
 refine asg1 rfl rfl ?_
 refine asg1 rfl rfl ?_
 refine Ro.nil ?_
 refine Nrm.code ?_
 refine Run.seq ?_
 refine Run.region ?_
 refine ldW rfl T24 S (i := 3) rfl rfl rfl rfl rfl ?_
 refine ldW rfl T24 S (i := 2) rfl rfl rfl rfl rfl ?_
 refine bsl e26 (qs := [(_, _), (_, _), (_, _), (_, _), (_, _), (_, _), (_, _), (_, _), (_, _), (_, _)]) ⟨⟨_, _, _, rfl, rfl, rfl, rfl, by first | (simp [Value.cells]; done) | simp [Value.cells, encIP]⟩, ⟨_, _, _, rfl, rfl, rfl, rfl, by first | (simp [Value.cells]; done) | simp [Value.cells, encIP]⟩, ⟨_, _, _, rfl, rfl, rfl, rfl, by first | (simp [Value.cells]; done) | simp [Value.cells, encIP]⟩, ⟨_, _, _, rfl, rfl, rfl, rfl, by first | (simp [Value.cells]; done) | simp [Value.cells, encIP]⟩, ⟨_, _, _, rfl, rfl, rfl, rfl, by first | (simp [Value.cells]; done) | simp [Value.cells, encIP]⟩, ⟨_, _, _, rfl, rfl, rfl, rfl, by first | (simp [Value.cells]; done) | simp [Value.cells, encIP]⟩, ⟨_, _, _, rfl, rfl, rfl, rfl, by first | (simp [Value.cells]; done) | simp [Value.cells, encIP]⟩, ⟨_, _, _, rfl, rfl, rfl, rfl, by first | (simp [Value.cells]; done) | simp [Value.cells, encIP]⟩, ⟨_, _, _, rfl, rfl, rfl, rfl, by first | (simp [Value.cells]; done) | simp [Value.cells, encIP]⟩, ⟨_, _, _, rfl, rfl, rfl, rfl, by first | (simp [Value.cells]; done) | simp [Value.cells, encIP]⟩, trivial⟩ rfl rfl rfl rfl S ?_
 intro u37 w10 S B_
 have S : St _ _ (oB u37 uAB :: _) w10 := S
 obtain ⟨h37, S⟩ := S.layBI (i := 0) rfl rfl uAB_byt
 obtain ⟨N2, hN2, S_2⟩ := S.reb
 have hg1 := hg1.st S; rw [hN2] at hg1
 have hg2 := hg2.st S; rw [hN2] at hg2
 have hg3 := hg3.st S; rw [hN2] at hg3
 have h25 := h25.st S; rw [hN2] at h25
 rw [hN2] at h37
 have SS := SS.tran hN1 S
 have S := S_2
 refine call (vs := [_, _, _]) ⟨⟨_, _, rfl, rfl⟩, ⟨_, _, rfl, rfl⟩, ⟨_, _, rfl, rfl⟩, trivial⟩ k57 rfl (c57 eS eD _ _ _ eS_ok eD_ok (h37.now S) (hg1.now S)) ?_
 rintro _ w11 ⟨d6, rfl, B1, hw_⟩
 have S := S.call B1
 have hd6 := hw_ _ _ h37
 refine mv1 rfl rfl ?_
 refine extr1 rfl rfl rfl ?_
 refine extr1 rfl rfl rfl ?_
 refine alc T73 S rfl ?_
 intro b6 w12 hb6 S B_
 refine stW rfl rfl T73 rfl rfl (one_cons rfl (one_cons rfl (one_cons rfl (one_cons hd6.one one_nil)))) S (i := 0) rfl rfl ?_
 intro w13 S
 refine asg1 rfl rfl ?_
 refine Ro.nil ?_
 refine Nrm.code ?_
 refine Run.seq ?_
 refine Run.region ?_
 refine bsl e26 (qs := [(_, _)]) ⟨⟨_, _, _, rfl, rfl, rfl, rfl, by first | (simp [Value.cells]; done) | simp [Value.cells, encIP]⟩, trivial⟩ rfl rfl rfl rfl S ?_
 intro u41 w14 S B_
 have S : St _ _ (oB u41 [7] :: _) w14 := S
 refine bld B93 (qs := [(_, _), (_, _)]) ⟨⟨_, _, _, rfl, rfl, rfl, rfl, by first | (simp [Value.cells]; done) | simp [Value.cells, encIP]⟩, ⟨_, _, _, rfl, rfl, cells1 (S.slI (i := 0) rfl).one, rfl, List.cons_ne_nil _ _⟩, trivial⟩ rfl rfl rfl ?_
 refine bsl e25 (qs := [(_, _)]) ⟨⟨_, _, _, rfl, rfl, rfl, rfl, by first | (simp [Value.cells]; done) | simp [Value.cells, encIP]⟩, trivial⟩ rfl rfl rfl rfl S ?_
 intro u43 w15 S B_
 have S : St _ _ (oO u43 tA.opts [u41] :: _) w15 := S
 obtain ⟨h41, S⟩ := S.layBI (i := 1) rfl rfl b7_byt
 obtain ⟨N3, hN3, S_3⟩ := S.reb
 have hg1 := hg1.st S; rw [hN3] at hg1
 have hg2 := hg2.st S; rw [hN3] at hg2
 have hg3 := hg3.st S; rw [hN3] at hg3
 have h25 := h25.st S; rw [hN3] at h25
 have h37 := h37.st S; rw [hN3] at h37
 have hd6 := hd6.st S; rw [hN3] at hd6
 rw [hN3] at h41
 have SS := SS.tran hN2 S
 have S := S_3
 obtain ⟨hOA, S⟩ := S.layOI (i := 0) (ds := [u41]) (os := tA.opts) rfl rfl ⟨h41, trivial⟩
 obtain ⟨N4, hN4, S_4⟩ := S.reb
 have hg1 := hg1.st S; rw [hN4] at hg1
 have hg2 := hg2.st S; rw [hN4] at hg2
 have hg3 := hg3.st S; rw [hN4] at hg3
 have h25 := h25.st S; rw [hN4] at h25
 have h37 := h37.st S; rw [hN4] at h37
 have hd6 := hd6.st S; rw [hN4] at hd6
 have h41 := h41.st S; rw [hN4] at h41
 rw [hN4] at hOA
 have SS := SS.tran hN3 S
 have S := S_4
 refine bld B82 (qs := [(_, _), (_, _), (_, _)]) ⟨⟨_, _, _, rfl, rfl, rfl, rfl, by first | (simp [Value.cells]; done) | simp [Value.cells, encIP]⟩, ⟨_, _, _, rfl, rfl, rfl, rfl, by first | (simp [Value.cells]; done) | simp [Value.cells, encIP]⟩, ⟨_, _, _, rfl, rfl, cells1 hOA.one, rfl, List.cons_ne_nil _ _⟩, trivial⟩ rfl rfl rfl ?_
 refine alc T82 S rfl ?_
 intro b8 w16 hb8 S B_
 refine stW rfl rfl T82 rfl rfl (one_cons rfl (one_cons rfl (one_cons rfl (one_cons rfl (one_cons rfl (one_cons rfl (one_cons rfl (one_cons hOA.one (one_cons rfl one_nil))))))))) S (i := 0) rfl rfl ?_
 intro w17 S
 refine Ro.nil ?_
 refine Nrm.code ?_
 refine Run.seq ?_
 refine Run.region ?_
 refine ldW rfl T24 S (i := 5) rfl rfl rfl rfl rfl ?_
 refine ldW rfl T24 S (i := 4) rfl rfl rfl rfl rfl ?_
 refine ldW rfl T82 S (i := 0) rfl rfl rfl rfl rfl ?_
 refine call (vs := [_, _, _]) ⟨⟨_, _, rfl, rfl⟩, ⟨_, _, rfl, rfl⟩, ⟨_, _, rfl, rfl⟩, trivial⟩ k61 rfl (c61 eS eD tA _ _ _ eS_ok eD_ok (hOA.now S) (BS.nil _ _) (by decide) (by exact hoA) (by decide) (hg2.now S) (hg3.now S)) ?_
 rintro _ w18 ⟨u9, rfl, hF⟩
 have S := S.fb hF
 refine mv1 rfl rfl ?_
 refine extr1 rfl rfl rfl ?_
 refine extr1 rfl rfl rfl ?_
 refine asg1 rfl rfl ?_
 refine asg1 rfl rfl ?_
 refine Ro.nil ?_
 refine Nrm.code ?_
 refine Run.seq ?_
 refine Run.region ?_
 refine ldW rfl T24 S (i := 6) rfl rfl rfl rfl rfl ?_
 refine ldW rfl T24 S (i := 5) rfl rfl rfl rfl rfl ?_
 obtain ⟨h9, S⟩ := S.layBI (i := 0) rfl rfl tA_byt
 obtain ⟨N5, hN5, S_5⟩ := S.reb
 have hg1 := hg1.st S; rw [hN5] at hg1
 have hg2 := hg2.st S; rw [hN5] at hg2
 have hg3 := hg3.st S; rw [hN5] at hg3
 have h25 := h25.st S; rw [hN5] at h25
 have h37 := h37.st S; rw [hN5] at h37
 have hd6 := hd6.st S; rw [hN5] at hd6
 have h41 := h41.st S; rw [hN5] at h41
 have hOA := hOA.st S; rw [hN5] at hOA
 rw [hN5] at h9
 have SS := SS.tran hN4 S
 have S := S_5
 refine mv1 rfl rfl ?_
 refine call (vs := [_, _, _]) ⟨⟨_, _, rfl, rfl⟩, ⟨_, _, rfl, rfl⟩, ⟨_, _, rfl, rfl⟩, trivial⟩ k62 rfl (c62 eS eD _ _ _ eS_ok eD_ok (h9.now S) (hg2.now S) (hg3.now S)) ?_
 rintro _ w19 ⟨o11, d11, vs11, rfl, hF, hw_⟩
 have S := S.fo hF
 have hd11 := (hw_ _ _ h9).2
 have ho_ := (hw_ _ _ h9).1
 obtain ⟨ho11, S⟩ := S.layOI (i := 0) rfl rfl ho_
 obtain ⟨N6, hN6, S_6⟩ := S.reb
 have hg1 := hg1.st S; rw [hN6] at hg1
 have hg2 := hg2.st S; rw [hN6] at hg2
 have hg3 := hg3.st S; rw [hN6] at hg3
 have h25 := h25.st S; rw [hN6] at h25
 have h37 := h37.st S; rw [hN6] at h37
 have hd6 := hd6.st S; rw [hN6] at hd6
 have h41 := h41.st S; rw [hN6] at h41
 have hOA := hOA.st S; rw [hN6] at hOA
 have h9 := h9.st S; rw [hN6] at h9
 have hd11 := hd11.st S; rw [hN6] at hd11
 rw [hN6] at ho11
 have SS := SS.tran hN5 S
 have S := S_6
 refine mv1 rfl rfl ?_
 refine extr1 rfl rfl rfl ?_
 refine extr1 rfl rfl rfl ?_
 refine alc T82 S rfl ?_
 intro b11 w20 hb11 S B_
 refine stW rfl rfl T82 rfl rfl (one_cons rfl (one_cons rfl (one_cons rfl (one_cons rfl (one_cons rfl (one_cons rfl (one_cons rfl (one_cons ho11.one (one_cons hd11.one one_nil))))))))) S (i := 0) rfl rfl ?_
 intro w21 S
 refine asg1 rfl rfl ?_
 refine Ro.nil ?_
 refine Nrm.code ?_
 refine Run.seq ?_
 refine Run.region ?_
 refine ldW rfl T24 S (i := 6) rfl rfl rfl rfl rfl ?_
 refine ldW rfl T24 S (i := 5) rfl rfl rfl rfl rfl ?_
 refine call (vs := [_, _, _]) ⟨⟨_, _, rfl, rfl⟩, ⟨_, _, rfl, rfl⟩, ⟨_, _, rfl, rfl⟩, trivial⟩ k62 rfl (c62 eS eD _ _ _ eS_ok eD_ok (BS.nil _ _) (hg2.now S) (hg3.now S)) ?_
 rintro _ w22 ⟨o13, d13, vs13, rfl, hF, hw_⟩
 have S := S.fo hF
 have hd13 := (hw_ _ _ (BS.nil N6 w19)).2
 have ho_ := (hw_ _ _ (BS.nil N6 w19)).1
 obtain ⟨ho13, S⟩ := S.layOI (i := 0) rfl rfl ho_
 obtain ⟨N7, hN7, S_7⟩ := S.reb
 have hg1 := hg1.st S; rw [hN7] at hg1
 have hg2 := hg2.st S; rw [hN7] at hg2
 have hg3 := hg3.st S; rw [hN7] at hg3
 have h25 := h25.st S; rw [hN7] at h25
 have h37 := h37.st S; rw [hN7] at h37
 have hd6 := hd6.st S; rw [hN7] at hd6
 have h41 := h41.st S; rw [hN7] at h41
 have hOA := hOA.st S; rw [hN7] at hOA
 have h9 := h9.st S; rw [hN7] at h9
 have hd11 := hd11.st S; rw [hN7] at hd11
 have ho11 := ho11.st S; rw [hN7] at ho11
 have hd13 := hd13.st S; rw [hN7] at hd13
 rw [hN7] at ho13
 have SS := SS.tran hN6 S
 have S := S_7
 refine mv1 rfl rfl ?_
 refine extr1 rfl rfl rfl ?_
 refine extr1 rfl rfl rfl ?_
 refine alc T82 S rfl ?_
 intro b13 w23 hb13 S B_
 refine stW rfl rfl T82 rfl rfl (one_cons rfl (one_cons rfl (one_cons rfl (one_cons rfl (one_cons rfl (one_cons rfl (one_cons rfl (one_cons ho13.one (one_cons hd13.one one_nil))))))))) S (i := 0) rfl rfl ?_
 intro w24 S
 refine asg1 rfl rfl ?_
 refine Ro.nil ?_
 refine Nrm.code ?_
 refine Run.seq ?_
 refine Run.region ?_
 refine bsl e26 (qs := [(_, _), (_, _)]) ⟨⟨_, _, _, rfl, rfl, rfl, rfl, by first | (simp [Value.cells]; done) | simp [Value.cells, encIP]⟩, ⟨_, _, _, rfl, rfl, rfl, rfl, by first | (simp [Value.cells]; done) | simp [Value.cells, encIP]⟩, trivial⟩ rfl rfl rfl rfl S ?_
 intro u66 w25 S B_
 have S : St _ _ (oB u66 [5, 180] :: _) w25 := S
 refine bld B93 (qs := [(_, _), (_, _)]) ⟨⟨_, _, _, rfl, rfl, rfl, rfl, by first | (simp [Value.cells]; done) | simp [Value.cells, encIP]⟩, ⟨_, _, _, rfl, rfl, cells1 (S.slI (i := 0) rfl).one, rfl, List.cons_ne_nil _ _⟩, trivial⟩ rfl rfl rfl ?_
 refine bsl e25 (qs := [(_, _)]) ⟨⟨_, _, _, rfl, rfl, rfl, rfl, by first | (simp [Value.cells]; done) | simp [Value.cells, encIP]⟩, trivial⟩ rfl rfl rfl rfl S ?_
 intro u68 w26 S B_
 have S : St _ _ (oO u68 tM.opts [u66] :: _) w26 := S
 refine bld B82 (qs := [(_, _)]) ⟨⟨_, _, _, rfl, rfl, cells1 (S.slI (i := 0) rfl).one, rfl, List.cons_ne_nil _ _⟩, trivial⟩ rfl rfl rfl ?_
 refine calg (vs := [_]) rfl ⟨⟨_, _, rfl, rfl⟩, trivial⟩ k70 rfl (fun hG => c70 tM _ _ _ (S.osI (i := 0) (os := tM.opts) (ds := [u66]) rfl ⟨S.bsI (i := 1) (l := [5, 180]) rfl b5_byt, trivial⟩) (BS.nil _ _) (by decide) hoM (by decide)) ?_
 intro w27 B_; have S := S.call B_
 refine mv1 rfl rfl ?_
 refine extr1 rfl rfl rfl ?_
 refine extr1 rfl rfl rfl ?_
 refine asg1 rfl rfl ?_
 refine asg1 rfl rfl ?_
 refine Ro.nil ?_
 refine Nrm.code ?_
 refine Run.seq ?_
 refine Run.region ?_
 refine ldW rfl T82 S (i := 4) rfl rfl rfl rfl rfl ?_
 have S0 := S
 refine call (vs := [_, _]) ⟨⟨_, _, rfl, rfl⟩, ⟨_, _, rfl, rfl⟩, trivial⟩ k69 rfl (c69 tA 9 _ _ _ (hOA.now S) (BS.nil _ _) (by decide) (by exact hoA)) ?_
 rintro _ w28 ⟨o17, rfl, hFO⟩
 have S := S.call hFO.1
 have ho17 := hFO.2 _ S0.lt
 obtain ⟨N8, hN8, S_8⟩ := S.reb
 have hg1 := hg1.st S; rw [hN8] at hg1
 have hg2 := hg2.st S; rw [hN8] at hg2
 have hg3 := hg3.st S; rw [hN8] at hg3
 have h25 := h25.st S; rw [hN8] at h25
 have h37 := h37.st S; rw [hN8] at h37
 have hd6 := hd6.st S; rw [hN8] at hd6
 have h41 := h41.st S; rw [hN8] at h41
 have hOA := hOA.st S; rw [hN8] at hOA
 have h9 := h9.st S; rw [hN8] at h9
 have hd11 := hd11.st S; rw [hN8] at hd11
 have ho11 := ho11.st S; rw [hN8] at ho11
 have hd13 := hd13.st S; rw [hN8] at hd13
 have ho13 := ho13.st S; rw [hN8] at ho13
 rw [hN8] at ho17
 have SS := SS.tran hN7 S
 have S := S_8
 refine alc T82 S rfl ?_
 intro b17 w29 hb17 S B_
 refine stW rfl rfl T82 rfl rfl (one_cons rfl (one_cons rfl (one_cons rfl (one_cons rfl (one_cons rfl (one_cons rfl (one_cons rfl (one_cons ho17.one (one_cons rfl one_nil))))))))) S (i := 0) rfl rfl ?_
 intro w30 S
 refine Ro.nil ?_
 refine Nrm.code ?_
 refine Run.seq ?_
 refine Run.region ?_
 refine mkB (m := 65528) rfl rfl S rfl (by omega) ?_
 intro u75 w31 S B_
 refine bld B73 (qs := [(_, _), (_, _)]) ⟨⟨_, _, _, rfl, rfl, rfl, rfl, by first | (simp [Value.cells]; done) | simp [Value.cells, encIP]⟩, ⟨_, _, _, rfl, rfl, cells1 (S.slI (i := 0) rfl).one, rfl, List.cons_ne_nil _ _⟩, trivial⟩ rfl rfl rfl ?_
 refine calg (vs := [_, _]) rfl ⟨⟨_, _, rfl, rfl⟩, ⟨_, _, rfl, rfl⟩, trivial⟩ k60 rfl (fun hG => c60 _ uN _ _ (S.bsI (i := 0) (l := List.replicate 65528 0) rfl (by intro x hx; rw [(List.mem_replicate.1 hx).2]; omega)) (by show (List.replicate 65528 (0 : Int)).length ≤ _; rw [List.length_replicate]; decide)) ?_
 intro w32 B_; have S := S.call B_
 refine asg1 rfl rfl ?_
 refine Ro.nil ?_
 refine Nrm.code ?_
 refine Run.seq ?_
 refine Run.region ?_
 refine mv1 rfl rfl ?_
 refine calg (vs := [_]) rfl ⟨⟨_, _, rfl, rfl⟩, trivial⟩ k56 rfl (fun hG => c56 (chkU 4 uN) _ (by rw [uN_chk]; decide)) ?_
 intro w33 B_; have S := S.call B_
 refine eql1 rfl rfl rfl ?_
 refine mv1 rfl rfl ?_
 refine mv rfl rfl rfl rfl ?_
 refine calg (vs := [_]) rfl ⟨⟨_, _, rfl, rfl⟩, trivial⟩ k56 rfl (fun hG => c56 (putUE eS eD uA) _ (by rw [uA_putE]; decide)) ?_
 intro w34 B_; have S := S.call B_
 refine eql rfl rfl rfl rfl rfl rfl ?_
 refine pkA rfl rfl rfl rfl rfl rfl ?_
 refine mv1 rfl rfl ?_
 refine mv rfl rfl rfl rfl ?_
 refine calg (vs := [_]) rfl ⟨⟨_, _, rfl, rfl⟩, trivial⟩ k56 rfl (fun hG => c56 (udpE eS eD uAB) _ (by rw [uA_parE]; decide)) ?_
 intro w35 B_; have S := S.call B_
 refine eql rfl rfl rfl rfl rfl rfl ?_
 refine pkA rfl rfl rfl rfl rfl rfl ?_
 refine mv1 rfl rfl ?_
 refine mv rfl rfl rfl rfl ?_
 refine calg (vs := [_]) rfl ⟨⟨_, _, rfl, rfl⟩, trivial⟩ k56 rfl (fun hG => c56 (putTE eS eD tA) _ (by rw [tA_putE]; decide)) ?_
 intro w36 B_; have S := S.call B_
 refine eql rfl rfl rfl rfl rfl rfl ?_
 refine pkA rfl rfl rfl rfl rfl rfl ?_
 refine mv1 rfl rfl ?_
 refine mv rfl rfl rfl rfl ?_
 refine calg (vs := [_]) rfl ⟨⟨_, _, rfl, rfl⟩, trivial⟩ k56 rfl (fun hG => c56 (tcpE eS eD (putTL eS eD tA)) _ (by rw [tA_parE]; decide)) ?_
 intro w37 B_; have S := S.call B_
 refine eql rfl rfl rfl rfl rfl rfl ?_
 refine pkA rfl rfl rfl rfl rfl rfl ?_
 refine mv1 rfl rfl ?_
 refine mv rfl rfl rfl rfl ?_
 refine calg (vs := [_]) rfl ⟨⟨_, _, rfl, rfl⟩, trivial⟩ k56 rfl (fun hG => c56 (tcpE eS eD []) _ (by rw [t_nil]; decide)) ?_
 intro w38 B_; have S := S.call B_
 refine eql rfl rfl rfl rfl rfl rfl ?_
 refine pkA rfl rfl rfl rfl rfl rfl ?_
 refine mv1 rfl rfl ?_
 refine mv rfl rfl rfl rfl ?_
 refine pkA rfl rfl rfl rfl rfl rfl ?_
 refine mv1 rfl rfl ?_
 refine mv rfl rfl rfl rfl ?_
 refine eql rfl rfl rfl rfl rfl rfl ?_
 refine pkA rfl rfl rfl rfl rfl rfl ?_
 refine mv1 rfl rfl ?_
 refine mv rfl rfl rfl rfl ?_
 refine lenS rfl h9.2 Tryd.underlying26 rfl rfl rfl ?_
 refine eql rfl rfl rfl rfl rfl rfl ?_
 refine pkA rfl rfl rfl rfl rfl rfl ?_
 refine asg1 rfl rfl ?_
 refine Ro.nil ?_
 refine Nrm.code ?_
 refine Run.seq ?_
 refine Run.region ?_
 refine mv1 rfl rfl ?_
 refine mv1 rfl rfl ?_
 refine Ro.gtrue rfl (by simp [allT, uN_chk, uA_putE, uA_parE, tA_putE, tA_parE, t_nil, tM_mss, tA_len, uA_putL, uA_same, tA_same, tA_clamp]) ?_
 refine mv1 rfl rfl ?_
 refine Ro.gtrue rfl (by simp [allT, uN_chk, uA_putE, uA_parE, tA_putE, tA_parE, t_nil, tM_mss, tA_len, uA_putL, uA_same, tA_same, tA_clamp]) ?_
 refine bsl e26 (qs := [(_, _), (_, _), (_, _), (_, _), (_, _), (_, _), (_, _), (_, _), (_, _), (_, _)]) ⟨⟨_, _, _, rfl, rfl, rfl, rfl, by first | (simp [Value.cells]; done) | simp [Value.cells, encIP]⟩, ⟨_, _, _, rfl, rfl, rfl, rfl, by first | (simp [Value.cells]; done) | simp [Value.cells, encIP]⟩, ⟨_, _, _, rfl, rfl, rfl, rfl, by first | (simp [Value.cells]; done) | simp [Value.cells, encIP]⟩, ⟨_, _, _, rfl, rfl, rfl, rfl, by first | (simp [Value.cells]; done) | simp [Value.cells, encIP]⟩, ⟨_, _, _, rfl, rfl, rfl, rfl, by first | (simp [Value.cells]; done) | simp [Value.cells, encIP]⟩, ⟨_, _, _, rfl, rfl, rfl, rfl, by first | (simp [Value.cells]; done) | simp [Value.cells, encIP]⟩, ⟨_, _, _, rfl, rfl, rfl, rfl, by first | (simp [Value.cells]; done) | simp [Value.cells, encIP]⟩, ⟨_, _, _, rfl, rfl, rfl, rfl, by first | (simp [Value.cells]; done) | simp [Value.cells, encIP]⟩, ⟨_, _, _, rfl, rfl, rfl, rfl, by first | (simp [Value.cells]; done) | simp [Value.cells, encIP]⟩, ⟨_, _, _, rfl, rfl, rfl, rfl, by first | (simp [Value.cells]; done) | simp [Value.cells, encIP]⟩, trivial⟩ rfl rfl rfl rfl S ?_
 intro u121 w39 S B_
 refine Ro.gtrue rfl (by simp [allT, uN_chk, uA_putE, uA_parE, tA_putE, tA_parE, t_nil, tM_mss, tA_len, uA_putL, uA_same, tA_same, tA_clamp]) ?_
 refine calg (vs := [_, _]) rfl ⟨⟨_, _, rfl, rfl⟩, ⟨_, _, rfl, rfl⟩, trivial⟩ k37 rfl (fun hG => c37 _ _ (putUL eS eD uA) uAB _ (S.bsI (i := 9) rfl (by rw [uA_putL]; exact uAB_byt)) (S.bsI (i := 0) (l := uAB) rfl uAB_byt)) ?_
 intro w40 B_; have S := S.call B_
 refine pkA rfl rfl rfl rfl rfl rfl ?_
 refine mv1 rfl rfl ?_
 refine ldW rfl T73 S (i := 10) rfl rfl rfl rfl rfl ?_
 refine ldW rfl T73 S (i := 8) rfl rfl rfl rfl rfl ?_
 refine calg (vs := [_, _]) rfl ⟨⟨_, _, rfl, rfl⟩, ⟨_, _, rfl, rfl⟩, trivial⟩ k59 rfl (fun hG => c59 uA (udpU eS eD uAB) _ _ _ (h25.now S) (hd6.now S)) ?_
 intro w41 B_; have S := S.call B_
 refine pkA rfl rfl rfl rfl rfl rfl ?_
 refine mv1 rfl rfl ?_
 refine ldW rfl T82 S (i := 6) rfl rfl rfl rfl rfl ?_
 refine ldW rfl T82 S (i := 7) rfl rfl rfl rfl rfl ?_
 refine calg (vs := [_, _]) rfl ⟨⟨_, _, rfl, rfl⟩, ⟨_, _, rfl, rfl⟩, trivial⟩ k63 rfl (fun hG => c63 (tcpT eS eD (putTL eS eD tA)) tA _ _ _ _ _ (ho11.now S) (hd11.now S) (hOA.now S) (BS.nil _ _) (by rw [tcpT, if_pos tA_parE]; unfold tcpG; rw [tA_tL]; decide)) ?_
 intro w42 B_; have S := S.call B_
 refine pkA rfl rfl rfl rfl rfl rfl ?_
 refine mv1 rfl rfl ?_
 refine ldW rfl T82 S (i := 2) rfl rfl rfl rfl rfl ?_
 refine ldW rfl T82 S (i := 7) rfl rfl rfl rfl rfl ?_
 refine calg (vs := [_, _]) rfl ⟨⟨_, _, rfl, rfl⟩, ⟨_, _, rfl, rfl⟩, trivial⟩ k63 rfl (fun hG => c63 (clampT tA 9) tA _ _ _ _ _ (ho17.now S) (BS.nil _ _) (hOA.now S) (BS.nil _ _) (by decide)) ?_
 intro w43 B_; have S := S.call B_
 refine pkA rfl rfl rfl rfl rfl rfl ?_
 refine asg1 rfl rfl ?_
 refine Ro.nil ?_
 refine Nrm.code ?_
 refine Run.ret ?_
 refine Rt.one rfl rfl ?_
 exact ⟨by simp [uN_chk, uA_putE, uA_parE, tA_putE, tA_parE, t_nil, tM_mss, tA_len, uA_putL, uA_same, tA_same, tA_clamp], (SS.tran hN8 S).bl⟩
end Go.Proofs.YtkahmepenjhcpaaDoor.W
