/- Contracts: options written. No statement of the seat is proved here. -/
import Derived.Test.YtkahmepenjhcpaaDoorCh
import Derived.Test.YtkahmepenjhcpaaDoorSc
namespace Go.Proofs.YtkahmepenjhcpaaDoor.W
open Go
set_option linter.unusedSimpArgs false
set_option linter.unusedVariables false


theorem w8of {x y : Int} (h : x = y) (h2 : 0 ≤ y ∧ y < 256) : IntKind.u8.wrap x = y := by rw [h, w8m]; omega

set_option maxHeartbeats 1000000 in
theorem c94 (v : Value) (os : List Opt) (w : World) (hO : OS [] w v os) (hl : os.length ≤ 1099511627776) :
    CallsV Tryd.prog 94 #[v] w (fun r w' => ∃ u, r = .tuple #[u, .int .i64 (putE os)] ∧ FB w w' u (putL os)) := by
  refine enter Tryd.func94 rfl Tryd.ntmps94 (l := [(0, [], _)]) rfl rfl ?_
  have S := St.refl [] w
  obtain ⟨ds, hOS, hOB⟩ := hO
  refine Run.seq ?_
  refine Run.region ?_
  refine asg1 rfl rfl ?_
  refine asg1 rfl rfl ?_
  refine Ro.nil ?_
  refine Nrm.code ?_
  refine Run.seq ?_
  refine Run.region ?_
  refine asg1 rfl rfl ?_
  have S := S.nilB
  refine Ro.nil ?_
  refine Nrm.code ?_
  refine Run.seq ?_
  refine Run.seq ?_
  refine Run.region ?_
  refine mv1 rfl rfl ?_
  refine lenS rfl hOS Tryd.underlying25 rfl rfl rfl ?_
  refine mv1 rfl rfl ?_
  refine Ro.nil ?_
  refine Nrm.code ?_
  refine Run.block ?_
  refine Run.loop3 (fun (i : Nat) (u : Value) (out : List Int) w_ => i ≤ os.length ∧ (os.take i).all okO = true ∧ (optsB (os.take i)).length ≤ 40 ∧ out = optsB (os.take i) ∧ St [] w [oB u out] w_) (fun (i : Nat) (u : Value) (out : List Int) => [(4, [], u), (7, [], v), (8, [], .int .i64 os.length), (9, [], .int .i64 i)]) (fun (i : Nat) (u : Value) (out : List Int) => os.length - i) (0) (_) ([]) ⟨Nat.zero_le _, rfl, by simp [optsB], rfl, S⟩ ⟨rfl, rfl, rfl, rfl, trivial⟩ ?_
  rintro i u out w1 ⟨hi, hall, hlen, hout, S⟩
  have hlo0 : out.length = (optsB (os.take i)).length := by rw [hout]
  refine Run.seq ?_
  refine Run.region ?_
  refine lss1 rfl rfl rfl ?_
  refine Ro.nil ?_
  refine Nrm.code ?_
  refine Run.seq ?_
  refine Run.cond rfl (fun hc3 => ?_) (fun hc3 => ?_)
  ·
    try simp only [Bool.or_eq_true, Bool.and_eq_true, Bool.or_eq_false_iff, Bool.and_eq_false_iff, decide_eq_true_eq, decide_eq_false_iff_not, Bool.not_eq_true', Bool.not_eq_false', Bool.not_eq_true, Bool.not_eq_false] at hc3
    refine Run.skip ?_
    refine Nrm.code ?_
    refine Run.seq ?_
    refine Run.block ?_
    refine Run.seq ?_
    refine Run.region ?_
    obtain ⟨p, hp, hpb⟩ := hOB.at (i := i) (by omega)
    have hge : (os[i]?.getD o0).data.length = (os.getD i o0).data.length := by rw [List.getD_eq_getElem?_getD]
    refine ixa rfl rfl hOS e25 rfl rfl rfl rfl (fun _ => by omega) ?_
    refine ldEA rfl hOS S T93 rfl rfl rfl (by decide) rfl (fun _ => hOB.two (by omega) hp) ?_
    refine alc T93 S rfl ?_
    intro b6 w2 hb6 S B_
    refine stW rfl rfl T93 rfl rfl (one_cons rfl (one_cons hpb.one one_nil)) S (i := 0) rfl rfl ?_
    intro w3 S
    refine Ro.nil ?_
    refine Nrm.code ?_
    refine Run.seq ?_
    refine Run.seq ?_
    refine Run.region ?_
    refine fld (o' := 0) rfl fo93_0 rfl rfl rfl rfl ?_
    refine ld1 rfl T3 S (i := 0) rfl rfl rfl rfl rfl ?_
    refine lss1 rfl rfl rfl ?_
    refine mv1 rfl rfl ?_
    refine fld (o' := 0) rfl fo93_0 rfl rfl rfl rfl ?_
    refine ld1 rfl T3 S (i := 0) rfl rfl rfl rfl rfl ?_
    refine gtr rfl rfl rfl rfl rfl rfl ?_
    refine pkO rfl rfl rfl rfl rfl rfl ?_
    refine mv1 rfl rfl ?_
    refine fld (o' := 1) rfl fo93_1 rfl rfl rfl rfl ?_
    refine ld1 rfl T26 S (i := 0) rfl rfl rfl rfl rfl ?_
    refine lenS rfl hpb.2 Tryd.underlying26 rfl rfl rfl ?_
    refine gtr rfl rfl rfl rfl rfl rfl ?_
    refine pkO rfl rfl rfl rfl rfl rfl ?_
    refine mv1 rfl rfl ?_
    refine mv rfl rfl rfl rfl ?_
    refine lenS rfl (S.slI (i := 1) rfl) Tryd.underlying26 rfl rfl rfl ?_
    refine add rfl rfl rfl rfl rfl rfl (fun hG => by first | exact w64 (by omega) | (simp [allT] at hG; exact w64 (by omega))) ?_
    refine fld (o' := 1) rfl fo93_1 rfl rfl rfl rfl ?_
    refine ld1 rfl T26 S (i := 0) rfl rfl rfl rfl rfl ?_
    refine lenS rfl hpb.2 Tryd.underlying26 rfl rfl rfl ?_
    refine add rfl rfl rfl rfl rfl rfl (fun hG => by first | exact w64 (by omega) | (simp [allT] at hG; exact w64 (by omega))) ?_
    refine gtr rfl rfl rfl rfl rfl rfl ?_
    refine pkO rfl rfl rfl rfl rfl rfl ?_
    refine Ro.nil ?_
    refine Nrm.code ?_
    refine Run.cond rfl (fun hc5 => ?_) (fun hc5 => ?_)
    ·
      try simp only [Bool.or_eq_true, Bool.and_eq_true, Bool.or_eq_false_iff, Bool.and_eq_false_iff, decide_eq_true_eq, decide_eq_false_iff_not, Bool.not_eq_true', Bool.not_eq_false', Bool.not_eq_true, Bool.not_eq_false] at hc5
      have hno : putOk os = false := putOk_no (i := i) (by omega) (by
        by_cases hk : okO (os.getD i o0) = true
        · right; rw [okO_iff] at hk; rw [← hout]; omega
        · left; simpa using hk)
      refine Run.seq ?_
      refine Run.region ?_
      refine asg1 rfl rfl ?_
      refine asg1 rfl rfl ?_
      refine Ro.nil ?_
      refine Nrm.code ?_
      refine Run.ret ?_
      refine Rt.two rfl rfl rfl ?_
      exact ⟨.slice none 0 0, by simp [putE, hno], by simpa [putL, hno] using (S.nilB).toFB (i := 0) rfl⟩
    ·
      try simp only [Bool.or_eq_true, Bool.and_eq_true, Bool.or_eq_false_iff, Bool.and_eq_false_iff, decide_eq_true_eq, decide_eq_false_iff_not, Bool.not_eq_true', Bool.not_eq_false', Bool.not_eq_true, Bool.not_eq_false] at hc5
      refine Run.skip ?_
      refine Nrm.code ?_
      refine Run.seq ?_
      refine Run.region ?_
      refine mv1 rfl rfl ?_
      refine fld (o' := 0) rfl fo93_0 rfl rfl rfl rfl ?_
      refine ld1 rfl T3 S (i := 0) rfl rfl rfl rfl rfl ?_
      refine cvi1 rfl rfl Tryd.underlying3 Tryd.underlying5 (w8of rfl (by omega)) ?_
      refine fld (o' := 1) rfl fo93_1 rfl rfl rfl rfl ?_
      refine ld1 rfl T26 S (i := 0) rfl rfl rfl rfl rfl ?_
      refine lenS rfl hpb.2 Tryd.underlying26 rfl rfl rfl ?_
      refine add1 rfl rfl rfl (w64 (by omega)) ?_
      refine cvi1 rfl rfl Tryd.underlying3 Tryd.underlying5 (w8of rfl (by omega)) ?_
      refine apBF (b := [_, _]) rfl e26 (qs := [(_, _), (_, _)]) ⟨⟨_, _, _, rfl, rfl, rfl, rfl, by simp [Value.cells]⟩, ⟨_, _, _, rfl, rfl, rfl, rfl, by simp [Value.cells]⟩, trivial⟩ (by decide) rfl rfl S (i := 1) rfl rfl rfl (fun t e => by cases e; rfl) (fun _ => rfl) (by first | omega | (simp only [List.length_nil, List.length_append, List.length_cons]; omega)) ?_
      intro u_ v47 w4 S B_
      refine asg1 rfl rfl ?_
      refine Ro.nil ?_
      refine Nrm.code ?_
      refine Run.region ?_
      refine mv1 rfl rfl ?_
      refine fld (o' := 1) rfl fo93_1 rfl rfl rfl rfl ?_
      refine ld1 rfl T26 S (i := 0) rfl rfl rfl rfl rfl ?_
      refine apB rfl rfl e26 (hpb.now S) S (i := 1) rfl rfl (fun _ => rfl) (by first | omega | (simp only [List.length_nil, List.length_append, List.length_cons]; omega)) ?_
      intro v51 w5 S B_
      refine asg1 rfl rfl ?_
      refine Ro.nil ?_
      refine Nrm.blk ?_
      refine Nrm.code ?_
      refine Run.region ?_
      refine add1 rfl rfl rfl (w64 (by omega)) ?_
      refine mv1 rfl rfl ?_
      refine Ro.nil ?_
      have S := S.drop0
      refine Nrm.loop3 (i + 1) (_) (_) ⟨by omega, all_take_succ (by omega) hall (okO_iff.2 (by omega)), by rw [optsB_take_succ (by omega), List.length_append, optB_len, ← hout]; omega, by rw [optsB_take_succ (by omega), hout]; simp [optB], S⟩ (by omega) ⟨rfl, rfl, rfl, rfl, trivial⟩
  ·
    try simp only [Bool.or_eq_true, Bool.and_eq_true, Bool.or_eq_false_iff, Bool.and_eq_false_iff, decide_eq_true_eq, decide_eq_false_iff_not, Bool.not_eq_true', Bool.not_eq_false', Bool.not_eq_true, Bool.not_eq_false] at hc3
    refine Run.exit ?_
    refine Lv.code ?_
    refine Lv.back ?_
    refine Lv.hit ?_
    refine Nrm.code ?_
    refine Run.seq ?_
    refine Run.block ?_
    have e : i = os.length := by omega
    rw [e, List.take_length] at hall hlen hout
    refine Run.loop3 (fun (m : Nat) (u : Value) (out : List Int) w_ => m ≤ (4 - (optsB os).length % 4) % 4 ∧ out = optsB os ++ List.replicate m 0 ∧ St [] w [oB u out] w_) (fun (m : Nat) (u : Value) (out : List Int) => [(4, [], u)]) (fun (m : Nat) (u : Value) (out : List Int) => 4 - m) (0) (_) (_) ⟨Nat.zero_le _, by simp [hout], S⟩ ⟨rfl, trivial⟩ ?_
    rintro m u out w2 ⟨hm, ho, S⟩
    have hlo : out.length = (optsB os).length + m := by rw [ho]; simp
    refine Run.seq ?_
    refine Run.seq ?_
    refine Run.region ?_
    refine mv1 rfl rfl ?_
    refine lenS rfl (S.slI (i := 0) rfl) Tryd.underlying26 rfl rfl rfl ?_
    refine rem1 rfl rfl rfl (by decide) (r64 (by omega)) ?_
    refine gtr1 rfl rfl rfl ?_
    refine Ro.nil ?_
    refine Nrm.code ?_
    refine Run.cond rfl (fun hc10 => ?_) (fun hc10 => ?_)
    ·
      try simp only [Bool.or_eq_true, Bool.and_eq_true, Bool.or_eq_false_iff, Bool.and_eq_false_iff, decide_eq_true_eq, decide_eq_false_iff_not, Bool.not_eq_true', Bool.not_eq_false', Bool.not_eq_true, Bool.not_eq_false] at hc10
      refine Run.skip ?_
      refine Nrm.code ?_
      refine Run.block ?_
      refine Run.region ?_
      refine mv1 rfl rfl ?_
      refine apBF (b := [_]) rfl e26 (qs := [(_, _)]) ⟨⟨_, _, _, rfl, rfl, rfl, rfl, by simp [Value.cells]⟩, trivial⟩ (by decide) rfl rfl S (i := 0) rfl rfl rfl (fun t e => by cases e; rfl) (fun _ => rfl) (by first | omega | (simp only [List.length_nil, List.length_append, List.length_cons]; omega)) ?_
      intro u_ v59 w3 S B_
      refine asg1 rfl rfl ?_
      refine Ro.nil ?_
      refine Nrm.blk ?_
      refine Nrm.loop3 (m + 1) (_) (_) ⟨by omega, by rw [ho, rep_succ], S⟩ (by omega) ⟨rfl, trivial⟩
    ·
      try simp only [Bool.or_eq_true, Bool.and_eq_true, Bool.or_eq_false_iff, Bool.and_eq_false_iff, decide_eq_true_eq, decide_eq_false_iff_not, Bool.not_eq_true', Bool.not_eq_false', Bool.not_eq_true, Bool.not_eq_false] at hc10
      refine Run.exit ?_
      refine Lv.code ?_
      refine Lv.back ?_
      refine Lv.hit ?_
      refine Nrm.code ?_
      refine Run.seq ?_
      refine Run.region ?_
      refine mv1 rfl rfl ?_
      refine asg1 rfl rfl ?_
      refine asg1 rfl rfl ?_
      refine Ro.nil ?_
      refine Nrm.code ?_
      refine Run.ret ?_
      refine Rt.two rfl rfl rfl ?_
      have hyes := putOk_yes hall hlen
      exact ⟨u, by simp [putE, hyes], by rw [show putL os = out from by simp only [putL, hyes]; exact (pad4_of ho hm (by omega)).symm]; exact S.toFB (i := 0) rfl⟩

set_option maxHeartbeats 1000000 in
theorem c136 (v : Value) (os : List Opt) (w : World) (hO : OS [] w v os) (hl : os.length ≤ 1099511627776) :
    CallsV Tryd.prog 136 #[v] w (fun r w' => ∃ u, r = .tuple #[u, .int .i64 (putE os)] ∧ FB w w' u (putL os)) := by
  refine enter Tryd.func136 rfl Tryd.ntmps136 (l := [(0, [], _)]) rfl rfl ?_
  have S := St.refl [] w
  obtain ⟨ds, hOS, hOB⟩ := hO
  refine Run.seq ?_
  refine Run.region ?_
  refine asg1 rfl rfl ?_
  refine asg1 rfl rfl ?_
  refine Ro.nil ?_
  refine Nrm.code ?_
  refine Run.seq ?_
  refine Run.region ?_
  refine asg1 rfl rfl ?_
  have S := S.nilB
  refine Ro.nil ?_
  refine Nrm.code ?_
  refine Run.seq ?_
  refine Run.seq ?_
  refine Run.region ?_
  refine asg1 rfl rfl ?_
  refine Ro.nil ?_
  refine Nrm.code ?_
  refine Run.block ?_
  refine Run.loop3 (fun (i : Nat) (u : Value) (out : List Int) w_ => i ≤ os.length ∧ (os.take i).all okO = true ∧ (optsB (os.take i)).length ≤ 40 * i ∧ out = optsB (os.take i) ∧ St [] w [oB u out] w_) (fun (i : Nat) (u : Value) (out : List Int) => [(0, [], v), (4, [], u), (5, [], .int .i64 i)]) (fun (i : Nat) (u : Value) (out : List Int) => os.length - i) (0) (_) ([]) ⟨Nat.zero_le _, rfl, by simp [optsB], rfl, S⟩ ⟨rfl, rfl, rfl, trivial⟩ ?_
  rintro i u out w1 ⟨hi, hall, hlen, hout, S⟩
  have hlo0 : out.length = (optsB (os.take i)).length := by rw [hout]
  refine Run.seq ?_
  refine Run.seq ?_
  refine Run.region ?_
  refine mv1 rfl rfl ?_
  refine mv1 rfl rfl ?_
  refine lenS rfl hOS Tryd.underlying25 rfl rfl rfl ?_
  refine lss1 rfl rfl rfl ?_
  refine Ro.nil ?_
  refine Nrm.code ?_
  refine Run.cond rfl (fun hc3 => ?_) (fun hc3 => ?_)
  ·
    try simp only [Bool.or_eq_true, Bool.and_eq_true, Bool.or_eq_false_iff, Bool.and_eq_false_iff, decide_eq_true_eq, decide_eq_false_iff_not, Bool.not_eq_true', Bool.not_eq_false', Bool.not_eq_true, Bool.not_eq_false] at hc3
    refine Run.skip ?_
    refine Nrm.code ?_
    refine Run.seq ?_
    refine Run.block ?_
    refine Run.seq ?_
    refine Run.region ?_
    refine mv1 rfl rfl ?_
    refine mv1 rfl rfl ?_
    obtain ⟨p, hp, hpb⟩ := hOB.at (i := i) (by omega)
    have hge : (os[i]?.getD o0).data.length = (os.getD i o0).data.length := by rw [List.getD_eq_getElem?_getD]
    refine ixa rfl rfl hOS e25 rfl rfl rfl rfl (fun _ => by omega) ?_
    refine flE rfl hOS fo93_1 rfl rfl rfl (fun _ => hOB.lt (by omega)) ?_
    refine ldE rfl hOS S T26 rfl rfl rfl (fun _ => hOB.k1 (by omega) hp) ?_
    refine lenS rfl hpb.2 Tryd.underlying26 rfl rfl rfl ?_
    refine asg1 rfl rfl ?_
    refine Ro.nil ?_
    refine Nrm.code ?_
    refine Run.seq ?_
    refine Run.seq ?_
    refine Run.region ?_
    refine mv1 rfl rfl ?_
    refine mv1 rfl rfl ?_
    refine ixa rfl rfl hOS e25 rfl rfl rfl rfl (fun _ => by omega) ?_
    refine flE rfl hOS fo93_0 rfl rfl rfl (fun _ => hOB.lt (by omega)) ?_
    refine ldE rfl hOS S T3 rfl rfl rfl (fun _ => hOB.k0 (by omega) hp) ?_
    refine lss1 rfl rfl rfl ?_
    refine mv1 rfl rfl ?_
    refine mv rfl rfl rfl rfl ?_
    refine mv rfl rfl rfl rfl ?_
    refine ixa rfl rfl hOS e25 rfl rfl rfl rfl (fun hG => by (try simp [allT] at hG); omega) ?_
    refine flE rfl hOS fo93_0 rfl rfl rfl (fun hG => by first | exact hOB.lt (by omega) | (simp [allT] at hG; exact hOB.lt (by omega))) ?_
    refine ldE rfl hOS S T3 rfl rfl rfl (fun hG => by first | exact hOB.k0 (by omega) hp | (simp [allT] at hG; exact hOB.k0 (by omega) hp)) ?_
    refine gtr rfl rfl rfl rfl rfl rfl ?_
    refine pkO rfl rfl rfl rfl rfl rfl ?_
    refine mv1 rfl rfl ?_
    refine mv rfl rfl rfl rfl ?_
    refine gtr rfl rfl rfl rfl rfl rfl ?_
    refine pkO rfl rfl rfl rfl rfl rfl ?_
    refine Ro.nil ?_
    refine Nrm.code ?_
    refine Run.cond rfl (fun hc6 => ?_) (fun hc6 => ?_)
    ·
      try simp only [Bool.or_eq_true, Bool.and_eq_true, Bool.or_eq_false_iff, Bool.and_eq_false_iff, decide_eq_true_eq, decide_eq_false_iff_not, Bool.not_eq_true', Bool.not_eq_false', Bool.not_eq_true, Bool.not_eq_false] at hc6
      have hno : putOk os = false := putOk_no (i := i) (by omega) (by
        left
        by_cases hk : okO (os.getD i o0) = true
        · rw [okO_iff] at hk; omega
        · simpa using hk)
      refine Run.seq ?_
      refine Run.region ?_
      refine asg1 rfl rfl ?_
      refine asg1 rfl rfl ?_
      refine Ro.nil ?_
      refine Nrm.code ?_
      refine Run.ret ?_
      refine Rt.two rfl rfl rfl ?_
      exact ⟨.slice none 0 0, by simp [putE, hno], by simpa [putL, hno] using (S.nilB).toFB (i := 0) rfl⟩
    ·
      try simp only [Bool.or_eq_true, Bool.and_eq_true, Bool.or_eq_false_iff, Bool.and_eq_false_iff, decide_eq_true_eq, decide_eq_false_iff_not, Bool.not_eq_true', Bool.not_eq_false', Bool.not_eq_true, Bool.not_eq_false] at hc6
      refine Run.skip ?_
      refine Nrm.code ?_
      refine Run.seq ?_
      refine Run.region ?_
      refine mv1 rfl rfl ?_
      refine mv1 rfl rfl ?_
      refine mv1 rfl rfl ?_
      refine ixa rfl rfl hOS e25 rfl rfl rfl rfl (fun _ => by omega) ?_
      refine flE rfl hOS fo93_0 rfl rfl rfl (fun _ => hOB.lt (by omega)) ?_
      refine ldE rfl hOS S T3 rfl rfl rfl (fun _ => hOB.k0 (by omega) hp) ?_
      refine cvi1 rfl rfl Tryd.underlying3 Tryd.underlying5 (w8of rfl (by omega)) ?_
      refine mv1 rfl rfl ?_
      refine add1 rfl rfl rfl (w64 (by omega)) ?_
      refine cvi1 rfl rfl Tryd.underlying3 Tryd.underlying5 (w8of rfl (by omega)) ?_
      refine apBF (b := [_, _]) rfl e26 (qs := [(_, _), (_, _)]) ⟨⟨_, _, _, rfl, rfl, rfl, rfl, by simp [Value.cells]⟩, ⟨_, _, _, rfl, rfl, rfl, rfl, by simp [Value.cells]⟩, trivial⟩ (by decide) rfl rfl S (i := 0) rfl rfl rfl (fun t e => by cases e; rfl) (fun _ => rfl) (by first | omega | (simp only [List.length_nil, List.length_append, List.length_cons]; omega)) ?_
      intro u_ v48 w2 S B_
      refine asg1 rfl rfl ?_
      refine Ro.nil ?_
      refine Nrm.code ?_
      refine Run.region ?_
      refine mv1 rfl rfl ?_
      refine mv1 rfl rfl ?_
      refine mv1 rfl rfl ?_
      refine ixa rfl rfl hOS e25 rfl rfl rfl rfl (fun _ => by omega) ?_
      refine flE rfl hOS fo93_1 rfl rfl rfl (fun _ => hOB.lt (by omega)) ?_
      refine ldE rfl hOS S T26 rfl rfl rfl (fun _ => hOB.k1 (by omega) hp) ?_
      refine apB rfl rfl e26 (hpb.now S) S (i := 0) rfl rfl (fun _ => rfl) (by first | omega | (simp only [List.length_nil, List.length_append, List.length_cons]; omega)) ?_
      intro v55 w3 S B_
      refine asg1 rfl rfl ?_
      refine Ro.nil ?_
      refine Nrm.blk ?_
      refine Nrm.code ?_
      refine Run.region ?_
      refine mv1 rfl rfl ?_
      refine add1 rfl rfl rfl (w64 (by omega)) ?_
      refine asg1 rfl rfl ?_
      refine Ro.nil ?_
      refine Nrm.loop3 (i + 1) (_) (_) ⟨by omega, all_take_succ (by omega) hall (okO_iff.2 (by omega)), by rw [optsB_take_succ (by omega), List.length_append, optB_len]; omega, by rw [optsB_take_succ (by omega), hout]; simp [optB, Int.add_comm], S⟩ (by omega) ⟨rfl, rfl, rfl, trivial⟩
  ·
    try simp only [Bool.or_eq_true, Bool.and_eq_true, Bool.or_eq_false_iff, Bool.and_eq_false_iff, decide_eq_true_eq, decide_eq_false_iff_not, Bool.not_eq_true', Bool.not_eq_false', Bool.not_eq_true, Bool.not_eq_false] at hc3
    refine Run.exit ?_
    refine Lv.code ?_
    refine Lv.back ?_
    refine Lv.hit ?_
    refine Nrm.code ?_
    refine Run.seq ?_
    refine Run.block ?_
    have e : i = os.length := by omega
    rw [e, List.take_length] at hall hlen hout
    refine Run.loop3 (fun (m : Nat) (u : Value) (out : List Int) w_ => m ≤ (4 - (optsB os).length % 4) % 4 ∧ out = optsB os ++ List.replicate m 0 ∧ St [] w [oB u out] w_) (fun (m : Nat) (u : Value) (out : List Int) => [(4, [], u)]) (fun (m : Nat) (u : Value) (out : List Int) => 4 - m) (0) (_) (_) ⟨Nat.zero_le _, by simp [hout], S⟩ ⟨rfl, trivial⟩ ?_
    rintro m u out w2 ⟨hm, ho, S⟩
    have hlo : out.length = (optsB os).length + m := by rw [ho]; simp
    refine Run.seq ?_
    refine Run.seq ?_
    refine Run.region ?_
    refine mv1 rfl rfl ?_
    refine lenS rfl (S.slI (i := 0) rfl) Tryd.underlying26 rfl rfl rfl ?_
    refine rem1 rfl rfl rfl (by decide) (r64 (by omega)) ?_
    refine neq1 rfl rfl rfl ?_
    refine Ro.nil ?_
    refine Nrm.code ?_
    refine Run.cond rfl (fun hc10 => ?_) (fun hc10 => ?_)
    ·
      try simp only [Bool.or_eq_true, Bool.and_eq_true, Bool.or_eq_false_iff, Bool.and_eq_false_iff, decide_eq_true_eq, decide_eq_false_iff_not, Bool.not_eq_true', Bool.not_eq_false', Bool.not_eq_true, Bool.not_eq_false] at hc10
      refine Run.skip ?_
      refine Nrm.code ?_
      refine Run.block ?_
      refine Run.region ?_
      refine mv1 rfl rfl ?_
      refine apBF (b := [_]) rfl e26 (qs := [(_, _)]) ⟨⟨_, _, _, rfl, rfl, rfl, rfl, by simp [Value.cells]⟩, trivial⟩ (by decide) rfl rfl S (i := 0) rfl rfl rfl (fun t e => by cases e; rfl) (fun _ => rfl) (by first | omega | (simp only [List.length_nil, List.length_append, List.length_cons]; omega)) ?_
      intro u_ v62 w3 S B_
      refine asg1 rfl rfl ?_
      refine Ro.nil ?_
      refine Nrm.blk ?_
      refine Nrm.loop3 (m + 1) (_) (_) ⟨by omega, by rw [ho, rep_succ], S⟩ (by omega) ⟨rfl, trivial⟩
    ·
      try simp only [Bool.or_eq_true, Bool.and_eq_true, Bool.or_eq_false_iff, Bool.and_eq_false_iff, decide_eq_true_eq, decide_eq_false_iff_not, Bool.not_eq_true', Bool.not_eq_false', Bool.not_eq_true, Bool.not_eq_false] at hc10
      refine Run.exit ?_
      refine Lv.code ?_
      refine Lv.back ?_
      refine Lv.hit ?_
      refine Nrm.code ?_
      refine Run.seq ?_
      refine Run.seq ?_
      refine Run.region ?_
      refine mv1 rfl rfl ?_
      refine lenS rfl (S.slI (i := 0) rfl) Tryd.underlying26 rfl rfl rfl ?_
      refine gtr1 rfl rfl rfl ?_
      refine Ro.nil ?_
      refine Nrm.code ?_
      refine Run.cond rfl (fun hc12 => ?_) (fun hc12 => ?_)
      ·
        try simp only [Bool.or_eq_true, Bool.and_eq_true, Bool.or_eq_false_iff, Bool.and_eq_false_iff, decide_eq_true_eq, decide_eq_false_iff_not, Bool.not_eq_true', Bool.not_eq_false', Bool.not_eq_true, Bool.not_eq_false] at hc12
        have hpl := pad4_of ho hm (by omega)
        have h4 := pad4_len (optsB os)
        rw [← hpl] at h4
        have hno : putOk os = false := putOk_long (by omega)
        refine Run.seq ?_
        refine Run.region ?_
        refine asg1 rfl rfl ?_
        refine asg1 rfl rfl ?_
        refine Ro.nil ?_
        refine Nrm.code ?_
        refine Run.ret ?_
        refine Rt.two rfl rfl rfl ?_
        exact ⟨.slice none 0 0, by simp [putE, hno], by simpa [putL, hno] using (S.nilB).toFB (i := 0) rfl⟩
      ·
        try simp only [Bool.or_eq_true, Bool.and_eq_true, Bool.or_eq_false_iff, Bool.and_eq_false_iff, decide_eq_true_eq, decide_eq_false_iff_not, Bool.not_eq_true', Bool.not_eq_false', Bool.not_eq_true, Bool.not_eq_false] at hc12
        refine Run.skip ?_
        refine Nrm.code ?_
        refine Run.seq ?_
        refine Run.region ?_
        refine mv1 rfl rfl ?_
        refine asg1 rfl rfl ?_
        refine asg1 rfl rfl ?_
        refine Ro.nil ?_
        refine Nrm.code ?_
        refine Run.ret ?_
        refine Rt.two rfl rfl rfl ?_
        have hyes := putOk_yes hall (by omega)
        exact ⟨u, by simp [putE, hyes], by rw [show putL os = out from by simp only [putL, hyes]; exact (pad4_of ho hm (by omega)).symm]; exact S.toFB (i := 0) rfl⟩

end Go.Proofs.YtkahmepenjhcpaaDoor.W
