/- Contracts of the sums. No statement of the seat is proved here. -/
import Derived.Test.YtkahmepenjhcpaaDoorCa
import Derived.Test.YtkahmepenjhcpaaDoorSa
namespace Go.Proofs.YtkahmepenjhcpaaDoor.W
open Go
set_option linter.unusedSimpArgs false
set_option linter.unusedVariables false

theorem BSs.byt {N : List Nat} {w : World} : ∀ {vs : List Value} {ls : List (List Int)}, BSs N w vs ls → W.byt ls.flatten
  | [], [], _ => byt_nil
  | [], _ :: _, h => h.elim
  | _ :: _, [], h => h.elim
  | _ :: _, _ :: _, h => byt_app h.1.1 (BSs.byt h.2)
theorem par_par (b : Bool) (m i : Nat) : par (par b m) i = par b (m + i) := by
  unfold par
  rcases Nat.mod_two_eq_zero_or_one m with h | h <;> rcases Nat.mod_two_eq_zero_or_one i with h' | h' <;> cases b <;> simp [h, h', Nat.add_mod]
theorem par_flip (m : Nat) : (!(decide (m % 2 = 0))) = decide ((m + 1) % 2 = 0) := by
  rcases Nat.mod_two_eq_zero_or_one m with h | h
  · have : (m + 1) % 2 = 1 := by omega
    simp [h, this]
  · have : (m + 1) % 2 = 0 := by omega
    simp [h, this]

set_option maxHeartbeats 1000000 in
theorem c144 (n : Int) (w : World) (h : 0 ≤ n ∧ n ≤ 4611686018427387904) :
    CallsD Tryd.prog 144 #[.int .i64 n] w (.int .i64 (foldS n)) := by
  refine enter Tryd.func144 rfl Tryd.ntmps144 (l := [(0, [], _)]) rfl rfl ?_
  have S := St.refl [] w
  refine Run.seq ?_
  refine Run.region ?_
  refine asg1 rfl rfl ?_
  refine Ro.nil ?_
  refine Nrm.code ?_
  refine Run.seq ?_
  refine Run.block ?_
  refine Run.loop1 (fun (m : Int) w_ => (0 ≤ m ∧ m ≤ 4611686018427387904) ∧ foldS m = foldS n ∧ St [] w [] w_) (fun (m : Int) => [(0, [], .int .i64 m)]) (fun (m : Int) => m.toNat) (n) ⟨h, rfl, S⟩ ⟨rfl, trivial⟩ ?_
  rintro m w1 ⟨hm, he, S⟩
  refine Run.seq ?_
  refine Run.seq ?_
  refine Run.region ?_
  refine mv1 rfl rfl ?_
  refine gtr1 rfl rfl rfl ?_
  refine Ro.nil ?_
  refine Nrm.code ?_
  refine Run.cond rfl (fun hc1 => ?_) (fun hc1 => ?_)
  ·
    try simp only [Bool.or_eq_true, Bool.and_eq_true, Bool.or_eq_false_iff, Bool.and_eq_false_iff, decide_eq_true_eq, decide_eq_false_iff_not, Bool.not_eq_true', Bool.not_eq_false', Bool.not_eq_true, Bool.not_eq_false] at hc1
    refine Run.skip ?_
    refine Nrm.code ?_
    refine Run.block ?_
    refine Run.region ?_
    refine mv1 rfl rfl ?_
    refine band rfl rfl rfl rfl rfl rfl (fun _ => an16 (by omega)) ?_
    refine mv1 rfl rfl ?_
    refine shr rfl rfl rfl rfl rfl rfl (fun _ => by decide) (fun _ => sh16 _) ?_
    refine add1 rfl rfl rfl (w64 (by omega)) ?_
    refine asg1 rfl rfl ?_
    refine Ro.nil ?_
    refine Nrm.blk ?_
    refine Nrm.loop1 (_) ⟨by omega, by rw [← he]; exact foldS_step (by omega), S⟩ (by omega) ⟨rfl, trivial⟩
  ·
    try simp only [Bool.or_eq_true, Bool.and_eq_true, Bool.or_eq_false_iff, Bool.and_eq_false_iff, decide_eq_true_eq, decide_eq_false_iff_not, Bool.not_eq_true', Bool.not_eq_false', Bool.not_eq_true, Bool.not_eq_false] at hc1
    refine Run.exit ?_
    refine Lv.code ?_
    refine Lv.back ?_
    refine Lv.hit ?_
    refine Nrm.code ?_
    refine Run.seq ?_
    refine Run.region ?_
    refine mv1 rfl rfl ?_
    refine asg1 rfl rfl ?_
    refine Ro.nil ?_
    refine Nrm.code ?_
    refine Run.ret ?_
    refine Rt.one rfl rfl ?_
    exact ⟨by rw [← he, foldS_small (by omega)], S.bl⟩

set_option maxHeartbeats 1000000 in
theorem c105 (v : Value) (ls : List (List Int)) (w : World) (hs : SS [] w v ls) (hl : ls.flatten.length ≤ 1099511627776) (hm : ls.length ≤ 1099511627776) :
    CallsD Tryd.prog 105 #[v] w (.int .i64 (sumS ls.flatten)) := by
  refine enter Tryd.func105 rfl Tryd.ntmps105 (l := [(0, [], _)]) rfl rfl ?_
  have S := St.refl [] w
  obtain ⟨vs, hS, hB⟩ := hs
  have hby : byt ls.flatten := hB.byt
  refine Run.seq ?_
  refine Run.region ?_
  refine asg1 rfl rfl ?_
  refine Ro.nil ?_
  refine Nrm.code ?_
  refine Run.seq ?_
  refine Run.region ?_
  refine asg1 rfl rfl ?_
  refine asg1 rfl rfl ?_
  refine Ro.nil ?_
  refine Nrm.code ?_
  refine Run.seq ?_
  refine Run.seq ?_
  refine Run.region ?_
  refine mv1 rfl rfl ?_
  refine lenS rfl hS Tryd.underlying102 rfl rfl rfl ?_
  refine mv1 rfl rfl ?_
  refine Ro.nil ?_
  refine Nrm.code ?_
  refine Run.block ?_
  refine Run.loop3 (fun (j : Nat) (n : Int) (b : Bool) w_ => j ≤ ls.length ∧ n = foldS (wsum true (ls.take j).flatten) ∧ b = decide ((ls.take j).flatten.length % 2 = 0) ∧ St [] w [] w_) (fun (j : Nat) (n : Int) (b : Bool) => [(3, [], .int .i64 n), (4, [], .bool b), (9, [], v), (10, [], .int .i64 ls.length), (11, [], .int .i64 j)]) (fun (j : Nat) (n : Int) (b : Bool) => ls.length - j) (0) (0) (true) ⟨Nat.zero_le _, rfl, rfl, S⟩ ⟨rfl, rfl, rfl, rfl, rfl, trivial⟩ ?_
  rintro j n b w1 ⟨hj, hn, hb, S⟩
  refine Run.seq ?_
  refine Run.region ?_
  refine lss1 rfl rfl rfl ?_
  refine Ro.nil ?_
  refine Nrm.code ?_
  refine Run.seq ?_
  refine Run.cond rfl (fun hc3 => ?_) (fun hc3 => ?_)
  ·
    try simp only [Bool.or_eq_true, Bool.and_eq_true, Bool.or_eq_false_iff, Bool.and_eq_false_iff, decide_eq_true_eq, decide_eq_false_iff_not, Bool.not_eq_true', Bool.not_eq_false', Bool.not_eq_true, Bool.not_eq_false] at hc3
    refine Run.skip ?_
    refine Nrm.code ?_
    refine Run.seq ?_
    refine Run.block ?_
    refine Run.seq ?_
    refine Run.region ?_
    refine ixa rfl rfl hS e102 rfl rfl rfl rfl (fun _ => by first | omega | (simp only [List.length_cons, List.length_nil]; omega)) ?_
    obtain ⟨p, hp, hpb⟩ := hB.at (show j < ls.length by omega)
    have hjl : j < ls.length := by omega
    refine ldE rfl hS S T26 rfl rfl rfl (fun _ => by simpa using hp) ?_
    refine asg1 rfl rfl ?_
    refine Ro.nil ?_
    refine Nrm.code ?_
    refine Run.seq ?_
    refine Run.seq ?_
    refine Run.region ?_
    refine mv1 rfl rfl ?_
    refine lenS rfl hpb.2 Tryd.underlying26 rfl rfl rfl ?_
    refine mv1 rfl rfl ?_
    refine Ro.nil ?_
    refine Nrm.code ?_
    refine Run.block ?_
    refine Run.loop3 (fun (i : Nat) (n : Int) (b : Bool) w_ => i ≤ (ls.getD j []).length ∧ n = foldS (wsum true (ls.take j).flatten) + wsum (par true (ls.take j).flatten.length) ((ls.getD j []).take i) ∧ b = decide (((ls.take j).flatten.length + i) % 2 = 0) ∧ St [] w [] w_) (fun (i : Nat) (n : Int) (b : Bool) => [(3, [], .int .i64 n), (4, [], .bool b), (9, [], v), (10, [], .int .i64 ls.length), (11, [], .int .i64 j), (15, [], p), (16, [], .int .i64 (ls.getD j []).length), (17, [], .int .i64 i)]) (fun (i : Nat) (n : Int) (b : Bool) => (ls.getD j []).length - i) (0) (_) (_) ⟨Nat.zero_le _, by rw [hn]; simp [wsum], by rw [hb]; rfl, S⟩ ⟨rfl, rfl, rfl, rfl, rfl, rfl, rfl, rfl, trivial⟩ ?_
    rintro i n b w2 ⟨hi, hq2, hq3, S⟩
    have hw1 := wsum_bd (ls.take j).flatten true (fun x hx => hby x (take_flat_mem x hx))
    have hp0 := hw1.1
    have hf0 := foldS_bd hp0
    have hfl := flat_len_take j hjl
    have hw2 := wsum_bd ((ls.getD j []).take i) (par true (ls.take j).flatten.length) (fun x hx => hpb.1 x (List.mem_of_mem_take hx))
    rw [List.length_take, Nat.min_eq_left hi] at hw2
    refine Run.seq ?_
    refine Run.region ?_
    refine lss1 rfl rfl rfl ?_
    refine Ro.nil ?_
    refine Nrm.code ?_
    refine Run.seq ?_
    refine Run.cond rfl (fun hc6 => ?_) (fun hc6 => ?_)
    ·
      try simp only [Bool.or_eq_true, Bool.and_eq_true, Bool.or_eq_false_iff, Bool.and_eq_false_iff, decide_eq_true_eq, decide_eq_false_iff_not, Bool.not_eq_true', Bool.not_eq_false', Bool.not_eq_true, Bool.not_eq_false] at hc6
      refine Run.skip ?_
      refine Nrm.code ?_
      refine Run.seq ?_
      refine Run.block ?_
      refine Run.seq ?_
      refine Run.region ?_
      refine ixa rfl rfl hpb.2 e26 rfl rfl rfl rfl (fun _ => by first | omega | (simp only [List.length_cons, List.length_nil]; omega)) ?_
      refine ldB rfl hpb S T5 rfl rfl rfl (fun _ => by omega) ?_
      intro q20 hq20 hbq20
      try simp only [Int.toNat_natCast, Nat.mul_one] at hq20
      refine asg1 rfl rfl ?_
      refine Ro.nil ?_
      refine Nrm.code ?_
      refine Run.seq ?_
      refine Run.seq ?_
      refine Run.region ?_
      refine mv1 rfl rfl ?_
      refine Ro.nil ?_
      refine Nrm.code ?_
      refine Run.cond rfl (fun hc8 => ?_) (fun hc8 => ?_)
      ·
        try simp only [Bool.or_eq_true, Bool.and_eq_true, Bool.or_eq_false_iff, Bool.and_eq_false_iff, decide_eq_true_eq, decide_eq_false_iff_not, Bool.not_eq_true', Bool.not_eq_false', Bool.not_eq_true, Bool.not_eq_false] at hc8
        have hpar : par true ((ls.take j).flatten.length + i) = true := by unfold par; rw [hq3] at hc8; simp at hc8; simp [hc8]
        refine Run.region ?_
        refine mv1 rfl rfl ?_
        refine mv1 rfl rfl ?_
        refine cvi1 rfl rfl Tryd.underlying5 Tryd.underlying3 (w64 (by omega)) ?_
        refine shl rfl rfl rfl rfl rfl rfl (fun _ => by decide) (fun _ => sl8 (by omega)) ?_
        refine add1 rfl rfl rfl (w64 (by omega)) ?_
        refine asg1 rfl rfl ?_
        refine Ro.nil ?_
        refine Nrm.code ?_
        refine Run.region ?_
        refine mv1 rfl rfl ?_
        refine nt1 rfl rfl ?_
        refine asg1 rfl rfl ?_
        refine Ro.nil ?_
        refine Nrm.blk ?_
        refine Nrm.code ?_
        refine Run.region ?_
        refine add1 rfl rfl rfl (w64 (by omega)) ?_
        refine mv1 rfl rfl ?_
        refine Ro.nil ?_
        refine Nrm.loop3 (i + 1) (_) (_) ⟨by omega, by
                          rw [getD_take_succ (by omega), wsum_app, List.length_take, Nat.min_eq_left hi, hq2, ← hq20, par_par, hpar]; simp [wsum]; omega, by
                          rw [hq3]; exact par_flip _, S⟩ (by omega) ⟨rfl, rfl, rfl, rfl, rfl, rfl, rfl, rfl, trivial⟩
      ·
        try simp only [Bool.or_eq_true, Bool.and_eq_true, Bool.or_eq_false_iff, Bool.and_eq_false_iff, decide_eq_true_eq, decide_eq_false_iff_not, Bool.not_eq_true', Bool.not_eq_false', Bool.not_eq_true, Bool.not_eq_false] at hc8
        have hpar : par true ((ls.take j).flatten.length + i) = false := by unfold par; rw [hq3] at hc8; simp at hc8; simp [hc8]
        refine Run.region ?_
        refine mv1 rfl rfl ?_
        refine mv1 rfl rfl ?_
        refine cvi1 rfl rfl Tryd.underlying5 Tryd.underlying3 (w64 (by omega)) ?_
        refine add1 rfl rfl rfl (w64 (by omega)) ?_
        refine asg1 rfl rfl ?_
        refine Ro.nil ?_
        refine Nrm.code ?_
        refine Run.region ?_
        refine mv1 rfl rfl ?_
        refine nt1 rfl rfl ?_
        refine asg1 rfl rfl ?_
        refine Ro.nil ?_
        refine Nrm.blk ?_
        refine Nrm.code ?_
        refine Run.region ?_
        refine add1 rfl rfl rfl (w64 (by omega)) ?_
        refine mv1 rfl rfl ?_
        refine Ro.nil ?_
        refine Nrm.loop3 (i + 1) (_) (_) ⟨by omega, by
                          rw [getD_take_succ (by omega), wsum_app, List.length_take, Nat.min_eq_left hi, hq2, ← hq20, par_par, hpar]; simp [wsum]; omega, by
                          rw [hq3]; exact par_flip _, S⟩ (by omega) ⟨rfl, rfl, rfl, rfl, rfl, rfl, rfl, rfl, trivial⟩
    ·
      try simp only [Bool.or_eq_true, Bool.and_eq_true, Bool.or_eq_false_iff, Bool.and_eq_false_iff, decide_eq_true_eq, decide_eq_false_iff_not, Bool.not_eq_true', Bool.not_eq_false', Bool.not_eq_true, Bool.not_eq_false] at hc6
      have hi' : i = (ls.getD j []).length := by omega
      subst hi'; rw [List.take_length] at hq2 hw2
      refine Run.exit ?_
      refine Lv.code ?_
      refine Lv.back ?_
      refine Lv.hit ?_
      refine Nrm.code ?_
      refine Run.region ?_
      refine mv1 rfl rfl ?_
      refine calg (vs := [_]) rfl ⟨⟨_, _, rfl, rfl⟩, trivial⟩ k144 rfl (fun hG => c144 _ _ (by omega)) ?_
      intro w3 B_; have S := S.call B_
      refine asg1 rfl rfl ?_
      refine Ro.nil ?_
      refine Nrm.blk ?_
      refine Nrm.code ?_
      refine Run.region ?_
      refine add1 rfl rfl rfl (w64 (by omega)) ?_
      refine mv1 rfl rfl ?_
      refine Ro.nil ?_
      refine Nrm.loop3 (j + 1) (_) (_) ⟨by omega, by
                    rw [flat_take_succ hjl, wsum_app, hq2, foldS_add hp0 (by omega)], by
                    rw [hq3, flat_take_succ hjl, List.length_append], S⟩ (by omega) ⟨rfl, rfl, rfl, rfl, rfl, trivial⟩
  ·
    try simp only [Bool.or_eq_true, Bool.and_eq_true, Bool.or_eq_false_iff, Bool.and_eq_false_iff, decide_eq_true_eq, decide_eq_false_iff_not, Bool.not_eq_true', Bool.not_eq_false', Bool.not_eq_true, Bool.not_eq_false] at hc3
    refine Run.exit ?_
    refine Lv.code ?_
    refine Lv.back ?_
    refine Lv.hit ?_
    refine Nrm.code ?_
    refine Run.seq ?_
    refine Run.region ?_
    refine mv1 rfl rfl ?_
    refine asg1 rfl rfl ?_
    refine Ro.nil ?_
    refine Nrm.code ?_
    refine Run.ret ?_
    refine Rt.one rfl rfl ?_
    have e : j = ls.length := by omega
    exact ⟨by rw [hn, e, List.take_length]; rfl, S.bl⟩

end Go.Proofs.YtkahmepenjhcpaaDoor.W
