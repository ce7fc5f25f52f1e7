/- Contracts: sums, comparisons, copies, looks. No statement of the seat is proved here. -/
import Derived.Test.YtkahmepenjhcpaaDoorCb
namespace Go.Proofs.YtkahmepenjhcpaaDoor.W
open Go
set_option linter.unusedSimpArgs false
set_option linter.unusedVariables false


theorem sum_take_succ {ws : List Int} {i : Nat} (h : i < ws.length) : (ws.take (i + 1)).sum = (ws.take i).sum + ws.getD i 0 := by
  rw [List.take_succ_eq_append_getElem h, List.sum_append, List.getD_eq_getElem?_getD, List.getElem?_eq_getElem h]; simp
theorem sum_take_bd {ws : List Int} (hw : ∀ x ∈ ws, 1 ≤ x ∧ x ≤ 32) : ∀ i, 0 ≤ (ws.take i).sum ∧ (ws.take i).sum ≤ 32 * i ∧ (ws.take i).sum ≤ ws.sum := by
  induction ws with
  | nil => intro i; simp; omega
  | cons a r ih =>
    intro i
    have ha := hw a (by simp)
    have hr : ∀ x ∈ r, 1 ≤ x ∧ x ≤ 32 := fun x hx => hw x (by simp [hx])
    cases i with
    | zero =>
      have := ih hr r.length
      rw [List.take_length] at this
      simp only [List.take_zero, List.sum_nil, List.sum_cons]; omega
    | succ i => have := ih hr i; simp only [List.take_succ_cons, List.sum_cons]; omega
theorem getD_mem {α : Type} {l : List α} {i : Nat} {d : α} (h : i < l.length) : l.getD i d ∈ l := by
  rw [List.getD_eq_getElem?_getD, List.getElem?_eq_getElem h]; exact List.getElem_mem h


/-- an array built of given elements -/
theorem bldA {P : Program} {R : Qp} {ds : List Deferred} {n : Nat} {l : Env} {k : List KI} {w : World} {ops : Array Oper} {os : List Oper} {d : Nat} {ty : TypeId} {ps : String} {af : Array Edge} {gu : Option (Nat × Bool)} {G : Gs}
    {T E : TypeId} {m sz asz : Nat} {zc ze c : List Value} {parts : List (Nat × Operand)} {qs : List (Nat × List Value)} (hG : gd ops l gu = some G) (hu : P.underlying T = some (.array m E)) (hT : TyI P T asz true zc) (hE : TyI P E sz false ze)
    (hp : Pts l G (fun i => some (i * sz, sz)) parts qs) (hf : fillN zc qs = some c) (hn : Nat.blt d n = true)
    (h : Ro P R ds n ops ((d, G, .agg c.toArray) :: l) os k w) :
    Ro P R ds n ops l ({ dst := some d, op := .build T parts.toArray, type := ty, pos := ps, after := af, guard := gu } :: os) k w := by
  obtain ⟨i, z, dd, h1, h2, h3, h4, h5, h6⟩ := hT.get
  obtain ⟨i', z', dd', g1, g2, g3, g4, g5, g6⟩ := hE.get
  refine opv hG rfl hn ?_ h
  intro hT' a ha
  have hfr := fill_run _ qs zc c (Pts.get ha hT' hp) hf
  have e : (parts.toArray.map fun x => (x.1, a.eval x.2)).toList = parts.map fun p => (p.1, a.eval p.2) := by simp
  have hz : z.cells = zc.toArray := by rw [← h4]
  simp only [execOp, Instr.build, zeroValue, typeInfo, Sem.run_bind, run_program, Result.andThen_ok, h1, h3, Sem.run_pure, run_underlying hu, sizeOf, g1, g2, hz]
  rw [e, hfr]
  rfl

set_option maxHeartbeats 1000000 in
theorem c97 (v : Value) (ls : List (List Int)) (w : World) (hs : SS [] w v ls) (hl : ls.flatten.length ≤ 1099511627776) (hm : ls.length ≤ 1099511627776) :
    CallsD Tryd.prog 97 #[v] w (.int .i64 (65535 - sumS ls.flatten)) := by
  refine enter Tryd.func97 rfl Tryd.ntmps97 (l := [(0, [], _)]) rfl rfl ?_
  have S := St.refl [] w
  have hby : byt ls.flatten := by obtain ⟨vs, hS, hB⟩ := hs; exact hB.byt
  have hw := wsum_bd ls.flatten true hby
  have hf := foldS_bd hw.1
  have hsd : sumS ls.flatten = foldS (wsum true ls.flatten) := rfl
  rw [← hsd] at hf
  refine Run.seq ?_
  refine Run.region ?_
  refine asg1 rfl rfl ?_
  refine Ro.nil ?_
  refine Nrm.code ?_
  refine Run.seq ?_
  refine Run.region ?_
  refine mv1 rfl rfl ?_
  refine calg (vs := [_]) rfl ⟨⟨_, _, rfl, rfl⟩, trivial⟩ k105 rfl (fun hG => c105 _ _ _ (hs.now S) hl hm) ?_
  intro w1 B_; have S := S.call B_
  refine sub1 rfl rfl rfl (w64 (by omega)) ?_
  refine asg1 rfl rfl ?_
  refine Ro.nil ?_
  refine Nrm.code ?_
  refine Run.ret ?_
  refine Rt.one rfl rfl ?_
  exact ⟨rfl, S.bl⟩

set_option maxHeartbeats 1000000 in
theorem c36 (v : Value) (ls : List (List Int)) (w : World) (hs : SS [] w v ls) (hl : ls.flatten.length ≤ 1099511627776) (hm : ls.length ≤ 1099511627776) :
    CallsD Tryd.prog 36 #[v] w (.bool (decide (sumS ls.flatten = 65535))) := by
  refine enter Tryd.func36 rfl Tryd.ntmps36 (l := [(0, [], _)]) rfl rfl ?_
  have S := St.refl [] w
  have hby : byt ls.flatten := by obtain ⟨vs, hS, hB⟩ := hs; exact hB.byt
  have hw := wsum_bd ls.flatten true hby
  have hf := foldS_bd hw.1
  have hsd : sumS ls.flatten = foldS (wsum true ls.flatten) := rfl
  rw [← hsd] at hf
  refine Run.seq ?_
  refine Run.region ?_
  refine asg1 rfl rfl ?_
  refine Ro.nil ?_
  refine Nrm.code ?_
  refine Run.seq ?_
  refine Run.region ?_
  refine mv1 rfl rfl ?_
  refine calg (vs := [_]) rfl ⟨⟨_, _, rfl, rfl⟩, trivial⟩ k105 rfl (fun hG => c105 _ _ _ (hs.now S) hl hm) ?_
  intro w1 B_; have S := S.call B_
  refine eql1 rfl rfl rfl ?_
  refine asg1 rfl rfl ?_
  refine Ro.nil ?_
  refine Nrm.code ?_
  refine Run.ret ?_
  refine Rt.one rfl rfl ?_
  exact ⟨rfl, S.bl⟩

set_option maxHeartbeats 1000000 in
theorem c157 (n : Int) (w : World) (h : 0 ≤ n ∧ n ≤ 4611686018427387904) :
    CallsD Tryd.prog 157 #[.int .i64 n] w (.int .i64 (foldS n)) := by
  refine enter Tryd.func157 rfl Tryd.ntmps157 (l := [(0, [], _)]) rfl rfl ?_
  have S := St.refl [] w
  refine Run.seq ?_
  refine Run.region ?_
  refine asg1 rfl rfl ?_
  refine Ro.nil ?_
  refine Nrm.code ?_
  refine Run.seq ?_
  refine Run.seq ?_
  refine Run.region ?_
  refine mv1 rfl rfl ?_
  refine eql1 rfl rfl rfl ?_
  refine Ro.nil ?_
  refine Nrm.code ?_
  refine Run.cond rfl (fun hc1 => ?_) (fun hc1 => ?_)
  ·
    try simp only [Bool.or_eq_true, Bool.and_eq_true, Bool.or_eq_false_iff, Bool.and_eq_false_iff, decide_eq_true_eq, decide_eq_false_iff_not, Bool.not_eq_true', Bool.not_eq_false', Bool.not_eq_true, Bool.not_eq_false] at hc1
    subst hc1
    refine Run.seq ?_
    refine Run.region ?_
    refine asg1 rfl rfl ?_
    refine Ro.nil ?_
    refine Nrm.code ?_
    refine Run.ret ?_
    refine Rt.one rfl rfl ?_
    exact ⟨rfl, S.bl⟩
  ·
    try simp only [Bool.or_eq_true, Bool.and_eq_true, Bool.or_eq_false_iff, Bool.and_eq_false_iff, decide_eq_true_eq, decide_eq_false_iff_not, Bool.not_eq_true', Bool.not_eq_false', Bool.not_eq_true, Bool.not_eq_false] at hc1
    refine Run.skip ?_
    refine Nrm.code ?_
    refine Run.seq ?_
    refine Run.region ?_
    refine mv1 rfl rfl ?_
    refine sub1 rfl rfl rfl (w64 (by omega)) ?_
    refine rem1 rfl rfl rfl (by decide) (r64 (by omega)) ?_
    refine add1 rfl rfl rfl (w64 (by omega)) ?_
    refine asg1 rfl rfl ?_
    refine Ro.nil ?_
    refine Nrm.code ?_
    refine Run.ret ?_
    refine Rt.one rfl rfl ?_
    exact ⟨by unfold foldS; rw [if_neg hc1], S.bl⟩

set_option maxHeartbeats 1000000 in
theorem c150 (v : Value) (ls : List (List Int)) (w : World) (hs : SS [] w v ls) (hl : ls.flatten.length ≤ 1099511627776) (hm : ls.length ≤ 1099511627776) :
    CallsD Tryd.prog 150 #[v] w (.int .i64 (sumS ls.flatten)) := by
  refine enter Tryd.func150 rfl Tryd.ntmps150 (l := [(0, [], _)]) rfl rfl ?_
  have S := St.refl [] w
  obtain ⟨vs, hS, hB⟩ := hs
  have hby : byt ls.flatten := hB.byt
  refine Run.seq ?_
  refine Run.region ?_
  refine asg1 rfl rfl ?_
  refine Ro.nil ?_
  refine Nrm.code ?_
  refine Run.seq ?_
  refine Run.region ?_
  refine asg1 rfl rfl ?_
  refine Ro.nil ?_
  refine Nrm.code ?_
  refine Run.seq ?_
  refine Run.region ?_
  refine asg1 rfl rfl ?_
  refine Ro.nil ?_
  refine Nrm.code ?_
  refine Run.seq ?_
  refine Run.seq ?_
  refine Run.region ?_
  refine asg1 rfl rfl ?_
  refine Ro.nil ?_
  refine Nrm.code ?_
  refine Run.block ?_
  refine Run.loop3 (fun (j : Nat) (a : Int) (n : Int) w_ => j ≤ ls.length ∧ a = (ls.take j).flatten.length ∧ n = wsum true (ls.take j).flatten ∧ St [] w [] w_) (fun (j : Nat) (a : Int) (n : Int) => [(0, [], v), (3, [], .int .i64 a), (4, [], .int .i64 n), (5, [], .int .i64 j)]) (fun (j : Nat) (a : Int) (n : Int) => ls.length - j) (0) (0) (0) ⟨Nat.zero_le _, rfl, rfl, S⟩ ⟨rfl, rfl, rfl, rfl, trivial⟩ ?_
  rintro j a n w1 ⟨hj, ha, hn, S⟩
  refine Run.seq ?_
  refine Run.seq ?_
  refine Run.region ?_
  refine mv1 rfl rfl ?_
  refine mv1 rfl rfl ?_
  refine lenS rfl hS Tryd.underlying102 rfl rfl rfl ?_
  refine lss1 rfl rfl rfl ?_
  refine Ro.nil ?_
  refine Nrm.code ?_
  refine Run.cond rfl (fun hc4 => ?_) (fun hc4 => ?_)
  ·
    try simp only [Bool.or_eq_true, Bool.and_eq_true, Bool.or_eq_false_iff, Bool.and_eq_false_iff, decide_eq_true_eq, decide_eq_false_iff_not, Bool.not_eq_true', Bool.not_eq_false', Bool.not_eq_true, Bool.not_eq_false] at hc4
    refine Run.skip ?_
    refine Nrm.code ?_
    refine Run.seq ?_
    refine Run.block ?_
    refine Run.seq ?_
    refine Run.region ?_
    refine asg1 rfl rfl ?_
    refine Ro.nil ?_
    refine Nrm.code ?_
    refine Run.block ?_
    have hjl : j < ls.length := by omega
    obtain ⟨p, hp, hpb⟩ := hB.at hjl
    have hw1 := wsum_bd (ls.take j).flatten true (fun x hx => hby x (take_flat_mem x hx))
    have hfl := flat_len_take j hjl
    refine Run.loop3 (fun (i : Nat) (a : Int) (n : Int) w_ => i ≤ (ls.getD j []).length ∧ a = (ls.take j).flatten.length + i ∧ n = wsum true (ls.take j).flatten + wsum (par true (ls.take j).flatten.length) ((ls.getD j []).take i) ∧ St [] w [] w_) (fun (i : Nat) (a : Int) (n : Int) => [(0, [], v), (3, [], .int .i64 a), (4, [], .int .i64 n), (5, [], .int .i64 j), (6, [], .int .i64 i)]) (fun (i : Nat) (a : Int) (n : Int) => (ls.getD j []).length - i) (0) (_) (_) ⟨Nat.zero_le _, by rw [ha]; simp, by rw [hn]; simp [wsum], S⟩ ⟨rfl, rfl, rfl, rfl, rfl, trivial⟩ ?_
    rintro i a n w2 ⟨hi, ha2, hq2, S⟩
    have hw2 := wsum_bd ((ls.getD j []).take i) (par true (ls.take j).flatten.length) (fun x hx => hpb.1 x (List.mem_of_mem_take hx))
    rw [List.length_take, Nat.min_eq_left hi] at hw2
    refine Run.seq ?_
    refine Run.seq ?_
    refine Run.region ?_
    refine mv1 rfl rfl ?_
    refine mv1 rfl rfl ?_
    refine mv1 rfl rfl ?_
    refine ixa rfl rfl hS e102 rfl rfl rfl rfl (fun _ => by omega) ?_
    refine ldE rfl hS S T26 rfl rfl rfl (fun _ => by simpa using hp) ?_
    refine lenS rfl hpb.2 Tryd.underlying26 rfl rfl rfl ?_
    refine lss1 rfl rfl rfl ?_
    refine Ro.nil ?_
    refine Nrm.code ?_
    refine Run.cond rfl (fun hc7 => ?_) (fun hc7 => ?_)
    ·
      try simp only [Bool.or_eq_true, Bool.and_eq_true, Bool.or_eq_false_iff, Bool.and_eq_false_iff, decide_eq_true_eq, decide_eq_false_iff_not, Bool.not_eq_true', Bool.not_eq_false', Bool.not_eq_true, Bool.not_eq_false] at hc7
      refine Run.skip ?_
      refine Nrm.code ?_
      refine Run.seq ?_
      refine Run.block ?_
      refine Run.seq ?_
      refine Run.region ?_
      refine mv1 rfl rfl ?_
      refine mv1 rfl rfl ?_
      refine ixa rfl rfl hS e102 rfl rfl rfl rfl (fun _ => by omega) ?_
      refine ldE rfl hS S T26 rfl rfl rfl (fun _ => by simpa using hp) ?_
      refine mv1 rfl rfl ?_
      refine ixa rfl rfl hpb.2 e26 rfl rfl rfl rfl (fun _ => by omega) ?_
      refine ldB rfl hpb S T5 rfl rfl rfl (fun _ => by omega) ?_
      intro q29 hq29 hbq29
      try simp only [Int.toNat_natCast, Nat.mul_one] at hq29
      refine cvi1 rfl rfl Tryd.underlying5 Tryd.underlying3 (w64 (by omega)) ?_
      refine asg1 rfl rfl ?_
      refine Ro.nil ?_
      refine Nrm.code ?_
      refine Run.seq ?_
      refine Run.seq ?_
      refine Run.region ?_
      refine mv1 rfl rfl ?_
      refine rem1 rfl rfl rfl (by decide) (r64 (by omega)) ?_
      refine eql1 rfl rfl rfl ?_
      refine Ro.nil ?_
      refine Nrm.code ?_
      refine Run.cond rfl (fun hc10 => ?_) (fun hc10 => ?_)
      ·
        try simp only [Bool.or_eq_true, Bool.and_eq_true, Bool.or_eq_false_iff, Bool.and_eq_false_iff, decide_eq_true_eq, decide_eq_false_iff_not, Bool.not_eq_true', Bool.not_eq_false', Bool.not_eq_true, Bool.not_eq_false] at hc10
        have hpar : par true ((ls.take j).flatten.length + i) = true := by unfold par; rw [if_pos (by omega)]
        refine Run.region ?_
        refine mv1 rfl rfl ?_
        refine mul1 rfl rfl rfl (w64 (by omega)) ?_
        refine asg1 rfl rfl ?_
        refine Ro.nil ?_
        refine Nrm.code ?_
        refine Run.seq ?_
        refine Run.region ?_
        refine mv1 rfl rfl ?_
        refine mv1 rfl rfl ?_
        refine add1 rfl rfl rfl (w64 (by omega)) ?_
        refine asg1 rfl rfl ?_
        refine Ro.nil ?_
        refine Nrm.code ?_
        refine Run.region ?_
        refine mv1 rfl rfl ?_
        refine add1 rfl rfl rfl (w64 (by omega)) ?_
        refine asg1 rfl rfl ?_
        refine Ro.nil ?_
        refine Nrm.blk ?_
        refine Nrm.code ?_
        refine Run.region ?_
        refine mv1 rfl rfl ?_
        refine add1 rfl rfl rfl (w64 (by omega)) ?_
        refine asg1 rfl rfl ?_
        refine Ro.nil ?_
        refine Nrm.loop3 (i + 1) (_) (_) ⟨by omega, by rw [ha2]; omega, by
                          rw [getD_take_succ (by omega), wsum_app, List.length_take, Nat.min_eq_left hi, hq2, ← hq29, par_par, hpar]; simp [wsum]; omega, S⟩ (by omega) ⟨rfl, rfl, rfl, rfl, rfl, trivial⟩
      ·
        try simp only [Bool.or_eq_true, Bool.and_eq_true, Bool.or_eq_false_iff, Bool.and_eq_false_iff, decide_eq_true_eq, decide_eq_false_iff_not, Bool.not_eq_true', Bool.not_eq_false', Bool.not_eq_true, Bool.not_eq_false] at hc10
        have hpar : par true ((ls.take j).flatten.length + i) = false := by unfold par; rw [if_neg (by omega)]; rfl
        refine Run.skip ?_
        refine Nrm.code ?_
        refine Run.seq ?_
        refine Run.region ?_
        refine mv1 rfl rfl ?_
        refine mv1 rfl rfl ?_
        refine add1 rfl rfl rfl (w64 (by omega)) ?_
        refine asg1 rfl rfl ?_
        refine Ro.nil ?_
        refine Nrm.code ?_
        refine Run.region ?_
        refine mv1 rfl rfl ?_
        refine add1 rfl rfl rfl (w64 (by omega)) ?_
        refine asg1 rfl rfl ?_
        refine Ro.nil ?_
        refine Nrm.blk ?_
        refine Nrm.code ?_
        refine Run.region ?_
        refine mv1 rfl rfl ?_
        refine add1 rfl rfl rfl (w64 (by omega)) ?_
        refine asg1 rfl rfl ?_
        refine Ro.nil ?_
        refine Nrm.loop3 (i + 1) (_) (_) ⟨by omega, by rw [ha2]; omega, by
                          rw [getD_take_succ (by omega), wsum_app, List.length_take, Nat.min_eq_left hi, hq2, ← hq29, par_par, hpar]; simp [wsum]; omega, S⟩ (by omega) ⟨rfl, rfl, rfl, rfl, rfl, trivial⟩
    ·
      try simp only [Bool.or_eq_true, Bool.and_eq_true, Bool.or_eq_false_iff, Bool.and_eq_false_iff, decide_eq_true_eq, decide_eq_false_iff_not, Bool.not_eq_true', Bool.not_eq_false', Bool.not_eq_true, Bool.not_eq_false] at hc7
      have hi' : i = (ls.getD j []).length := by omega
      subst hi'; rw [List.take_length] at hq2 hw2
      refine Run.exit ?_
      refine Lv.code ?_
      refine Lv.back ?_
      refine Lv.hit ?_
      refine Nrm.blk ?_
      refine Nrm.code ?_
      refine Run.region ?_
      refine mv1 rfl rfl ?_
      refine add1 rfl rfl rfl (w64 (by omega)) ?_
      refine asg1 rfl rfl ?_
      refine Ro.nil ?_
      refine Nrm.loop3 (j + 1) (_) (_) ⟨by omega, by
                    rw [flat_take_succ hjl, List.length_append]; omega, by
                    rw [flat_take_succ hjl, wsum_app, hq2], S⟩ (by omega) ⟨rfl, rfl, rfl, rfl, trivial⟩
  ·
    try simp only [Bool.or_eq_true, Bool.and_eq_true, Bool.or_eq_false_iff, Bool.and_eq_false_iff, decide_eq_true_eq, decide_eq_false_iff_not, Bool.not_eq_true', Bool.not_eq_false', Bool.not_eq_true, Bool.not_eq_false] at hc4
    refine Run.exit ?_
    refine Lv.code ?_
    refine Lv.back ?_
    refine Lv.hit ?_
    refine Nrm.code ?_
    refine Run.seq ?_
    refine Run.region ?_
    refine mv1 rfl rfl ?_
    have hwt := wsum_bd (ls.take j).flatten true (fun x hx => hby x (take_flat_mem x hx))
    have e : j = ls.length := by omega
    rw [e, List.take_length] at hwt hn
    refine calg (vs := [_]) rfl ⟨⟨_, _, rfl, rfl⟩, trivial⟩ k157 rfl (fun hG => c157 _ _ (by omega)) ?_
    intro w2 B_; have S := S.call B_
    refine asg1 rfl rfl ?_
    refine Ro.nil ?_
    refine Nrm.code ?_
    refine Run.ret ?_
    refine Rt.one rfl rfl ?_
    exact ⟨by rw [hn]; rfl, S.bl⟩

set_option maxHeartbeats 1000000 in
theorem c117 (v : Value) (ls : List (List Int)) (w : World) (hs : SS [] w v ls) (hl : ls.flatten.length ≤ 1099511627776) (hm : ls.length ≤ 1099511627776) :
    CallsD Tryd.prog 117 #[v] w (.int .i64 (65535 - sumS ls.flatten)) := by
  refine enter Tryd.func117 rfl Tryd.ntmps117 (l := [(0, [], _)]) rfl rfl ?_
  have S := St.refl [] w
  have hby : byt ls.flatten := by obtain ⟨vs, hS, hB⟩ := hs; exact hB.byt
  have hw := wsum_bd ls.flatten true hby
  have hf := foldS_bd hw.1
  have hsd : sumS ls.flatten = foldS (wsum true ls.flatten) := rfl
  rw [← hsd] at hf
  refine Run.seq ?_
  refine Run.region ?_
  refine asg1 rfl rfl ?_
  refine Ro.nil ?_
  refine Nrm.code ?_
  refine Run.seq ?_
  refine Run.region ?_
  refine mv1 rfl rfl ?_
  refine calg (vs := [_]) rfl ⟨⟨_, _, rfl, rfl⟩, trivial⟩ k150 rfl (fun hG => c150 _ _ _ (hs.now S) hl hm) ?_
  intro w1 B_; have S := S.call B_
  refine sub1 rfl rfl rfl (w64 (by omega)) ?_
  refine asg1 rfl rfl ?_
  refine Ro.nil ?_
  refine Nrm.code ?_
  refine Run.ret ?_
  refine Rt.one rfl rfl ?_
  exact ⟨rfl, S.bl⟩

set_option maxHeartbeats 1000000 in
theorem c112 (v : Value) (ls : List (List Int)) (w : World) (hs : SS [] w v ls) (hl : ls.flatten.length ≤ 1099511627776) (hm : ls.length ≤ 1099511627776) :
    CallsD Tryd.prog 112 #[v] w (.bool (decide (sumS ls.flatten = 65535))) := by
  refine enter Tryd.func112 rfl Tryd.ntmps112 (l := [(0, [], _)]) rfl rfl ?_
  have S := St.refl [] w
  have hby : byt ls.flatten := by obtain ⟨vs, hS, hB⟩ := hs; exact hB.byt
  have hw := wsum_bd ls.flatten true hby
  have hf := foldS_bd hw.1
  have hsd : sumS ls.flatten = foldS (wsum true ls.flatten) := rfl
  rw [← hsd] at hf
  refine Run.seq ?_
  refine Run.region ?_
  refine asg1 rfl rfl ?_
  refine Ro.nil ?_
  refine Nrm.code ?_
  refine Run.seq ?_
  refine Run.region ?_
  refine mv1 rfl rfl ?_
  refine calg (vs := [_]) rfl ⟨⟨_, _, rfl, rfl⟩, trivial⟩ k150 rfl (fun hG => c150 _ _ _ (hs.now S) hl hm) ?_
  intro w1 B_; have S := S.call B_
  refine eql1 rfl rfl rfl ?_
  refine asg1 rfl rfl ?_
  refine Ro.nil ?_
  refine Nrm.code ?_
  refine Run.ret ?_
  refine Rt.one rfl rfl ?_
  exact ⟨rfl, S.bl⟩

set_option maxHeartbeats 1000000 in
theorem c109 (c o n : Int) (w : World) (h1 : 0 ≤ c ∧ c ≤ 65535) (h2 : 0 ≤ o ∧ o ≤ 65535) (h3 : 0 ≤ n ∧ n ≤ 65535) :
    CallsD Tryd.prog 109 #[.int .i64 c, .int .i64 o, .int .i64 n] w (.tuple #[.int .i64 (65535 - foldS (65535 - c + 65535 - o + n)), .int .i64 0]) := by
  refine enter Tryd.func109 rfl Tryd.ntmps109 (l := [(0, [], _), (1, [], _), (2, [], _)]) rfl rfl ?_
  have S := St.refl [] w
  refine Run.seq ?_
  refine Run.region ?_
  refine asg1 rfl rfl ?_
  refine asg1 rfl rfl ?_
  refine Ro.nil ?_
  refine Nrm.code ?_
  refine Run.seq ?_
  refine Run.seq ?_
  refine Run.region ?_
  refine mv1 rfl rfl ?_
  refine mv1 rfl rfl ?_
  refine mv1 rfl rfl ?_
  refine bldA rfl (sz := 1) (E := 3) (m := 3) Tryd.underlying181 T181 T3 (qs := [(_, _), (_, _), (_, _)]) ⟨⟨_, _, _, rfl, rfl, rfl, rfl, by simp [Value.cells]⟩, ⟨_, _, _, rfl, rfl, rfl, rfl, by simp [Value.cells]⟩, ⟨_, _, _, rfl, rfl, rfl, rfl, by simp [Value.cells]⟩, trivial⟩ rfl rfl ?_
  refine mv1 rfl rfl ?_
  refine Ro.nil ?_
  refine Nrm.code ?_
  refine Run.block ?_
  refine Run.loop1 (fun (i : Nat) w_ => i ≤ 3 ∧ St [] w [] w_) (fun (i : Nat) => [(0, [], .int .i64 c), (1, [], .int .i64 o), (2, [], .int .i64 n), (13, [], .agg #[.int .i64 c, .int .i64 o, .int .i64 n]), (14, [], .int .i64 i)]) (fun (i : Nat) => 3 - i) (0) ⟨Nat.zero_le _, S⟩ ⟨rfl, rfl, rfl, rfl, rfl, trivial⟩ ?_
  rintro i w1 ⟨hi, S⟩
  refine Run.seq ?_
  refine Run.region ?_
  refine lss1 rfl rfl rfl ?_
  refine Ro.nil ?_
  refine Nrm.code ?_
  refine Run.seq ?_
  refine Run.cond rfl (fun hc2 => ?_) (fun hc2 => ?_)
  ·
    try simp only [Bool.or_eq_true, Bool.and_eq_true, Bool.or_eq_false_iff, Bool.and_eq_false_iff, decide_eq_true_eq, decide_eq_false_iff_not, Bool.not_eq_true', Bool.not_eq_false', Bool.not_eq_true, Bool.not_eq_false] at hc2
    refine Run.skip ?_
    refine Nrm.code ?_
    refine Run.seq ?_
    refine Run.block ?_
    refine Run.seq ?_
    refine Run.region ?_
    obtain ⟨z, hz, hzb⟩ : ∃ z, (#[(.int .i64 c : Value), .int .i64 o, .int .i64 n])[i]? = some (.int .i64 z) ∧ 0 ≤ z ∧ z ≤ 65535 := by
      rcases i with _ | _ | _ | i
      · exact ⟨c, rfl, h1⟩
      · exact ⟨o, rfl, h2⟩
      · exact ⟨n, rfl, h3⟩
      · omega
    refine ixv rfl rfl Tryd.underlying181 T3 rfl (by omega) hz ?_
    refine asg1 rfl rfl ?_
    refine Ro.nil ?_
    refine Nrm.code ?_
    refine Run.seq ?_
    refine Run.region ?_
    refine mv1 rfl rfl ?_
    refine lss1 rfl rfl rfl ?_
    refine mv1 rfl rfl ?_
    refine mv rfl rfl rfl rfl ?_
    refine gtr rfl rfl rfl rfl rfl rfl ?_
    refine pkO rfl rfl rfl rfl rfl rfl ?_
    refine Ro.nil ?_
    refine Nrm.code ?_
    refine Run.cond rfl (fun hc4 => ?_) (fun hc4 => ?_)
    ·
      try simp only [Bool.or_eq_true, Bool.and_eq_true, Bool.or_eq_false_iff, Bool.and_eq_false_iff, decide_eq_true_eq, decide_eq_false_iff_not, Bool.not_eq_true', Bool.not_eq_false', Bool.not_eq_true, Bool.not_eq_false] at hc4
      exfalso; omega
    ·
      try simp only [Bool.or_eq_true, Bool.and_eq_true, Bool.or_eq_false_iff, Bool.and_eq_false_iff, decide_eq_true_eq, decide_eq_false_iff_not, Bool.not_eq_true', Bool.not_eq_false', Bool.not_eq_true, Bool.not_eq_false] at hc4
      refine Run.skip ?_
      refine Nrm.blk ?_
      refine Nrm.code ?_
      refine Run.region ?_
      refine add1 rfl rfl rfl (w64 (by omega)) ?_
      refine mv1 rfl rfl ?_
      refine Ro.nil ?_
      refine Nrm.loop1 (i + 1) ⟨by omega, S⟩ (by omega) ⟨rfl, rfl, rfl, rfl, rfl, trivial⟩
  ·
    try simp only [Bool.or_eq_true, Bool.and_eq_true, Bool.or_eq_false_iff, Bool.and_eq_false_iff, decide_eq_true_eq, decide_eq_false_iff_not, Bool.not_eq_true', Bool.not_eq_false', Bool.not_eq_true, Bool.not_eq_false] at hc2
    refine Run.exit ?_
    refine Lv.code ?_
    refine Lv.back ?_
    refine Lv.hit ?_
    refine Nrm.code ?_
    refine Run.seq ?_
    refine Run.region ?_
    refine mv1 rfl rfl ?_
    refine sub1 rfl rfl rfl (w64 (by omega)) ?_
    refine add1 rfl rfl rfl (w64 (by omega)) ?_
    refine mv1 rfl rfl ?_
    refine sub1 rfl rfl rfl (w64 (by omega)) ?_
    refine mv1 rfl rfl ?_
    refine add1 rfl rfl rfl (w64 (by omega)) ?_
    refine calg (vs := [_]) rfl ⟨⟨_, _, rfl, rfl⟩, trivial⟩ k144 rfl (fun hG => c144 _ _ (by omega)) ?_
    intro w2 B_; have S := S.call B_
    have hfb := foldS_bd (n := 65535 - c + 65535 - o + n) (by omega)
    refine sub1 rfl rfl rfl (w64 (by omega)) ?_
    refine asg1 rfl rfl ?_
    refine asg1 rfl rfl ?_
    refine Ro.nil ?_
    refine Nrm.code ?_
    refine Run.ret ?_
    refine Rt.two rfl rfl rfl ?_
    exact ⟨rfl, S.bl⟩

set_option maxHeartbeats 1000000 in
theorem c37 (v u : Value) (a b : List Int) (w : World) (ha : BS [] w v a) (hb : BS [] w u b) :
    CallsD Tryd.prog 37 #[v, u] w (.bool (decide (a = b))) := by
  refine enter Tryd.func37 rfl Tryd.ntmps37 (l := [(0, [], _), (1, [], _)]) rfl rfl ?_
  have S := St.refl [] w
  refine Run.seq ?_
  refine Run.region ?_
  refine asg1 rfl rfl ?_
  refine Ro.nil ?_
  refine Nrm.code ?_
  refine Run.seq ?_
  refine Run.region ?_
  refine mv1 rfl rfl ?_
  refine cvS rfl ha S e26 Tryd.underlying5 Tryd.underlying9 rfl rfl rfl ?_
  refine mv1 rfl rfl ?_
  refine cvS rfl hb S e26 Tryd.underlying5 Tryd.underlying9 rfl rfl rfl ?_
  refine eqS rfl rfl ha.1 hb.1 rfl rfl rfl rfl ?_
  refine asg1 rfl rfl ?_
  refine Ro.nil ?_
  refine Nrm.code ?_
  refine Run.ret ?_
  refine Rt.one rfl rfl ?_
  exact ⟨rfl, S.bl⟩

set_option maxHeartbeats 1000000 in
theorem c104 (v u : Value) (a b : List Int) (w : World) (ha : BS [] w v a) (hb : BS [] w u b) :
    CallsD Tryd.prog 104 #[v, u] w (.bool (decide (a = b))) := by
  refine enter Tryd.func104 rfl Tryd.ntmps104 (l := [(0, [], _), (1, [], _)]) rfl rfl ?_
  have S := St.refl [] w
  refine Run.seq ?_
  refine Run.region ?_
  refine asg1 rfl rfl ?_
  refine Ro.nil ?_
  refine Nrm.code ?_
  refine Run.seq ?_
  refine Run.region ?_
  refine mv1 rfl rfl ?_
  refine cvS rfl ha S e26 Tryd.underlying5 Tryd.underlying9 rfl rfl rfl ?_
  refine mv1 rfl rfl ?_
  refine cvS rfl hb S e26 Tryd.underlying5 Tryd.underlying9 rfl rfl rfl ?_
  refine eqS rfl rfl ha.1 hb.1 rfl rfl rfl rfl ?_
  refine asg1 rfl rfl ?_
  refine Ro.nil ?_
  refine Nrm.code ?_
  refine Run.ret ?_
  refine Rt.one rfl rfl ?_
  exact ⟨rfl, S.bl⟩

set_option maxHeartbeats 1000000 in
theorem c116 (v u : Value) (a b : List Int) (w : World) (ha : BS [] w v a) (hb : BS [] w u b) :
    CallsD Tryd.prog 116 #[v, u] w (.bool (decide (a = b))) := by
  refine enter Tryd.func116 rfl Tryd.ntmps116 (l := [(0, [], _), (1, [], _)]) rfl rfl ?_
  have S := St.refl [] w
  refine Run.seq ?_
  refine Run.region ?_
  refine asg1 rfl rfl ?_
  refine Ro.nil ?_
  refine Nrm.code ?_
  refine Run.seq ?_
  refine Run.region ?_
  refine mv1 rfl rfl ?_
  refine cvS rfl ha S e26 Tryd.underlying5 Tryd.underlying9 rfl rfl rfl ?_
  refine mv1 rfl rfl ?_
  refine cvS rfl hb S e26 Tryd.underlying5 Tryd.underlying9 rfl rfl rfl ?_
  refine eqS rfl rfl ha.1 hb.1 rfl rfl rfl rfl ?_
  refine asg1 rfl rfl ?_
  refine Ro.nil ?_
  refine Nrm.code ?_
  refine Run.ret ?_
  refine Rt.one rfl rfl ?_
  exact ⟨rfl, S.bl⟩

set_option maxHeartbeats 1000000 in
theorem c39 (v : Value) (a : List Int) (w : World) (ha : BS [] w v a) (hl : a.length ≤ 140737488355328) :
    CallsV Tryd.prog 39 #[v] w (fun r w' => FB w w' r a) := by
  refine enter Tryd.func39 rfl Tryd.ntmps39 (l := [(0, [], _)]) rfl rfl ?_
  have S := St.refl [] w
  refine Run.seq ?_
  refine Run.region ?_
  refine asg1 rfl rfl ?_
  refine Ro.nil ?_
  refine Nrm.code ?_
  refine Run.seq ?_
  refine Run.region ?_
  refine asg1 rfl rfl ?_
  have S := S.nilB
  refine Ro.nil ?_
  refine Nrm.code ?_
  refine Run.seq ?_
  refine Run.region ?_
  refine mv1 rfl rfl ?_
  refine mv1 rfl rfl ?_
  refine apB rfl rfl e26 (ha.now S) S (i := 0) rfl rfl (fun _ => rfl) (by first | omega | (simp only [List.length_nil, List.length_append, List.length_cons]; omega)) ?_
  intro v6 w1 S B_
  refine asg1 rfl rfl ?_
  refine Ro.nil ?_
  refine Nrm.code ?_
  refine Run.ret ?_
  refine Rt.one rfl rfl ?_
  exact S.toFB (i := 0) rfl

set_option maxHeartbeats 1000000 in
theorem c143 (v : Value) (a : List Int) (i : Int) (w : World) (ha : BS [] w v a) (hi : 0 ≤ i ∧ i < a.length) (hl : a.length ≤ 1099511627776) :
    CallsD Tryd.prog 143 #[v, .int .i64 i] w (.int .u8 (a.getD i.toNat 0)) := by
  refine enter Tryd.func143 rfl Tryd.ntmps143 (l := [(0, [], _), (1, [], _)]) rfl rfl ?_
  have S := St.refl [] w
  refine Run.seq ?_
  refine Run.region ?_
  refine asg1 rfl rfl ?_
  refine Ro.nil ?_
  refine Nrm.code ?_
  refine Run.seq ?_
  refine Run.seq ?_
  refine Run.region ?_
  refine mv1 rfl rfl ?_
  refine lss1 rfl rfl rfl ?_
  refine mv1 rfl rfl ?_
  refine mv rfl rfl rfl rfl ?_
  refine mv rfl rfl rfl rfl ?_
  refine lenS rfl ha.2 Tryd.underlying26 rfl rfl rfl ?_
  refine geq rfl rfl rfl rfl rfl rfl ?_
  refine pkO rfl rfl rfl rfl rfl rfl ?_
  refine Ro.nil ?_
  refine Nrm.code ?_
  refine Run.cond rfl (fun hc1 => ?_) (fun hc1 => ?_)
  ·
    try simp only [Bool.or_eq_true, Bool.and_eq_true, Bool.or_eq_false_iff, Bool.and_eq_false_iff, decide_eq_true_eq, decide_eq_false_iff_not, Bool.not_eq_true', Bool.not_eq_false', Bool.not_eq_true, Bool.not_eq_false] at hc1
    exfalso; omega
  ·
    try simp only [Bool.or_eq_true, Bool.and_eq_true, Bool.or_eq_false_iff, Bool.and_eq_false_iff, decide_eq_true_eq, decide_eq_false_iff_not, Bool.not_eq_true', Bool.not_eq_false', Bool.not_eq_true, Bool.not_eq_false] at hc1
    refine Run.skip ?_
    refine Nrm.code ?_
    refine Run.seq ?_
    refine Run.region ?_
    refine mv1 rfl rfl ?_
    refine mv1 rfl rfl ?_
    refine ixa rfl rfl ha.2 e26 rfl rfl rfl rfl (fun _ => by omega) ?_
    refine ldB rfl ha S T5 rfl rfl rfl (fun _ => by omega) ?_
    intro q18 hq18 hbq18
    try simp only [Int.toNat_natCast, Nat.mul_one] at hq18
    refine asg1 rfl rfl ?_
    refine Ro.nil ?_
    refine Nrm.code ?_
    refine Run.ret ?_
    refine Rt.one rfl rfl ?_
    exact ⟨by rw [hq18], S.bl⟩

set_option maxHeartbeats 1000000 in
theorem c142 (v : Value) (a : List Int) (i m : Nat) (w : World) (ha : BS [] w v a) (hi : i + m ≤ a.length) (hl : a.length ≤ 1099511627776) :
    CallsD Tryd.prog 142 #[v, .int .i64 i, .int .i64 m] w (cut v i (i + m) (i + m)) := by
  refine enter Tryd.func142 rfl Tryd.ntmps142 (l := [(0, [], _), (1, [], _), (2, [], _)]) rfl rfl ?_
  have S := St.refl [] w
  refine Run.seq ?_
  refine Run.region ?_
  refine asg1 rfl rfl ?_
  refine Ro.nil ?_
  refine Nrm.code ?_
  refine Run.seq ?_
  refine Run.seq ?_
  refine Run.region ?_
  refine mv1 rfl rfl ?_
  refine lss1 rfl rfl rfl ?_
  refine mv1 rfl rfl ?_
  refine mv rfl rfl rfl rfl ?_
  refine mv rfl rfl rfl rfl ?_
  refine lenS rfl ha.2 Tryd.underlying26 rfl rfl rfl ?_
  refine gtr rfl rfl rfl rfl rfl rfl ?_
  refine pkO rfl rfl rfl rfl rfl rfl ?_
  refine mv1 rfl rfl ?_
  refine mv rfl rfl rfl rfl ?_
  refine mv rfl rfl rfl rfl ?_
  refine lenS rfl ha.2 Tryd.underlying26 rfl rfl rfl ?_
  refine mv rfl rfl rfl rfl ?_
  refine sub rfl rfl rfl rfl rfl rfl (fun hG => by first | exact w64 (by omega) | (simp [allT] at hG; exact w64 (by omega))) ?_
  refine gtr rfl rfl rfl rfl rfl rfl ?_
  refine pkO rfl rfl rfl rfl rfl rfl ?_
  refine Ro.nil ?_
  refine Nrm.code ?_
  refine Run.cond rfl (fun hc1 => ?_) (fun hc1 => ?_)
  ·
    try simp only [Bool.or_eq_true, Bool.and_eq_true, Bool.or_eq_false_iff, Bool.and_eq_false_iff, decide_eq_true_eq, decide_eq_false_iff_not, Bool.not_eq_true', Bool.not_eq_false', Bool.not_eq_true, Bool.not_eq_false] at hc1
    exfalso; omega
  ·
    try simp only [Bool.or_eq_true, Bool.and_eq_true, Bool.or_eq_false_iff, Bool.and_eq_false_iff, decide_eq_true_eq, decide_eq_false_iff_not, Bool.not_eq_true', Bool.not_eq_false', Bool.not_eq_true, Bool.not_eq_false] at hc1
    refine Run.skip ?_
    refine Nrm.code ?_
    refine Run.seq ?_
    refine Run.region ?_
    refine mv1 rfl rfl ?_
    refine mv1 rfl rfl ?_
    refine mv1 rfl rfl ?_
    refine mv1 rfl rfl ?_
    refine add1 rfl rfl rfl (w64 (by omega)) ?_
    refine mv1 rfl rfl ?_
    refine mv1 rfl rfl ?_
    refine add1 rfl rfl rfl (w64 (by omega)) ?_
    refine slC (lo := i) (hi := i + m) (mx := i + m) rfl ha e26 rfl rfl rfl (i1 := some (i)) (i2 := some (i + m)) (i3 := some (i + m)) ⟨_, _, _, rfl, rfl⟩ ⟨_, _, _, rfl, rfl⟩ ⟨_, _, _, rfl, rfl⟩ rfl rfl rfl (fun h => by first | rfl | cases h) (fun hG => by (try simp [allT] at hG); have hcap := ha.cap; omega) ?_
    have hr := ha.cut (lo := i) (hi := i + m) (mx := i + m) (by have hcap := ha.cap; omega)
    refine asg1 rfl rfl ?_
    refine Ro.nil ?_
    refine Nrm.code ?_
    refine Run.ret ?_
    refine Rt.one rfl rfl ?_
    exact ⟨rfl, S.bl⟩

set_option maxHeartbeats 1000000 in
theorem c140 (v : Value) (ws : List Int) (w : World) (hv : IS [] w v ws) (hw : ∀ x ∈ ws, 1 ≤ x ∧ x ≤ 32) (hl : ws.length ≤ 64) (h8 : ws.sum % 8 = 0) :
    CallsD Tryd.prog 140 #[v] w (.tuple #[.int .i64 (ws.sum / 8), .int .i64 0]) := by
  refine enter Tryd.func140 rfl Tryd.ntmps140 (l := [(0, [], _)]) rfl rfl ?_
  have S := St.refl [] w
  refine Run.seq ?_
  refine Run.region ?_
  refine asg1 rfl rfl ?_
  refine asg1 rfl rfl ?_
  refine Ro.nil ?_
  refine Nrm.code ?_
  refine Run.seq ?_
  refine Run.seq ?_
  refine Run.region ?_
  refine mv1 rfl rfl ?_
  refine lenS rfl hv Tryd.underlying132 rfl rfl rfl ?_
  refine gtr1 rfl rfl rfl ?_
  refine Ro.nil ?_
  refine Nrm.code ?_
  refine Run.cond rfl (fun hc1 => ?_) (fun hc1 => ?_)
  ·
    try simp only [Bool.or_eq_true, Bool.and_eq_true, Bool.or_eq_false_iff, Bool.and_eq_false_iff, decide_eq_true_eq, decide_eq_false_iff_not, Bool.not_eq_true', Bool.not_eq_false', Bool.not_eq_true, Bool.not_eq_false] at hc1
    exfalso; omega
  ·
    try simp only [Bool.or_eq_true, Bool.and_eq_true, Bool.or_eq_false_iff, Bool.and_eq_false_iff, decide_eq_true_eq, decide_eq_false_iff_not, Bool.not_eq_true', Bool.not_eq_false', Bool.not_eq_true, Bool.not_eq_false] at hc1
    refine Run.skip ?_
    refine Nrm.code ?_
    refine Run.seq ?_
    refine Run.region ?_
    refine asg1 rfl rfl ?_
    refine Ro.nil ?_
    refine Nrm.code ?_
    refine Run.seq ?_
    refine Run.seq ?_
    refine Run.region ?_
    refine mv1 rfl rfl ?_
    refine lenS rfl hv Tryd.underlying132 rfl rfl rfl ?_
    refine mv1 rfl rfl ?_
    refine Ro.nil ?_
    refine Nrm.code ?_
    refine Run.block ?_
    refine Run.loop2 (fun (i : Nat) (s : Int) w_ => i ≤ ws.length ∧ s = (ws.take i).sum ∧ St [] w [] w_) (fun (i : Nat) (s : Int) => [(4, [], .int .i64 s), (10, [], v), (11, [], .int .i64 ws.length), (12, [], .int .i64 i)]) (fun (i : Nat) (s : Int) => ws.length - i) (0) (0) ⟨Nat.zero_le _, rfl, S⟩ ⟨rfl, rfl, rfl, rfl, trivial⟩ ?_
    rintro i s w1 ⟨hi, hs, S⟩
    have hsb := sum_take_bd hw i
    refine Run.seq ?_
    refine Run.region ?_
    refine lss1 rfl rfl rfl ?_
    refine Ro.nil ?_
    refine Nrm.code ?_
    refine Run.seq ?_
    refine Run.cond rfl (fun hc5 => ?_) (fun hc5 => ?_)
    ·
      try simp only [Bool.or_eq_true, Bool.and_eq_true, Bool.or_eq_false_iff, Bool.and_eq_false_iff, decide_eq_true_eq, decide_eq_false_iff_not, Bool.not_eq_true', Bool.not_eq_false', Bool.not_eq_true, Bool.not_eq_false] at hc5
      refine Run.skip ?_
      refine Nrm.code ?_
      refine Run.seq ?_
      refine Run.block ?_
      refine Run.seq ?_
      refine Run.region ?_
      refine ixa rfl rfl hv e132 rfl rfl rfl rfl (fun _ => by omega) ?_
      refine ldI rfl hv S T3 rfl rfl rfl (fun _ => by omega) ?_
      intro q15 hq15
      try simp only [Int.toNat_natCast, Nat.mul_one] at hq15
      refine asg1 rfl rfl ?_
      refine Ro.nil ?_
      refine Nrm.code ?_
      refine Run.seq ?_
      refine Run.seq ?_
      refine Run.region ?_
      refine mv1 rfl rfl ?_
      refine lss1 rfl rfl rfl ?_
      refine mv1 rfl rfl ?_
      refine mv rfl rfl rfl rfl ?_
      refine gtr rfl rfl rfl rfl rfl rfl ?_
      refine pkO rfl rfl rfl rfl rfl rfl ?_
      refine Ro.nil ?_
      refine Nrm.code ?_
      refine Run.cond rfl (fun hc7 => ?_) (fun hc7 => ?_)
      ·
        try simp only [Bool.or_eq_true, Bool.and_eq_true, Bool.or_eq_false_iff, Bool.and_eq_false_iff, decide_eq_true_eq, decide_eq_false_iff_not, Bool.not_eq_true', Bool.not_eq_false', Bool.not_eq_true, Bool.not_eq_false] at hc7
        exfalso; (have hwi := hw _ (getD_mem (d := 0) (show i < ws.length by omega)); omega)
      ·
        try simp only [Bool.or_eq_true, Bool.and_eq_true, Bool.or_eq_false_iff, Bool.and_eq_false_iff, decide_eq_true_eq, decide_eq_false_iff_not, Bool.not_eq_true', Bool.not_eq_false', Bool.not_eq_true, Bool.not_eq_false] at hc7
        refine Run.skip ?_
        refine Nrm.code ?_
        refine Run.region ?_
        refine mv1 rfl rfl ?_
        refine mv1 rfl rfl ?_
        have hwi := hw _ (getD_mem (d := 0) (show i < ws.length by omega))
        refine add1 rfl rfl rfl (w64 (by omega)) ?_
        refine asg1 rfl rfl ?_
        refine Ro.nil ?_
        refine Nrm.blk ?_
        refine Nrm.code ?_
        refine Run.region ?_
        refine add1 rfl rfl rfl (w64 (by omega)) ?_
        refine mv1 rfl rfl ?_
        refine Ro.nil ?_
        refine Nrm.loop2 (i + 1) (_) ⟨by omega, by rw [sum_take_succ (by omega), hs, hq15], S⟩ (by omega) ⟨rfl, rfl, rfl, rfl, trivial⟩
    ·
      try simp only [Bool.or_eq_true, Bool.and_eq_true, Bool.or_eq_false_iff, Bool.and_eq_false_iff, decide_eq_true_eq, decide_eq_false_iff_not, Bool.not_eq_true', Bool.not_eq_false', Bool.not_eq_true, Bool.not_eq_false] at hc5
      refine Run.exit ?_
      refine Lv.code ?_
      refine Lv.back ?_
      refine Lv.hit ?_
      refine Nrm.code ?_
      refine Run.seq ?_
      refine Run.seq ?_
      refine Run.region ?_
      refine mv1 rfl rfl ?_
      refine rem1 rfl rfl rfl (by decide) (r64 (by omega)) ?_
      refine neq1 rfl rfl rfl ?_
      refine Ro.nil ?_
      refine Nrm.code ?_
      refine Run.cond rfl (fun hc11 => ?_) (fun hc11 => ?_)
      ·
        try simp only [Bool.or_eq_true, Bool.and_eq_true, Bool.or_eq_false_iff, Bool.and_eq_false_iff, decide_eq_true_eq, decide_eq_false_iff_not, Bool.not_eq_true', Bool.not_eq_false', Bool.not_eq_true, Bool.not_eq_false] at hc11
        exfalso; (have e : i = ws.length := by omega); rw [hs, e, List.take_length] at hc11; omega
      ·
        try simp only [Bool.or_eq_true, Bool.and_eq_true, Bool.or_eq_false_iff, Bool.and_eq_false_iff, decide_eq_true_eq, decide_eq_false_iff_not, Bool.not_eq_true', Bool.not_eq_false', Bool.not_eq_true, Bool.not_eq_false] at hc11
        refine Run.skip ?_
        refine Nrm.code ?_
        refine Run.seq ?_
        refine Run.region ?_
        refine mv1 rfl rfl ?_
        refine quo1 rfl rfl rfl (by decide) (q64 (by omega)) ?_
        refine asg1 rfl rfl ?_
        refine asg1 rfl rfl ?_
        refine Ro.nil ?_
        refine Nrm.code ?_
        refine Run.ret ?_
        refine Rt.two rfl rfl rfl ?_
        have e : i = ws.length := by omega
        exact ⟨by rw [hs, e, List.take_length], S.bl⟩

end Go.Proofs.YtkahmepenjhcpaaDoor.W
