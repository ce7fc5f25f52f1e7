/- Texts of the proofs of this seat, packed into one (Cc Sb Cd Ce Fi Cf Cg Fr Ch Sc Ci Fs Cj Ft Ck Cl Fu Sd Cm Fx). No statement of the seat is proved here. -/
import Derived.Recover
import Derived.OrdersHeld
import Derived.Test.YtkahmepenjhcpaaDoorMa
/- Contracts: sums, comparisons, copies, looks. No statement of the seat is proved here. -/
namespace Go.Proofs.YtkahmepenjhcpaaDoor.W
open Go
set_option linter.unusedSimpArgs false
set_option linter.unusedVariables false
theorem sum_take_succ {ws : List Int} {i : Nat} (h : i < ws.length) : (ws.take (i + 1)).sum = (ws.take i).sum + ws.getD i 0 := by
  rw [List.take_succ_eq_append_getElem h, List.sum_append, List.getD_eq_getElem?_getD, List.getElem?_eq_getElem h]; simp
theorem sum_take_bd {ws : List Int} (hw : ∀ x ∈ ws, 1 ≤ x ∧ x ≤ 32) : ∀ i, 0 ≤ (ws.take i).sum ∧ (ws.take i).sum ≤ 32 * i ∧ (ws.take i).sum ≤ ws.sum := by
  induction ws with
  | nil => intro i; simp; omega
  | cons a r ih =>
    intro i
    have ha := hw a (by simp)
    have hr : ∀ x ∈ r, 1 ≤ x ∧ x ≤ 32 := fun x hx => hw x (by simp [hx])
    cases i with
    | zero =>
      have := ih hr r.length
      rw [List.take_length] at this
      simp only [List.take_zero, List.sum_nil, List.sum_cons]; omega
    | succ i => have := ih hr i; simp only [List.take_succ_cons, List.sum_cons]; omega
theorem getD_mem {α : Type} {l : List α} {i : Nat} {d : α} (h : i < l.length) : l.getD i d ∈ l := by
  rw [List.getD_eq_getElem?_getD, List.getElem?_eq_getElem h]; exact List.getElem_mem h
/-- an array built of given elements -/
theorem bldA {P : Program} {R : Qp} {ds : List Deferred} {n : Nat} {l : Env} {k : List KI} {w : World} {ops : Array Oper} {os : List Oper} {d : Nat} {ty : TypeId} {ps : String} {af : Array Edge} {gu : Option (Nat × Bool)} {G : Gs}
    {T E : TypeId} {m sz asz : Nat} {zc ze c : List Value} {parts : List (Nat × Operand)} {qs : List (Nat × List Value)} (hG : gd ops l gu = some G) (hu : P.underlying T = some (.array m E)) (hT : TyI P T asz true zc) (hE : TyI P E sz false ze)
    (hp : Pts l G (fun i => some (i * sz, sz)) parts qs) (hf : fillN zc qs = some c) (hn : Nat.blt d n = true)
    (h : Ro P R ds n ops ((d, G, .agg c.toArray) :: l) os k w) :
    Ro P R ds n ops l ({ dst := some d, op := .build T parts.toArray, type := ty, pos := ps, after := af, guard := gu } :: os) k w := by
  obtain ⟨i, z, dd, h1, h2, h3, h4, h5, h6⟩ := hT.get
  obtain ⟨i', z', dd', g1, g2, g3, g4, g5, g6⟩ := hE.get
  refine opv hG rfl hn ?_ h
  intro hT' a ha
  have hfr := fill_run _ qs zc c (Pts.get ha hT' hp) hf
  have e : (parts.toArray.map fun x => (x.1, a.eval x.2)).toList = parts.map fun p => (p.1, a.eval p.2) := by simp
  have hz : z.cells = zc.toArray := by rw [← h4]
  simp only [execOp, Instr.build, zeroValue, typeInfo, Sem.run_bind, run_program, Result.andThen_ok, h1, h3, Sem.run_pure, run_underlying hu, sizeOf, g1, g2, hz]
  rw [e, hfr]
  rfl
set_option maxHeartbeats 1000000 in
theorem c97 (v : Value) (ls : List (List Int)) (w : World) (hs : SS [] w v ls) (hl : ls.flatten.length ≤ 1099511627776) (hm : ls.length ≤ 1099511627776) :
  CallsD Tryd.prog 97 #[v] w (.int .i64 (65535 - sumS ls.flatten)) := by
 refine enter Tryd.func97 rfl Tryd.ntmps97 (l := [(0, [], _)]) rfl rfl ?_
 have S := St.refl [] w
 have hby : byt ls.flatten := by obtain ⟨vs, hS, hB⟩ := hs; exact hB.byt
 have hw := wsum_bd ls.flatten true hby
 have hf := foldS_bd hw.1
 have hsd : sumS ls.flatten = foldS (wsum true ls.flatten) := rfl
 rw [← hsd] at hf
 refine Run.seq ?_
 refine Run.region ?_
 refine asg1 rfl rfl ?_
 refine Ro.nil ?_
 refine Nrm.code ?_
 refine Run.seq ?_
 refine Run.region ?_
 refine mv1 rfl rfl ?_
 refine calg (vs := [_]) rfl ⟨⟨_, _, rfl, rfl⟩, trivial⟩ k105 rfl (fun hG => c105 _ _ _ (hs.now S) hl hm) ?_
 intro w1 B_; have S := S.call B_
 refine sub1 rfl rfl rfl (w64 (by omega)) ?_
 refine asg1 rfl rfl ?_
 refine Ro.nil ?_
 refine Nrm.code ?_
 refine Run.ret ?_
 refine Rt.one rfl rfl ?_
 exact ⟨rfl, S.bl⟩
set_option maxHeartbeats 1000000 in
theorem c36 (v : Value) (ls : List (List Int)) (w : World) (hs : SS [] w v ls) (hl : ls.flatten.length ≤ 1099511627776) (hm : ls.length ≤ 1099511627776) :
  CallsD Tryd.prog 36 #[v] w (.bool (decide (sumS ls.flatten = 65535))) := by
 refine enter Tryd.func36 rfl Tryd.ntmps36 (l := [(0, [], _)]) rfl rfl ?_
 have S := St.refl [] w
 have hby : byt ls.flatten := by obtain ⟨vs, hS, hB⟩ := hs; exact hB.byt
 have hw := wsum_bd ls.flatten true hby
 have hf := foldS_bd hw.1
 have hsd : sumS ls.flatten = foldS (wsum true ls.flatten) := rfl
 rw [← hsd] at hf
 refine Run.seq ?_
 refine Run.region ?_
 refine asg1 rfl rfl ?_
 refine Ro.nil ?_
 refine Nrm.code ?_
 refine Run.seq ?_
 refine Run.region ?_
 refine mv1 rfl rfl ?_
 refine calg (vs := [_]) rfl ⟨⟨_, _, rfl, rfl⟩, trivial⟩ k105 rfl (fun hG => c105 _ _ _ (hs.now S) hl hm) ?_
 intro w1 B_; have S := S.call B_
 refine eql1 rfl rfl rfl ?_
 refine asg1 rfl rfl ?_
 refine Ro.nil ?_
 refine Nrm.code ?_
 refine Run.ret ?_
 refine Rt.one rfl rfl ?_
 exact ⟨rfl, S.bl⟩
set_option maxHeartbeats 1000000 in
theorem c157 (n : Int) (w : World) (h : 0 ≤ n ∧ n ≤ 4611686018427387904) :
  CallsD Tryd.prog 157 #[.int .i64 n] w (.int .i64 (foldS n)) := by
 refine enter Tryd.func157 rfl Tryd.ntmps157 (l := [(0, [], _)]) rfl rfl ?_
 have S := St.refl [] w
 refine Run.seq ?_
 refine Run.region ?_
 refine asg1 rfl rfl ?_
 refine Ro.nil ?_
 refine Nrm.code ?_
 refine Run.seq ?_
 refine Run.seq ?_
 refine Run.region ?_
 refine mv1 rfl rfl ?_
 refine eql1 rfl rfl rfl ?_
 refine Ro.nil ?_
 refine Nrm.code ?_
 refine Run.cond rfl (fun hc1 => ?_) (fun hc1 => ?_)
 ·
  try simp only [Bool.or_eq_true, Bool.and_eq_true, Bool.or_eq_false_iff, Bool.and_eq_false_iff, decide_eq_true_eq, decide_eq_false_iff_not, Bool.not_eq_true', Bool.not_eq_false', Bool.not_eq_true, Bool.not_eq_false] at hc1
  subst hc1
  refine Run.seq ?_
  refine Run.region ?_
  refine asg1 rfl rfl ?_
  refine Ro.nil ?_
  refine Nrm.code ?_
  refine Run.ret ?_
  refine Rt.one rfl rfl ?_
  exact ⟨rfl, S.bl⟩
 ·
  try simp only [Bool.or_eq_true, Bool.and_eq_true, Bool.or_eq_false_iff, Bool.and_eq_false_iff, decide_eq_true_eq, decide_eq_false_iff_not, Bool.not_eq_true', Bool.not_eq_false', Bool.not_eq_true, Bool.not_eq_false] at hc1
  refine Run.skip ?_
  refine Nrm.code ?_
  refine Run.seq ?_
  refine Run.region ?_
  refine mv1 rfl rfl ?_
  refine sub1 rfl rfl rfl (w64 (by omega)) ?_
  refine rem1 rfl rfl rfl (by decide) (r64 (by omega)) ?_
  refine add1 rfl rfl rfl (w64 (by omega)) ?_
  refine asg1 rfl rfl ?_
  refine Ro.nil ?_
  refine Nrm.code ?_
  refine Run.ret ?_
  refine Rt.one rfl rfl ?_
  exact ⟨by unfold foldS; rw [if_neg hc1], S.bl⟩
set_option maxHeartbeats 1000000 in
theorem c150 (v : Value) (ls : List (List Int)) (w : World) (hs : SS [] w v ls) (hl : ls.flatten.length ≤ 1099511627776) (hm : ls.length ≤ 1099511627776) :
  CallsD Tryd.prog 150 #[v] w (.int .i64 (sumS ls.flatten)) := by
 refine enter Tryd.func150 rfl Tryd.ntmps150 (l := [(0, [], _)]) rfl rfl ?_
 have S := St.refl [] w
 obtain ⟨vs, hS, hB⟩ := hs
 have hby : byt ls.flatten := hB.byt
 refine Run.seq ?_
 refine Run.region ?_
 refine asg1 rfl rfl ?_
 refine Ro.nil ?_
 refine Nrm.code ?_
 refine Run.seq ?_
 refine Run.region ?_
 refine asg1 rfl rfl ?_
 refine Ro.nil ?_
 refine Nrm.code ?_
 refine Run.seq ?_
 refine Run.region ?_
 refine asg1 rfl rfl ?_
 refine Ro.nil ?_
 refine Nrm.code ?_
 refine Run.seq ?_
 refine Run.seq ?_
 refine Run.region ?_
 refine asg1 rfl rfl ?_
 refine Ro.nil ?_
 refine Nrm.code ?_
 refine Run.block ?_
 refine Run.loop3 (fun (j : Nat) (a : Int) (n : Int) w_ => j ≤ ls.length ∧ a = (ls.take j).flatten.length ∧ n = wsum true (ls.take j).flatten ∧ St [] w [] w_) (fun (j : Nat) (a : Int) (n : Int) => [(0, [], v), (3, [], .int .i64 a), (4, [], .int .i64 n), (5, [], .int .i64 j)]) (fun (j : Nat) (a : Int) (n : Int) => ls.length - j) (0) (0) (0) ⟨Nat.zero_le _, rfl, rfl, S⟩ ⟨rfl, rfl, rfl, rfl, trivial⟩ ?_
 rintro j a n w1 ⟨hj, ha, hn, S⟩
 refine Run.seq ?_
 refine Run.seq ?_
 refine Run.region ?_
 refine mv1 rfl rfl ?_
 refine mv1 rfl rfl ?_
 refine lenS rfl hS Tryd.underlying102 rfl rfl rfl ?_
 refine lss1 rfl rfl rfl ?_
 refine Ro.nil ?_
 refine Nrm.code ?_
 refine Run.cond rfl (fun hc4 => ?_) (fun hc4 => ?_)
 ·
  try simp only [Bool.or_eq_true, Bool.and_eq_true, Bool.or_eq_false_iff, Bool.and_eq_false_iff, decide_eq_true_eq, decide_eq_false_iff_not, Bool.not_eq_true', Bool.not_eq_false', Bool.not_eq_true, Bool.not_eq_false] at hc4
  refine Run.skip ?_
  refine Nrm.code ?_
  refine Run.seq ?_
  refine Run.block ?_
  refine Run.seq ?_
  refine Run.region ?_
  refine asg1 rfl rfl ?_
  refine Ro.nil ?_
  refine Nrm.code ?_
  refine Run.block ?_
  have hjl : j < ls.length := by omega
  obtain ⟨p, hp, hpb⟩ := hB.at hjl
  have hw1 := wsum_bd (ls.take j).flatten true (fun x hx => hby x (take_flat_mem x hx))
  have hfl := flat_len_take j hjl
  refine Run.loop3 (fun (i : Nat) (a : Int) (n : Int) w_ => i ≤ (ls.getD j []).length ∧ a = (ls.take j).flatten.length + i ∧ n = wsum true (ls.take j).flatten + wsum (par true (ls.take j).flatten.length) ((ls.getD j []).take i) ∧ St [] w [] w_) (fun (i : Nat) (a : Int) (n : Int) => [(0, [], v), (3, [], .int .i64 a), (4, [], .int .i64 n), (5, [], .int .i64 j), (6, [], .int .i64 i)]) (fun (i : Nat) (a : Int) (n : Int) => (ls.getD j []).length - i) (0) (_) (_) ⟨Nat.zero_le _, by rw [ha]; simp, by rw [hn]; simp [wsum], S⟩ ⟨rfl, rfl, rfl, rfl, rfl, trivial⟩ ?_
  rintro i a n w2 ⟨hi, ha2, hq2, S⟩
  have hw2 := wsum_bd ((ls.getD j []).take i) (par true (ls.take j).flatten.length) (fun x hx => hpb.1 x (List.mem_of_mem_take hx))
  rw [List.length_take, Nat.min_eq_left hi] at hw2
  refine Run.seq ?_
  refine Run.seq ?_
  refine Run.region ?_
  refine mv1 rfl rfl ?_
  refine mv1 rfl rfl ?_
  refine mv1 rfl rfl ?_
  refine ixa rfl rfl hS e102 rfl rfl rfl rfl (fun _ => by omega) ?_
  refine ldE rfl hS S T26 rfl rfl rfl (fun _ => by simpa using hp) ?_
  refine lenS rfl hpb.2 Tryd.underlying26 rfl rfl rfl ?_
  refine lss1 rfl rfl rfl ?_
  refine Ro.nil ?_
  refine Nrm.code ?_
  refine Run.cond rfl (fun hc7 => ?_) (fun hc7 => ?_)
  ·
   try simp only [Bool.or_eq_true, Bool.and_eq_true, Bool.or_eq_false_iff, Bool.and_eq_false_iff, decide_eq_true_eq, decide_eq_false_iff_not, Bool.not_eq_true', Bool.not_eq_false', Bool.not_eq_true, Bool.not_eq_false] at hc7
   refine Run.skip ?_
   refine Nrm.code ?_
   refine Run.seq ?_
   refine Run.block ?_
   refine Run.seq ?_
   refine Run.region ?_
   refine mv1 rfl rfl ?_
   refine mv1 rfl rfl ?_
   refine ixa rfl rfl hS e102 rfl rfl rfl rfl (fun _ => by omega) ?_
   refine ldE rfl hS S T26 rfl rfl rfl (fun _ => by simpa using hp) ?_
   refine mv1 rfl rfl ?_
   refine ixa rfl rfl hpb.2 e26 rfl rfl rfl rfl (fun _ => by omega) ?_
   refine ldB rfl hpb S T5 rfl rfl rfl (fun _ => by omega) ?_
   intro q29 hq29 hbq29
   try simp only [Int.toNat_natCast, Nat.mul_one] at hq29
   refine cvi1 rfl rfl Tryd.underlying5 Tryd.underlying3 (w64 (by omega)) ?_
   refine asg1 rfl rfl ?_
   refine Ro.nil ?_
   refine Nrm.code ?_
   refine Run.seq ?_
   refine Run.seq ?_
   refine Run.region ?_
   refine mv1 rfl rfl ?_
   refine rem1 rfl rfl rfl (by decide) (r64 (by omega)) ?_
   refine eql1 rfl rfl rfl ?_
   refine Ro.nil ?_
   refine Nrm.code ?_
   refine Run.cond rfl (fun hc10 => ?_) (fun hc10 => ?_)
   ·
    try simp only [Bool.or_eq_true, Bool.and_eq_true, Bool.or_eq_false_iff, Bool.and_eq_false_iff, decide_eq_true_eq, decide_eq_false_iff_not, Bool.not_eq_true', Bool.not_eq_false', Bool.not_eq_true, Bool.not_eq_false] at hc10
    have hpar : par true ((ls.take j).flatten.length + i) = true := by unfold par; rw [if_pos (by omega)]
    refine Run.region ?_
    refine mv1 rfl rfl ?_
    refine mul1 rfl rfl rfl (w64 (by omega)) ?_
    refine asg1 rfl rfl ?_
    refine Ro.nil ?_
    refine Nrm.code ?_
    refine Run.seq ?_
    refine Run.region ?_
    refine mv1 rfl rfl ?_
    refine mv1 rfl rfl ?_
    refine add1 rfl rfl rfl (w64 (by omega)) ?_
    refine asg1 rfl rfl ?_
    refine Ro.nil ?_
    refine Nrm.code ?_
    refine Run.region ?_
    refine mv1 rfl rfl ?_
    refine add1 rfl rfl rfl (w64 (by omega)) ?_
    refine asg1 rfl rfl ?_
    refine Ro.nil ?_
    refine Nrm.blk ?_
    refine Nrm.code ?_
    refine Run.region ?_
    refine mv1 rfl rfl ?_
    refine add1 rfl rfl rfl (w64 (by omega)) ?_
    refine asg1 rfl rfl ?_
    refine Ro.nil ?_
    refine Nrm.loop3 (i + 1) (_) (_) ⟨by omega, by rw [ha2]; omega, by
      rw [getD_take_succ (by omega), wsum_app, List.length_take, Nat.min_eq_left hi, hq2, ← hq29, par_par, hpar]; simp [wsum]; omega, S⟩ (by omega) ⟨rfl, rfl, rfl, rfl, rfl, trivial⟩
   ·
    try simp only [Bool.or_eq_true, Bool.and_eq_true, Bool.or_eq_false_iff, Bool.and_eq_false_iff, decide_eq_true_eq, decide_eq_false_iff_not, Bool.not_eq_true', Bool.not_eq_false', Bool.not_eq_true, Bool.not_eq_false] at hc10
    have hpar : par true ((ls.take j).flatten.length + i) = false := by unfold par; rw [if_neg (by omega)]; rfl
    refine Run.skip ?_
    refine Nrm.code ?_
    refine Run.seq ?_
    refine Run.region ?_
    refine mv1 rfl rfl ?_
    refine mv1 rfl rfl ?_
    refine add1 rfl rfl rfl (w64 (by omega)) ?_
    refine asg1 rfl rfl ?_
    refine Ro.nil ?_
    refine Nrm.code ?_
    refine Run.region ?_
    refine mv1 rfl rfl ?_
    refine add1 rfl rfl rfl (w64 (by omega)) ?_
    refine asg1 rfl rfl ?_
    refine Ro.nil ?_
    refine Nrm.blk ?_
    refine Nrm.code ?_
    refine Run.region ?_
    refine mv1 rfl rfl ?_
    refine add1 rfl rfl rfl (w64 (by omega)) ?_
    refine asg1 rfl rfl ?_
    refine Ro.nil ?_
    refine Nrm.loop3 (i + 1) (_) (_) ⟨by omega, by rw [ha2]; omega, by
      rw [getD_take_succ (by omega), wsum_app, List.length_take, Nat.min_eq_left hi, hq2, ← hq29, par_par, hpar]; simp [wsum]; omega, S⟩ (by omega) ⟨rfl, rfl, rfl, rfl, rfl, trivial⟩
  ·
   try simp only [Bool.or_eq_true, Bool.and_eq_true, Bool.or_eq_false_iff, Bool.and_eq_false_iff, decide_eq_true_eq, decide_eq_false_iff_not, Bool.not_eq_true', Bool.not_eq_false', Bool.not_eq_true, Bool.not_eq_false] at hc7
   have hi' : i = (ls.getD j []).length := by omega
   subst hi'; rw [List.take_length] at hq2 hw2
   refine Run.exit ?_
   refine Lv.code ?_
   refine Lv.back ?_
   refine Lv.hit ?_
   refine Nrm.blk ?_
   refine Nrm.code ?_
   refine Run.region ?_
   refine mv1 rfl rfl ?_
   refine add1 rfl rfl rfl (w64 (by omega)) ?_
   refine asg1 rfl rfl ?_
   refine Ro.nil ?_
   refine Nrm.loop3 (j + 1) (_) (_) ⟨by omega, by
     rw [flat_take_succ hjl, List.length_append]; omega, by
     rw [flat_take_succ hjl, wsum_app, hq2], S⟩ (by omega) ⟨rfl, rfl, rfl, rfl, trivial⟩
 ·
  try simp only [Bool.or_eq_true, Bool.and_eq_true, Bool.or_eq_false_iff, Bool.and_eq_false_iff, decide_eq_true_eq, decide_eq_false_iff_not, Bool.not_eq_true', Bool.not_eq_false', Bool.not_eq_true, Bool.not_eq_false] at hc4
  refine Run.exit ?_
  refine Lv.code ?_
  refine Lv.back ?_
  refine Lv.hit ?_
  refine Nrm.code ?_
  refine Run.seq ?_
  refine Run.region ?_
  refine mv1 rfl rfl ?_
  have hwt := wsum_bd (ls.take j).flatten true (fun x hx => hby x (take_flat_mem x hx))
  have e : j = ls.length := by omega
  rw [e, List.take_length] at hwt hn
  refine calg (vs := [_]) rfl ⟨⟨_, _, rfl, rfl⟩, trivial⟩ k157 rfl (fun hG => c157 _ _ (by omega)) ?_
  intro w2 B_; have S := S.call B_
  refine asg1 rfl rfl ?_
  refine Ro.nil ?_
  refine Nrm.code ?_
  refine Run.ret ?_
  refine Rt.one rfl rfl ?_
  exact ⟨by rw [hn]; rfl, S.bl⟩
set_option maxHeartbeats 1000000 in
theorem c117 (v : Value) (ls : List (List Int)) (w : World) (hs : SS [] w v ls) (hl : ls.flatten.length ≤ 1099511627776) (hm : ls.length ≤ 1099511627776) :
  CallsD Tryd.prog 117 #[v] w (.int .i64 (65535 - sumS ls.flatten)) := by
 refine enter Tryd.func117 rfl Tryd.ntmps117 (l := [(0, [], _)]) rfl rfl ?_
 have S := St.refl [] w
 have hby : byt ls.flatten := by obtain ⟨vs, hS, hB⟩ := hs; exact hB.byt
 have hw := wsum_bd ls.flatten true hby
 have hf := foldS_bd hw.1
 have hsd : sumS ls.flatten = foldS (wsum true ls.flatten) := rfl
 rw [← hsd] at hf
 refine Run.seq ?_
 refine Run.region ?_
 refine asg1 rfl rfl ?_
 refine Ro.nil ?_
 refine Nrm.code ?_
 refine Run.seq ?_
 refine Run.region ?_
 refine mv1 rfl rfl ?_
 refine calg (vs := [_]) rfl ⟨⟨_, _, rfl, rfl⟩, trivial⟩ k150 rfl (fun hG => c150 _ _ _ (hs.now S) hl hm) ?_
 intro w1 B_; have S := S.call B_
 refine sub1 rfl rfl rfl (w64 (by omega)) ?_
 refine asg1 rfl rfl ?_
 refine Ro.nil ?_
 refine Nrm.code ?_
 refine Run.ret ?_
 refine Rt.one rfl rfl ?_
 exact ⟨rfl, S.bl⟩
set_option maxHeartbeats 1000000 in
theorem c112 (v : Value) (ls : List (List Int)) (w : World) (hs : SS [] w v ls) (hl : ls.flatten.length ≤ 1099511627776) (hm : ls.length ≤ 1099511627776) :
  CallsD Tryd.prog 112 #[v] w (.bool (decide (sumS ls.flatten = 65535))) := by
 refine enter Tryd.func112 rfl Tryd.ntmps112 (l := [(0, [], _)]) rfl rfl ?_
 have S := St.refl [] w
 have hby : byt ls.flatten := by obtain ⟨vs, hS, hB⟩ := hs; exact hB.byt
 have hw := wsum_bd ls.flatten true hby
 have hf := foldS_bd hw.1
 have hsd : sumS ls.flatten = foldS (wsum true ls.flatten) := rfl
 rw [← hsd] at hf
 refine Run.seq ?_
 refine Run.region ?_
 refine asg1 rfl rfl ?_
 refine Ro.nil ?_
 refine Nrm.code ?_
 refine Run.seq ?_
 refine Run.region ?_
 refine mv1 rfl rfl ?_
 refine calg (vs := [_]) rfl ⟨⟨_, _, rfl, rfl⟩, trivial⟩ k150 rfl (fun hG => c150 _ _ _ (hs.now S) hl hm) ?_
 intro w1 B_; have S := S.call B_
 refine eql1 rfl rfl rfl ?_
 refine asg1 rfl rfl ?_
 refine Ro.nil ?_
 refine Nrm.code ?_
 refine Run.ret ?_
 refine Rt.one rfl rfl ?_
 exact ⟨rfl, S.bl⟩
set_option maxHeartbeats 1000000 in
theorem c109 (c o n : Int) (w : World) (h1 : 0 ≤ c ∧ c ≤ 65535) (h2 : 0 ≤ o ∧ o ≤ 65535) (h3 : 0 ≤ n ∧ n ≤ 65535) :
    CallsD Tryd.prog 109 #[.int .i64 c, .int .i64 o, .int .i64 n] w (.tuple #[.int .i64 (65535 - foldS (65535 - c + 65535 - o + n)), .int .i64 0]) := by
  refine enter Tryd.func109 rfl Tryd.ntmps109 (l := [(0, [], _), (1, [], _), (2, [], _)]) rfl rfl ?_
  have S := St.refl [] w
  refine Run.seq ?_
  refine Run.region ?_
  refine asg1 rfl rfl ?_
  refine asg1 rfl rfl ?_
  refine Ro.nil ?_
  refine Nrm.code ?_
  refine Run.seq ?_
  refine Run.seq ?_
  refine Run.region ?_
  refine mv1 rfl rfl ?_
  refine mv1 rfl rfl ?_
  refine mv1 rfl rfl ?_
  refine bldA rfl (sz := 1) (E := 3) (m := 3) Tryd.underlying181 T181 T3 (qs := [(_, _), (_, _), (_, _)]) ⟨⟨_, _, _, rfl, rfl, rfl, rfl, by simp [Value.cells]⟩, ⟨_, _, _, rfl, rfl, rfl, rfl, by simp [Value.cells]⟩, ⟨_, _, _, rfl, rfl, rfl, rfl, by simp [Value.cells]⟩, trivial⟩ rfl rfl ?_
  refine mv1 rfl rfl ?_
  refine Ro.nil ?_
  refine Nrm.code ?_
  refine Run.block ?_
  refine Run.loop1 (fun (i : Nat) w_ => i ≤ 3 ∧ St [] w [] w_) (fun (i : Nat) => [(0, [], .int .i64 c), (1, [], .int .i64 o), (2, [], .int .i64 n), (13, [], .agg #[.int .i64 c, .int .i64 o, .int .i64 n]), (14, [], .int .i64 i)]) (fun (i : Nat) => 3 - i) (0) ⟨Nat.zero_le _, S⟩ ⟨rfl, rfl, rfl, rfl, rfl, trivial⟩ ?_
  rintro i w1 ⟨hi, S⟩
  refine Run.seq ?_
  refine Run.region ?_
  refine lss1 rfl rfl rfl ?_
  refine Ro.nil ?_
  refine Nrm.code ?_
  refine Run.seq ?_
  refine Run.cond rfl (fun hc2 => ?_) (fun hc2 => ?_)
  ·
    try simp only [Bool.or_eq_true, Bool.and_eq_true, Bool.or_eq_false_iff, Bool.and_eq_false_iff, decide_eq_true_eq, decide_eq_false_iff_not, Bool.not_eq_true', Bool.not_eq_false', Bool.not_eq_true, Bool.not_eq_false] at hc2
    refine Run.skip ?_
    refine Nrm.code ?_
    refine Run.seq ?_
    refine Run.block ?_
    refine Run.seq ?_
    refine Run.region ?_
    obtain ⟨z, hz, hzb⟩ : ∃ z, (#[(.int .i64 c : Value), .int .i64 o, .int .i64 n])[i]? = some (.int .i64 z) ∧ 0 ≤ z ∧ z ≤ 65535 := by
      rcases i with _ | _ | _ | i
      · exact ⟨c, rfl, h1⟩
      · exact ⟨o, rfl, h2⟩
      · exact ⟨n, rfl, h3⟩
      · omega
    refine ixv rfl rfl Tryd.underlying181 T3 rfl (by omega) hz ?_
    refine asg1 rfl rfl ?_
    refine Ro.nil ?_
    refine Nrm.code ?_
    refine Run.seq ?_
    refine Run.region ?_
    refine mv1 rfl rfl ?_
    refine lss1 rfl rfl rfl ?_
    refine mv1 rfl rfl ?_
    refine mv rfl rfl rfl rfl ?_
    refine gtr rfl rfl rfl rfl rfl rfl ?_
    refine pkO rfl rfl rfl rfl rfl rfl ?_
    refine Ro.nil ?_
    refine Nrm.code ?_
    refine Run.cond rfl (fun hc4 => ?_) (fun hc4 => ?_)
    ·
      try simp only [Bool.or_eq_true, Bool.and_eq_true, Bool.or_eq_false_iff, Bool.and_eq_false_iff, decide_eq_true_eq, decide_eq_false_iff_not, Bool.not_eq_true', Bool.not_eq_false', Bool.not_eq_true, Bool.not_eq_false] at hc4
      exfalso; omega
    ·
      try simp only [Bool.or_eq_true, Bool.and_eq_true, Bool.or_eq_false_iff, Bool.and_eq_false_iff, decide_eq_true_eq, decide_eq_false_iff_not, Bool.not_eq_true', Bool.not_eq_false', Bool.not_eq_true, Bool.not_eq_false] at hc4
      refine Run.skip ?_
      refine Nrm.blk ?_
      refine Nrm.code ?_
      refine Run.region ?_
      refine add1 rfl rfl rfl (w64 (by omega)) ?_
      refine mv1 rfl rfl ?_
      refine Ro.nil ?_
      refine Nrm.loop1 (i + 1) ⟨by omega, S⟩ (by omega) ⟨rfl, rfl, rfl, rfl, rfl, trivial⟩
  ·
    try simp only [Bool.or_eq_true, Bool.and_eq_true, Bool.or_eq_false_iff, Bool.and_eq_false_iff, decide_eq_true_eq, decide_eq_false_iff_not, Bool.not_eq_true', Bool.not_eq_false', Bool.not_eq_true, Bool.not_eq_false] at hc2
    refine Run.exit ?_
    refine Lv.code ?_
    refine Lv.back ?_
    refine Lv.hit ?_
    refine Nrm.code ?_
    refine Run.seq ?_
    refine Run.region ?_
    refine mv1 rfl rfl ?_
    refine sub1 rfl rfl rfl (w64 (by omega)) ?_
    refine add1 rfl rfl rfl (w64 (by omega)) ?_
    refine mv1 rfl rfl ?_
    refine sub1 rfl rfl rfl (w64 (by omega)) ?_
    refine mv1 rfl rfl ?_
    refine add1 rfl rfl rfl (w64 (by omega)) ?_
    refine calg (vs := [_]) rfl ⟨⟨_, _, rfl, rfl⟩, trivial⟩ k144 rfl (fun hG => c144 _ _ (by omega)) ?_
    intro w2 B_; have S := S.call B_
    have hfb := foldS_bd (n := 65535 - c + 65535 - o + n) (by omega)
    refine sub1 rfl rfl rfl (w64 (by omega)) ?_
    refine asg1 rfl rfl ?_
    refine asg1 rfl rfl ?_
    refine Ro.nil ?_
    refine Nrm.code ?_
    refine Run.ret ?_
    refine Rt.two rfl rfl rfl ?_
    exact ⟨rfl, S.bl⟩
set_option maxHeartbeats 1000000 in
theorem c37 (v u : Value) (a b : List Int) (w : World) (ha : BS [] w v a) (hb : BS [] w u b) :
  CallsD Tryd.prog 37 #[v, u] w (.bool (decide (a = b))) := by
 refine enter Tryd.func37 rfl Tryd.ntmps37 (l := [(0, [], _), (1, [], _)]) rfl rfl ?_
 have S := St.refl [] w
 refine Run.seq ?_
 refine Run.region ?_
 refine asg1 rfl rfl ?_
 refine Ro.nil ?_
 refine Nrm.code ?_
 refine Run.seq ?_
 refine Run.region ?_
 refine mv1 rfl rfl ?_
 refine cvS rfl ha S e26 Tryd.underlying5 Tryd.underlying9 rfl rfl rfl ?_
 refine mv1 rfl rfl ?_
 refine cvS rfl hb S e26 Tryd.underlying5 Tryd.underlying9 rfl rfl rfl ?_
 refine eqS rfl rfl ha.1 hb.1 rfl rfl rfl rfl ?_
 refine asg1 rfl rfl ?_
 refine Ro.nil ?_
 refine Nrm.code ?_
 refine Run.ret ?_
 refine Rt.one rfl rfl ?_
 exact ⟨rfl, S.bl⟩
set_option maxHeartbeats 1000000 in
theorem c104 (v u : Value) (a b : List Int) (w : World) (ha : BS [] w v a) (hb : BS [] w u b) :
  CallsD Tryd.prog 104 #[v, u] w (.bool (decide (a = b))) := by
 refine enter Tryd.func104 rfl Tryd.ntmps104 (l := [(0, [], _), (1, [], _)]) rfl rfl ?_
 have S := St.refl [] w
 refine Run.seq ?_
 refine Run.region ?_
 refine asg1 rfl rfl ?_
 refine Ro.nil ?_
 refine Nrm.code ?_
 refine Run.seq ?_
 refine Run.region ?_
 refine mv1 rfl rfl ?_
 refine cvS rfl ha S e26 Tryd.underlying5 Tryd.underlying9 rfl rfl rfl ?_
 refine mv1 rfl rfl ?_
 refine cvS rfl hb S e26 Tryd.underlying5 Tryd.underlying9 rfl rfl rfl ?_
 refine eqS rfl rfl ha.1 hb.1 rfl rfl rfl rfl ?_
 refine asg1 rfl rfl ?_
 refine Ro.nil ?_
 refine Nrm.code ?_
 refine Run.ret ?_
 refine Rt.one rfl rfl ?_
 exact ⟨rfl, S.bl⟩
set_option maxHeartbeats 1000000 in
theorem c39 (v : Value) (a : List Int) (w : World) (ha : BS [] w v a) (hl : a.length ≤ 140737488355328) :
  CallsV Tryd.prog 39 #[v] w (fun r w' => FB w w' r a) := by
 refine enter Tryd.func39 rfl Tryd.ntmps39 (l := [(0, [], _)]) rfl rfl ?_
 have S := St.refl [] w
 refine Run.seq ?_
 refine Run.region ?_
 refine asg1 rfl rfl ?_
 refine Ro.nil ?_
 refine Nrm.code ?_
 refine Run.seq ?_
 refine Run.region ?_
 refine asg1 rfl rfl ?_
 have S := S.nilB
 refine Ro.nil ?_
 refine Nrm.code ?_
 refine Run.seq ?_
 refine Run.region ?_
 refine mv1 rfl rfl ?_
 refine mv1 rfl rfl ?_
 refine apB rfl rfl e26 (ha.now S) S (i := 0) rfl rfl (fun _ => rfl) (by first | omega | (simp only [List.length_nil, List.length_append, List.length_cons]; omega)) ?_
 intro v6 w1 S B_
 refine asg1 rfl rfl ?_
 refine Ro.nil ?_
 refine Nrm.code ?_
 refine Run.ret ?_
 refine Rt.one rfl rfl ?_
 exact S.toFB (i := 0) rfl
set_option maxHeartbeats 1000000 in
theorem c143 (v : Value) (a : List Int) (i : Int) (w : World) (ha : BS [] w v a) (hi : 0 ≤ i ∧ i < a.length) (hl : a.length ≤ 1099511627776) :
  CallsD Tryd.prog 143 #[v, .int .i64 i] w (.int .u8 (a.getD i.toNat 0)) := by
 refine enter Tryd.func143 rfl Tryd.ntmps143 (l := [(0, [], _), (1, [], _)]) rfl rfl ?_
 have S := St.refl [] w
 refine Run.seq ?_
 refine Run.region ?_
 refine asg1 rfl rfl ?_
 refine Ro.nil ?_
 refine Nrm.code ?_
 refine Run.seq ?_
 refine Run.seq ?_
 refine Run.region ?_
 refine mv1 rfl rfl ?_
 refine lss1 rfl rfl rfl ?_
 refine mv1 rfl rfl ?_
 refine mv rfl rfl rfl rfl ?_
 refine mv rfl rfl rfl rfl ?_
 refine lenS rfl ha.2 Tryd.underlying26 rfl rfl rfl ?_
 refine geq rfl rfl rfl rfl rfl rfl ?_
 refine pkO rfl rfl rfl rfl rfl rfl ?_
 refine Ro.nil ?_
 refine Nrm.code ?_
 refine Run.cond rfl (fun hc1 => ?_) (fun hc1 => ?_)
 ·
  try simp only [Bool.or_eq_true, Bool.and_eq_true, Bool.or_eq_false_iff, Bool.and_eq_false_iff, decide_eq_true_eq, decide_eq_false_iff_not, Bool.not_eq_true', Bool.not_eq_false', Bool.not_eq_true, Bool.not_eq_false] at hc1
  exfalso; omega
 ·
  try simp only [Bool.or_eq_true, Bool.and_eq_true, Bool.or_eq_false_iff, Bool.and_eq_false_iff, decide_eq_true_eq, decide_eq_false_iff_not, Bool.not_eq_true', Bool.not_eq_false', Bool.not_eq_true, Bool.not_eq_false] at hc1
  refine Run.skip ?_
  refine Nrm.code ?_
  refine Run.seq ?_
  refine Run.region ?_
  refine mv1 rfl rfl ?_
  refine mv1 rfl rfl ?_
  refine ixa rfl rfl ha.2 e26 rfl rfl rfl rfl (fun _ => by omega) ?_
  refine ldB rfl ha S T5 rfl rfl rfl (fun _ => by omega) ?_
  intro q18 hq18 hbq18
  try simp only [Int.toNat_natCast, Nat.mul_one] at hq18
  refine asg1 rfl rfl ?_
  refine Ro.nil ?_
  refine Nrm.code ?_
  refine Run.ret ?_
  refine Rt.one rfl rfl ?_
  exact ⟨by rw [hq18], S.bl⟩
set_option maxHeartbeats 1000000 in
theorem c142 (v : Value) (a : List Int) (i m : Nat) (w : World) (ha : BS [] w v a) (hi : i + m ≤ a.length) (hl : a.length ≤ 1099511627776) :
  CallsD Tryd.prog 142 #[v, .int .i64 i, .int .i64 m] w (cut v i (i + m) (i + m)) := by
 refine enter Tryd.func142 rfl Tryd.ntmps142 (l := [(0, [], _), (1, [], _), (2, [], _)]) rfl rfl ?_
 have S := St.refl [] w
 refine Run.seq ?_
 refine Run.region ?_
 refine asg1 rfl rfl ?_
 refine Ro.nil ?_
 refine Nrm.code ?_
 refine Run.seq ?_
 refine Run.seq ?_
 refine Run.region ?_
 refine mv1 rfl rfl ?_
 refine lss1 rfl rfl rfl ?_
 refine mv1 rfl rfl ?_
 refine mv rfl rfl rfl rfl ?_
 refine mv rfl rfl rfl rfl ?_
 refine lenS rfl ha.2 Tryd.underlying26 rfl rfl rfl ?_
 refine gtr rfl rfl rfl rfl rfl rfl ?_
 refine pkO rfl rfl rfl rfl rfl rfl ?_
 refine mv1 rfl rfl ?_
 refine mv rfl rfl rfl rfl ?_
 refine mv rfl rfl rfl rfl ?_
 refine lenS rfl ha.2 Tryd.underlying26 rfl rfl rfl ?_
 refine mv rfl rfl rfl rfl ?_
 refine sub rfl rfl rfl rfl rfl rfl (fun hG => by first | exact w64 (by omega) | (simp [allT] at hG; exact w64 (by omega))) ?_
 refine gtr rfl rfl rfl rfl rfl rfl ?_
 refine pkO rfl rfl rfl rfl rfl rfl ?_
 refine Ro.nil ?_
 refine Nrm.code ?_
 refine Run.cond rfl (fun hc1 => ?_) (fun hc1 => ?_)
 ·
  try simp only [Bool.or_eq_true, Bool.and_eq_true, Bool.or_eq_false_iff, Bool.and_eq_false_iff, decide_eq_true_eq, decide_eq_false_iff_not, Bool.not_eq_true', Bool.not_eq_false', Bool.not_eq_true, Bool.not_eq_false] at hc1
  exfalso; omega
 ·
  try simp only [Bool.or_eq_true, Bool.and_eq_true, Bool.or_eq_false_iff, Bool.and_eq_false_iff, decide_eq_true_eq, decide_eq_false_iff_not, Bool.not_eq_true', Bool.not_eq_false', Bool.not_eq_true, Bool.not_eq_false] at hc1
  refine Run.skip ?_
  refine Nrm.code ?_
  refine Run.seq ?_
  refine Run.region ?_
  refine mv1 rfl rfl ?_
  refine mv1 rfl rfl ?_
  refine mv1 rfl rfl ?_
  refine mv1 rfl rfl ?_
  refine add1 rfl rfl rfl (w64 (by omega)) ?_
  refine mv1 rfl rfl ?_
  refine mv1 rfl rfl ?_
  refine add1 rfl rfl rfl (w64 (by omega)) ?_
  refine slC (lo := i) (hi := i + m) (mx := i + m) rfl ha e26 rfl rfl rfl (i1 := some (i)) (i2 := some (i + m)) (i3 := some (i + m)) ⟨_, _, _, rfl, rfl⟩ ⟨_, _, _, rfl, rfl⟩ ⟨_, _, _, rfl, rfl⟩ rfl rfl rfl (fun h => by first | rfl | cases h) (fun hG => by (try simp [allT] at hG); have hcap := ha.cap; omega) ?_
  have hr := ha.cut (lo := i) (hi := i + m) (mx := i + m) (by have hcap := ha.cap; omega)
  refine asg1 rfl rfl ?_
  refine Ro.nil ?_
  refine Nrm.code ?_
  refine Run.ret ?_
  refine Rt.one rfl rfl ?_
  exact ⟨rfl, S.bl⟩
set_option maxHeartbeats 1000000 in
theorem c140 (v : Value) (ws : List Int) (w : World) (hv : IS [] w v ws) (hw : ∀ x ∈ ws, 1 ≤ x ∧ x ≤ 32) (hl : ws.length ≤ 64) (h8 : ws.sum % 8 = 0) :
  CallsD Tryd.prog 140 #[v] w (.tuple #[.int .i64 (ws.sum / 8), .int .i64 0]) := by
 refine enter Tryd.func140 rfl Tryd.ntmps140 (l := [(0, [], _)]) rfl rfl ?_
 have S := St.refl [] w
 refine Run.seq ?_
 refine Run.region ?_
 refine asg1 rfl rfl ?_
 refine asg1 rfl rfl ?_
 refine Ro.nil ?_
 refine Nrm.code ?_
 refine Run.seq ?_
 refine Run.seq ?_
 refine Run.region ?_
 refine mv1 rfl rfl ?_
 refine lenS rfl hv Tryd.underlying132 rfl rfl rfl ?_
 refine gtr1 rfl rfl rfl ?_
 refine Ro.nil ?_
 refine Nrm.code ?_
 refine Run.cond rfl (fun hc1 => ?_) (fun hc1 => ?_)
 ·
  try simp only [Bool.or_eq_true, Bool.and_eq_true, Bool.or_eq_false_iff, Bool.and_eq_false_iff, decide_eq_true_eq, decide_eq_false_iff_not, Bool.not_eq_true', Bool.not_eq_false', Bool.not_eq_true, Bool.not_eq_false] at hc1
  exfalso; omega
 ·
  try simp only [Bool.or_eq_true, Bool.and_eq_true, Bool.or_eq_false_iff, Bool.and_eq_false_iff, decide_eq_true_eq, decide_eq_false_iff_not, Bool.not_eq_true', Bool.not_eq_false', Bool.not_eq_true, Bool.not_eq_false] at hc1
  refine Run.skip ?_
  refine Nrm.code ?_
  refine Run.seq ?_
  refine Run.region ?_
  refine asg1 rfl rfl ?_
  refine Ro.nil ?_
  refine Nrm.code ?_
  refine Run.seq ?_
  refine Run.seq ?_
  refine Run.region ?_
  refine mv1 rfl rfl ?_
  refine lenS rfl hv Tryd.underlying132 rfl rfl rfl ?_
  refine mv1 rfl rfl ?_
  refine Ro.nil ?_
  refine Nrm.code ?_
  refine Run.block ?_
  refine Run.loop2 (fun (i : Nat) (s : Int) w_ => i ≤ ws.length ∧ s = (ws.take i).sum ∧ St [] w [] w_) (fun (i : Nat) (s : Int) => [(4, [], .int .i64 s), (10, [], v), (11, [], .int .i64 ws.length), (12, [], .int .i64 i)]) (fun (i : Nat) (s : Int) => ws.length - i) (0) (0) ⟨Nat.zero_le _, rfl, S⟩ ⟨rfl, rfl, rfl, rfl, trivial⟩ ?_
  rintro i s w1 ⟨hi, hs, S⟩
  have hsb := sum_take_bd hw i
  refine Run.seq ?_
  refine Run.region ?_
  refine lss1 rfl rfl rfl ?_
  refine Ro.nil ?_
  refine Nrm.code ?_
  refine Run.seq ?_
  refine Run.cond rfl (fun hc5 => ?_) (fun hc5 => ?_)
  ·
   try simp only [Bool.or_eq_true, Bool.and_eq_true, Bool.or_eq_false_iff, Bool.and_eq_false_iff, decide_eq_true_eq, decide_eq_false_iff_not, Bool.not_eq_true', Bool.not_eq_false', Bool.not_eq_true, Bool.not_eq_false] at hc5
   refine Run.skip ?_
   refine Nrm.code ?_
   refine Run.seq ?_
   refine Run.block ?_
   refine Run.seq ?_
   refine Run.region ?_
   refine ixa rfl rfl hv e132 rfl rfl rfl rfl (fun _ => by omega) ?_
   refine ldI rfl hv S T3 rfl rfl rfl (fun _ => by omega) ?_
   intro q15 hq15
   try simp only [Int.toNat_natCast, Nat.mul_one] at hq15
   refine asg1 rfl rfl ?_
   refine Ro.nil ?_
   refine Nrm.code ?_
   refine Run.seq ?_
   refine Run.seq ?_
   refine Run.region ?_
   refine mv1 rfl rfl ?_
   refine lss1 rfl rfl rfl ?_
   refine mv1 rfl rfl ?_
   refine mv rfl rfl rfl rfl ?_
   refine gtr rfl rfl rfl rfl rfl rfl ?_
   refine pkO rfl rfl rfl rfl rfl rfl ?_
   refine Ro.nil ?_
   refine Nrm.code ?_
   refine Run.cond rfl (fun hc7 => ?_) (fun hc7 => ?_)
   ·
    try simp only [Bool.or_eq_true, Bool.and_eq_true, Bool.or_eq_false_iff, Bool.and_eq_false_iff, decide_eq_true_eq, decide_eq_false_iff_not, Bool.not_eq_true', Bool.not_eq_false', Bool.not_eq_true, Bool.not_eq_false] at hc7
    exfalso; (have hwi := hw _ (getD_mem (d := 0) (show i < ws.length by omega)); omega)
   ·
    try simp only [Bool.or_eq_true, Bool.and_eq_true, Bool.or_eq_false_iff, Bool.and_eq_false_iff, decide_eq_true_eq, decide_eq_false_iff_not, Bool.not_eq_true', Bool.not_eq_false', Bool.not_eq_true, Bool.not_eq_false] at hc7
    refine Run.skip ?_
    refine Nrm.code ?_
    refine Run.region ?_
    refine mv1 rfl rfl ?_
    refine mv1 rfl rfl ?_
    have hwi := hw _ (getD_mem (d := 0) (show i < ws.length by omega))
    refine add1 rfl rfl rfl (w64 (by omega)) ?_
    refine asg1 rfl rfl ?_
    refine Ro.nil ?_
    refine Nrm.blk ?_
    refine Nrm.code ?_
    refine Run.region ?_
    refine add1 rfl rfl rfl (w64 (by omega)) ?_
    refine mv1 rfl rfl ?_
    refine Ro.nil ?_
    refine Nrm.loop2 (i + 1) (_) ⟨by omega, by rw [sum_take_succ (by omega), hs, hq15], S⟩ (by omega) ⟨rfl, rfl, rfl, rfl, trivial⟩
  ·
   try simp only [Bool.or_eq_true, Bool.and_eq_true, Bool.or_eq_false_iff, Bool.and_eq_false_iff, decide_eq_true_eq, decide_eq_false_iff_not, Bool.not_eq_true', Bool.not_eq_false', Bool.not_eq_true, Bool.not_eq_false] at hc5
   refine Run.exit ?_
   refine Lv.code ?_
   refine Lv.back ?_
   refine Lv.hit ?_
   refine Nrm.code ?_
   refine Run.seq ?_
   refine Run.seq ?_
   refine Run.region ?_
   refine mv1 rfl rfl ?_
   refine rem1 rfl rfl rfl (by decide) (r64 (by omega)) ?_
   refine neq1 rfl rfl rfl ?_
   refine Ro.nil ?_
   refine Nrm.code ?_
   refine Run.cond rfl (fun hc11 => ?_) (fun hc11 => ?_)
   ·
    try simp only [Bool.or_eq_true, Bool.and_eq_true, Bool.or_eq_false_iff, Bool.and_eq_false_iff, decide_eq_true_eq, decide_eq_false_iff_not, Bool.not_eq_true', Bool.not_eq_false', Bool.not_eq_true, Bool.not_eq_false] at hc11
    exfalso; (have e : i = ws.length := by omega); rw [hs, e, List.take_length] at hc11; omega
   ·
    try simp only [Bool.or_eq_true, Bool.and_eq_true, Bool.or_eq_false_iff, Bool.and_eq_false_iff, decide_eq_true_eq, decide_eq_false_iff_not, Bool.not_eq_true', Bool.not_eq_false', Bool.not_eq_true, Bool.not_eq_false] at hc11
    refine Run.skip ?_
    refine Nrm.code ?_
    refine Run.seq ?_
    refine Run.region ?_
    refine mv1 rfl rfl ?_
    refine quo1 rfl rfl rfl (by decide) (q64 (by omega)) ?_
    refine asg1 rfl rfl ?_
    refine asg1 rfl rfl ?_
    refine Ro.nil ?_
    refine Nrm.code ?_
    refine Run.ret ?_
    refine Rt.two rfl rfl rfl ?_
    have e : i = ws.length := by omega
    exact ⟨by rw [hs, e, List.take_length], S.bl⟩
end Go.Proofs.YtkahmepenjhcpaaDoor.W
/- Plain facts on the bits of bytes. No program here; no statement of the seat is proved here. -/
namespace Go.Proofs.YtkahmepenjhcpaaDoor.W
/-- the bit at a place, from the highest of the first byte on -/
def bitAt (l : List Int) (k : Nat) : Int := l.getD (k / 8) 0 / 2 ^ (7 - k % 8) % 2
/-- the number of m bits from a place on -/
def fv (l : List Int) (p : Nat) : Nat → Int
  | 0 => 0
  | m + 1 => fv l p m * 2 + bitAt l (p + m)
theorem bitAt_bd (l : List Int) (k : Nat) : 0 ≤ bitAt l k ∧ bitAt l k ≤ 1 := by unfold bitAt; omega
theorem fv_bd (l : List Int) (p : Nat) : ∀ m, 0 ≤ fv l p m ∧ fv l p m < 2 ^ m
  | 0 => by simp [fv]
  | m + 1 => by
    have := fv_bd l p m; have := bitAt_bd l (p + m)
    simp only [fv, Int.pow_succ]; omega
theorem fv_add (l : List Int) (p a : Nat) : ∀ b, fv l p (a + b) = fv l p a * 2 ^ b + fv l (p + a) b
  | 0 => by simp [fv]
  | b + 1 => by
    rw [← Nat.add_assoc]
    simp only [fv, fv_add l p a b, Int.pow_succ, Nat.add_assoc]
    rw [Int.add_mul, Int.mul_assoc, Int.add_assoc]
theorem fv_congr {l l' : List Int} {p p' : Nat} : ∀ m, (∀ i, i < m → bitAt l (p + i) = bitAt l' (p' + i)) → fv l p m = fv l' p' m
  | 0, _ => rfl
  | m + 1, h => by simp only [fv, fv_congr m (fun i hi => h i (by omega)), h m (by omega)]
/-- the fields of these widths from a place on -/
def fieldsS (l : List Int) : Nat → List Int → List Int
  | _, [] => []
  | p, w :: ws => fv l p w.toNat :: fieldsS l (p + w.toNat) ws
theorem fieldsS_len (l : List Int) : ∀ (ws : List Int) (p : Nat), (fieldsS l p ws).length = ws.length
  | [], _ => rfl
  | _ :: ws, p => by simp [fieldsS, fieldsS_len l ws]
theorem fieldsS_app (l : List Int) : ∀ (a b : List Int) (p : Nat), (∀ x ∈ a, 0 ≤ x) → fieldsS l p (a ++ b) = fieldsS l p a ++ fieldsS l (p + a.sum.toNat) b
  | [], b, p, _ => by simp [fieldsS]
  | x :: a, b, p, h => by
    have h0 := h x (by simp)
    have hs : 0 ≤ a.sum := by
      clear h0
      induction a with
      | nil => simp
      | cons y r ih =>
        have := ih (fun z hz => h z (by simp at hz ⊢; rcases hz with rfl | hz <;> simp [*]))
        have := h y (by simp)
        simp; omega
    have e : p + x.toNat + a.sum.toNat = p + (x :: a).sum.toNat := by simp only [List.sum_cons]; omega
    simp only [List.cons_append, fieldsS, fieldsS_app l a b _ (fun y hy => h y (by simp [hy])), e]
theorem fv8 {l : List Int} (j : Nat) (h : 0 ≤ l.getD j 0 ∧ l.getD j 0 < 256) : fv l (8 * j) 8 = l.getD j 0 := by
  have e : ∀ i, i < 8 → bitAt l (8 * j + i) = l.getD j 0 / 2 ^ (7 - i) % 2 := by
    intro i hi
    unfold bitAt
    rw [show (8 * j + i) / 8 = j from by omega, show (8 * j + i) % 8 = i from by omega]
  simp only [fv, e 0 (by omega), e 1 (by omega), e 2 (by omega), e 3 (by omega), e 4 (by omega), e 5 (by omega), e 6 (by omega), e 7 (by omega)]
  generalize l.getD j 0 = x at h
  omega
/-- a part of a byte -/
theorem fvp {l : List Int} (j a b : Nat) (h : 0 ≤ l.getD j 0 ∧ l.getD j 0 < 256) (hab : a + b ≤ 8) : fv l (8 * j + a) b = l.getD j 0 / 2 ^ (8 - a - b) % 2 ^ b := by
  induction b with
  | zero => simp [fv]
  | succ b ih =>
    have ih := ih (by omega)
    simp only [fv, ih]
    have e : bitAt l (8 * j + a + b) = l.getD j 0 / 2 ^ (7 - (a + b)) % 2 := by
      unfold bitAt
      rw [show (8 * j + a + b) / 8 = j from by omega, show (8 * j + a + b) % 8 = a + b from by omega]
    rw [e]
    generalize l.getD j 0 = x at h
    have : a + b ≤ 7 := by omega
    have ha : a = 0 ∨ a = 1 ∨ a = 2 ∨ a = 3 ∨ a = 4 ∨ a = 5 ∨ a = 6 ∨ a = 7 := by omega
    have hb : b = 0 ∨ b = 1 ∨ b = 2 ∨ b = 3 ∨ b = 4 ∨ b = 5 ∨ b = 6 ∨ b = 7 := by omega
    rcases ha with rfl | rfl | rfl | rfl | rfl | rfl | rfl | rfl <;> rcases hb with rfl | rfl | rfl | rfl | rfl | rfl | rfl | rfl <;> simp at * <;> omega
/-- bytes are known by their bits -/
theorem bits_ext {l l' : List Int} (hl : l.length = l'.length) (hb : ∀ x ∈ l, 0 ≤ x ∧ x < 256) (hb' : ∀ x ∈ l', 0 ≤ x ∧ x < 256) (h : ∀ k, k < 8 * l.length → bitAt l k = bitAt l' k) : l = l' := by
  apply List.ext_getElem hl
  intro j h1 h2
  have g : ∀ (m : List Int), (∀ x ∈ m, 0 ≤ x ∧ x < 256) → 0 ≤ m.getD j 0 ∧ m.getD j 0 < 256 := by
    intro m hm
    rw [List.getD_eq_getElem?_getD]
    cases hi : m[j]? with
    | none => simp
    | some x => simpa using hm x (List.mem_of_getElem? hi)
  have e1 := fv8 j (g l hb)
  have e2 := fv8 j (g l' hb')
  have e3 := fv_congr (l := l) (l' := l') (p := 8 * j) (p' := 8 * j) 8 (fun i hi => h _ (by omega))
  rw [e1, e2] at e3
  rw [List.getD_eq_getElem?_getD, List.getD_eq_getElem?_getD, List.getElem?_eq_getElem h1, List.getElem?_eq_getElem h2] at e3
  exact e3
/-- the bits of a number of m bits, the highest first -/
def bitsOf (v : Int) : Nat → List Int
  | 0 => []
  | m + 1 => v / 2 ^ m % 2 :: bitsOf v m
theorem bitsOf_len (v : Int) : ∀ m, (bitsOf v m).length = m
  | 0 => rfl
  | m + 1 => by simp [bitsOf, bitsOf_len v m]
theorem bitsOf_at (v : Int) : ∀ (m i : Nat), i < m → (bitsOf v m).getD i 0 = v / 2 ^ (m - 1 - i) % 2
  | 0, i, h => by omega
  | m + 1, 0, _ => by simp [bitsOf]
  | m + 1, i + 1, h => by
    simp only [bitsOf, List.getD_cons_succ]
    rw [bitsOf_at v m i (by omega)]
    congr 3; omega
/-- what is written, bit by bit -/
def strm : List Int → List Int → List Int
  | w :: ws, v :: vs => bitsOf v w.toNat ++ strm ws vs
  | _, _ => []
theorem strm_app : ∀ (a b c d : List Int), a.length = c.length → strm (a ++ b) (c ++ d) = strm a c ++ strm b d
  | [], _, [], _, _ => rfl
  | [], _, _ :: _, _, h => by simp at h
  | _ :: _, _, [], _, h => by simp at h
  | x :: a, b, y :: c, d, h => by simp only [List.cons_append, strm, strm_app a b c d (by simpa using h), List.append_assoc]
theorem strm_len : ∀ (ws vs : List Int), ws.length = vs.length → (∀ x ∈ ws, 0 ≤ x) → ((strm ws vs).length : Int) = ws.sum
  | [], [], _, _ => rfl
  | [], _ :: _, h, _ => by simp at h
  | _ :: _, [], h, _ => by simp at h
  | w :: ws, v :: vs, h, hw => by
    have := strm_len ws vs (by simpa using h) (fun x hx => hw x (by simp [hx]))
    have := hw w (by simp)
    simp only [strm, List.length_append, bitsOf_len, List.sum_cons]
    omega
/-- a bit laid into a byte -/
def laid1 (x b : Int) (r : Nat) : Int := (((x % 256).toNat ||| (b * 2 ^ (7 - r) % 256).toNat : Nat) : Int) % 256
theorem laid_nat : ∀ (x : Fin 256) (r : Fin 8) (q : Fin 8) (b : Fin 2), x.val / 2 ^ (7 - r.val) % 2 = 0 →
    (x.val ||| b.val * 2 ^ (7 - r.val)) < 256 ∧ (x.val ||| b.val * 2 ^ (7 - r.val)) / 2 ^ (7 - q.val) % 2 = if q = r then b.val else x.val / 2 ^ (7 - q.val) % 2 := by
  decide +kernel
theorem laid1_bits {x b : Int} {r q : Nat} (hx : 0 ≤ x ∧ x < 256) (hb : b = 0 ∨ b = 1) (hr : r < 8) (hq : q < 8) (h0 : x / 2 ^ (7 - r) % 2 = 0) :
    (0 ≤ laid1 x b r ∧ laid1 x b r < 256) ∧ laid1 x b r / 2 ^ (7 - q) % 2 = if q = r then b else x / 2 ^ (7 - q) % 2 := by
  obtain ⟨n, rfl⟩ := Int.eq_ofNat_of_zero_le hx.1
  obtain ⟨m, hm, rfl⟩ : ∃ m : Nat, m < 2 ∧ b = (m : Int) := by
    rcases hb with rfl | rfl
    · exact ⟨0, by omega, rfl⟩
    · exact ⟨1, by omega, rfl⟩
  have hn : n < 256 := by omega
  have c : ∀ k, ((2 ^ k : Nat) : Int) = (2 : Int) ^ k := fun k => by simp
  have h0' : n / 2 ^ (7 - r) % 2 = 0 := by
    have := h0
    rw [← c] at this
    exact_mod_cast this
  have key := laid_nat ⟨n, hn⟩ ⟨r, hr⟩ ⟨q, hq⟩ ⟨m, hm⟩ h0'
  simp only [Fin.mk.injEq] at key
  have hp : 2 ^ (7 - r) ≤ 128 := by
    have : 2 ^ (7 - r) ≤ 2 ^ 7 := Nat.pow_le_pow_right (by omega) (by omega)
    simpa using this
  have hmp : m * 2 ^ (7 - r) < 256 := by
    have : m * 2 ^ (7 - r) ≤ 1 * 128 := Nat.mul_le_mul (by omega) hp
    omega
  have e : laid1 (n : Int) (m : Int) r = ((n ||| m * 2 ^ (7 - r) : Nat) : Int) := by
    unfold laid1
    have e1 : ((n : Int) % 256).toNat = n := by omega
    have e2 : ((m : Int) * 2 ^ (7 - r) % 256).toNat = m * 2 ^ (7 - r) := by
      rw [← c]
      have : ((m * 2 ^ (7 - r) : Nat) : Int) = (m : Int) * ((2 ^ (7 - r) : Nat) : Int) := by simp
      rw [← this]; omega
    rw [e1, e2]; omega
  rw [e]
  refine ⟨by omega, ?_⟩
  have k2 := key.2
  rw [← c]
  split
  · rename_i hqr; rw [if_pos hqr] at k2; exact_mod_cast k2
  · rename_i hqr; rw [if_neg hqr] at k2; exact_mod_cast k2
end Go.Proofs.YtkahmepenjhcpaaDoor.W
/- Contracts: bit fields. No statement of the seat is proved here. -/
namespace Go.Proofs.YtkahmepenjhcpaaDoor.W
open Go
set_option linter.unusedSimpArgs false
set_option linter.unusedVariables false
/-- the deferred look behind a reading that did not fail: nothing is turned -/
theorem d141 (a b c : Value) (w : World) : Go.CallsD Tryd.prog 141 #[a, b, c] .returning w fun e u' w' => e = .returned (.tuple #[]) ∧ u' = .returning ∧ w' = w := by
  refine callsD_of_wpS Tryd.func141 rfl fun c₀ cs hu => ?_
  apply wpS_seq
  apply wpS_region
  simp [wpOpsS, go_sem, recoverD, hu, Tryd.ntmps141, Exit.thenS]
  refine wpS_cond (t := false) (by simp [Act.eval, Array.replicate]) ?_
  simp only [Bool.false_eq_true, if_false]
  refine wpS_of_wp (wp_skip ?_)
  cases c₀
  simp_all [bodyPostS, results, Tryd.results141]
theorem loadVar1 {P : Program} {w w0 : World} {N0 : List Nat} {L : List Own} {T sz b i : Nat} {T' : TypeId} {v : Value} {zc : List Value} (hT : TyI P T sz false zc) (S : St N0 w0 L w) (hk : getN L i = some (.var b T' [v])) :
    (loadVar T ⟨b, 0, none⟩).run P w = .ok v w := by
  obtain ⟨i, z, dd, h1, h2, h3, h4, h5, h6⟩ := hT.get
  have hc : w.cell? ⟨b, 0, none⟩ = some v := by rw [cell_of_row w b 0 _ _ _ (S.var hk)]; rfl
  simp only [loadVar, isAgg]
  cases dd <;> simp [aggD] at h6 <;> simp [run_underlying h5, hc]
theorem Rt.f101 {l : Env} {k : List KI} {w w0 : World} {N0 : List Nat} {L : List Own} {Rr : Value → World → Prop} {b6 b7 b8 i6 i7 i8 : Nat} {T6 T7 T8 : TypeId} {u x y : Value} {c6 c7 c8 : Value}
    (h6 : lk l 6 = some ([], .pointer (some ⟨b6, 0, none⟩))) (h7 : lk l 7 = some ([], .pointer (some ⟨b7, 0, none⟩))) (h8 : lk l 8 = some ([], .pointer (some ⟨b8, 0, none⟩)))
    (S : St N0 w0 L w) (k6 : getN L i6 = some (.var b6 T6 [u])) (k7 : getN L i7 = some (.var b7 T7 [x])) (k8 : getN L i8 = some (.var b8 T8 [y])) (h : Rr (.tuple #[u, x, y]) w) :
    Rt Tryd.prog (bodyPostD Tryd.prog Tryd.f101 (RV Rr)) [{ target := .fn (.func 141) #[c6, c7, c8], args := #[] }] 63 l k w :=
  Rt.top (R := bodyPostD Tryd.prog Tryd.f101 (RV Rr)) (fun a ha => by
    show Leaves Tryd.prog Tryd.f101 a.tmps (RV Rr) a.defers .returning w
    rw [ha.defers]
    obtain ⟨fn, q1, q2, q3⟩ := (k141).ex
    have q2' : ¬ fn.name = "runtime.NumGoroutine" := by simpa using q2
    have q3' : ¬ fn.body = none := by intro e; rw [e] at q3; cases q3
    refine ⟨by simp, .func 141, #[c6, c7, c8], 141, #[c6, c7, c8], rfl, by simp [invoke, callFunc, q1, q2', q3'], ?_⟩
    intro c cs hc
    obtain ⟨e, u', w', fr, ⟨rfl, rfl, rfl⟩, h2, h3, h4⟩ := d141 c6 c7 c8 w c cs hc
    refine ⟨_, _, _, fr, ?_, h2, h3, h4⟩
    have g6 := ha.getD h6
    have g7 := ha.getD h7
    have g8 := ha.getD h8
    simp only [Array.getD_eq_getD_getElem?] at g6 g7 g8
    refine ⟨.tuple #[u, x, y], ?_, h⟩
    simp [results, Tryd.results101, g6, g7, g8, asAddr, loadVar1 T132 S k6, loadVar1 T3 S k7, loadVar1 T31 S k8]) k
theorem fields_take_succ {l : List Int} {ws : List Int} {i : Nat} (h : i < ws.length) (h0 : ∀ x ∈ ws, 0 ≤ x) : fieldsS l 0 (ws.take (i + 1)) = fieldsS l 0 (ws.take i) ++ [fv l (ws.take i).sum.toNat (ws.getD i 0).toNat] := by
  rw [getD_take_succ h, fieldsS_app _ _ _ _ (fun x hx => h0 x (List.mem_of_mem_take hx))]
  simp [fieldsS]
theorem or1 {a b : Int} (h : 0 ≤ a ∧ a < 4611686018427387904) (hb : 0 ≤ b ∧ b ≤ 1) : IntKind.i64.wrap (((a * 2 % 2 ^ IntKind.i64.bits).toNat ||| (b % 2 ^ IntKind.i64.bits).toNat : Nat) : Int) = a * 2 + b := by
  rw [toNat_mod64 (by omega), toNat_mod64 (by omega)]
  obtain ⟨x, rfl⟩ := Int.eq_ofNat_of_zero_le h.1
  obtain ⟨y, rfl⟩ := Int.eq_ofNat_of_zero_le hb.1
  have e : ((x : Int) * 2).toNat = x * 2 ^ 1 := by omega
  have e2 : ((y : Int)).toNat = y := by omega
  rw [e, e2]
  have hy : y < 2 ^ 1 := by omega
  have e3 : x * 2 ^ 1 ||| y = x * 2 ^ 1 + y := by
    rw [Nat.mul_comm, ← Nat.two_pow_add_eq_or_of_lt hy]
  rw [e3, w64 (by omega)]
  omega
theorem shU8 {x : Int} {k : Nat} : x.fdiv (2 ^ (min ((7 : Int) - (k : Int) % 8).toNat IntKind.u8.bits)) = x / 2 ^ (7 - k % 8) := by
  have e : min ((7 : Int) - (k : Int) % 8).toNat IntKind.u8.bits = 7 - k % 8 := by
    have : IntKind.u8.bits = 8 := rfl
    omega
  have hp : (0 : Int) ≤ 2 ^ (7 - k % 8) := Int.le_of_lt (Int.pow_pos (by omega))
  rw [e, Int.fdiv_eq_ediv_of_nonneg _ hp]
theorem byte_div {x : Int} (h : 0 ≤ x ∧ x < 256) (m : Nat) : 0 ≤ x / 2 ^ m ∧ x / 2 ^ m < 256 := by
  have hp : (0 : Int) < 2 ^ m := Int.pow_pos (by omega)
  exact ⟨Int.ediv_nonneg h.1 (by omega), Int.lt_of_le_of_lt (Int.ediv_le_self _ h.1) h.2⟩
theorem anU8 {x : Int} (h : 0 ≤ x ∧ x < 256) : IntKind.u8.wrap (((x % 2 ^ IntKind.u8.bits).toNat &&& ((1 : Int) % 2 ^ IntKind.u8.bits).toNat : Nat) : Int) = x % 2 := by
  have : (2 ^ IntKind.u8.bits : Int) = 256 := rfl
  rw [this]
  have e : (x % 256).toNat = x.toNat := by omega
  have e1 : ((1 : Int) % 256).toNat = 1 := rfl
  have e2 : x.toNat &&& 1 = x.toNat % 2 := Nat.and_one_is_mod _
  rw [e, e1, e2, w8 (by omega)]
  omega
set_option maxHeartbeats 1000000 in
theorem c101 (v vw : Value) (l ws : List Int) (w : World) (hb : BS [] w v l) (hw : IS [] w vw ws) (hws : ∀ x ∈ ws, 1 ≤ x ∧ x ≤ 32) (hwl : ws.length ≤ 64) (h8 : ws.sum % 8 = 0) (hl : ws.sum / 8 ≤ l.length) (hll : l.length ≤ 1099511627776) :
  CallsV Tryd.prog 101 #[v, .int .i64 0, vw] w (fun r w' => ∃ u, r = .tuple #[u, .int .i64 (ws.sum / 8), .int .i64 0] ∧ FI w w' u (fieldsS l 0 ws)) := by
 refine enterD Tryd.func101 rfl Tryd.ntmps101 (l := [(0, [], _), (1, [], _), (2, [], _)]) rfl rfl ?_
 have S := St.refl [] w
 have hs0 := sum_take_bd hws ws.length
 rw [List.take_length] at hs0
 obtain ⟨nb, hnb⟩ : ∃ nb : Nat, ws.sum / 8 = (nb : Int) := ⟨(ws.sum / 8).toNat, by omega⟩
 have hp := hb.cut (lo := 0) (hi := 0 + nb) (mx := 0 + nb) (by have := hb.cap; omega)
 have hpl : ((l.drop 0).take (0 + nb - 0)).length = nb := by simp; omega
 have hpg : ∀ j, j < nb → ((l.drop 0).take (0 + nb - 0)).getD j 0 = l.getD j 0 := by intro j hj; simp [List.getD_eq_getElem?_getD, hj]
 refine Run.seq ?_
 refine Run.region ?_
 refine alc T132 S rfl ?_
 intro b6 w1 hb6 S B_
 refine alc T3 S rfl ?_
 intro b7 w2 hb7 S B_
 refine alc T31 S rfl ?_
 intro b8 w3 hb8 S B_
 have S := S.nilI
 refine Ro.nil ?_
 refine Nrm.code ?_
 refine Run.seq ?_
 refine Run.region ?_
 refine mv1 rfl rfl ?_
 refine calg (vs := [_]) rfl ⟨⟨_, _, rfl, rfl⟩, trivial⟩ k140 rfl (fun hG => c140 _ _ _ (hw.now S) hws hwl h8) ?_
 intro w4 B_; have S := S.call B_
 refine mv1 rfl rfl ?_
 refine extr1 rfl rfl rfl ?_
 refine extr1 rfl rfl rfl ?_
 refine asg1 rfl rfl ?_
 refine st1 rfl rfl T31 rfl S (i := 1) rfl rfl rfl ?_
 intro w5 S
 refine Ro.nil ?_
 refine Nrm.code ?_
 refine Run.seq ?_
 refine Run.seq ?_
 refine Run.region ?_
 refine ld1 rfl T31 S (i := 1) rfl rfl rfl rfl rfl ?_
 refine neq1 rfl rfl rfl ?_
 refine Ro.nil ?_
 refine Nrm.code ?_
 refine Run.cond rfl (fun hc2 => ?_) (fun hc2 => ?_)
 ·
  try simp only [Bool.or_eq_true, Bool.and_eq_true, Bool.or_eq_false_iff, Bool.and_eq_false_iff, decide_eq_true_eq, decide_eq_false_iff_not, Bool.not_eq_true', Bool.not_eq_false', Bool.not_eq_true, Bool.not_eq_false] at hc2
  exfalso; exact absurd rfl hc2
 ·
  try simp only [Bool.or_eq_true, Bool.and_eq_true, Bool.or_eq_false_iff, Bool.and_eq_false_iff, decide_eq_true_eq, decide_eq_false_iff_not, Bool.not_eq_true', Bool.not_eq_false', Bool.not_eq_true, Bool.not_eq_false] at hc2
  refine Run.skip ?_
  refine Nrm.code ?_
  refine Run.seq ?_
  refine Run.region ?_
  refine mkf (vs := [_, _, _]) ⟨⟨_, _, rfl, rfl⟩, ⟨_, _, rfl, rfl⟩, ⟨_, _, rfl, rfl⟩, trivial⟩ rfl ?_
  refine dfr rfl ?_
  refine Ro.nil ?_
  refine Nrm.code ?_
  refine Run.seq ?_
  refine Run.region ?_
  refine mv1 rfl rfl ?_
  refine mv1 rfl rfl ?_
  refine mv1 rfl rfl ?_
  refine calg (vs := [_, _, _]) rfl ⟨⟨_, _, rfl, rfl⟩, ⟨_, _, rfl, rfl⟩, ⟨_, _, rfl, rfl⟩, trivial⟩ k142 rfl (fun hG => by rw [hnb]; exact c142 _ _ 0 nb _ (hb.now S) (by omega) (by omega)) ?_
  intro w6 B_; have S := S.call B_
  refine asg1 rfl rfl ?_
  refine Ro.nil ?_
  refine Nrm.code ?_
  refine Run.seq ?_
  refine Run.region ?_
  refine asg1 rfl rfl ?_
  refine Ro.nil ?_
  refine Nrm.code ?_
  refine Run.seq ?_
  refine Run.seq ?_
  refine Run.region ?_
  refine mv1 rfl rfl ?_
  refine lenS rfl hw Tryd.underlying132 rfl rfl rfl ?_
  refine mv1 rfl rfl ?_
  refine Ro.nil ?_
  refine Nrm.code ?_
  refine Run.block ?_
  refine Run.loop3 (fun (i : Nat) (u : Value) (p : Nat) w_ => i ≤ ws.length ∧ p = (ws.take i).sum.toNat ∧ St [] w [oI u (fieldsS l 0 (ws.take i)), .var b8 31 [.int .i64 0], .var b7 3 [.int .i64 0], .var b6 132 [u]] w_) (fun (i : Nat) (u : Value) (p : Nat) => [(0, [], v), (1, [], .int .i64 0), (2, [], vw), (6, [], .pointer (some ⟨b6, 0, none⟩)), (7, [], .pointer (some ⟨b7, 0, none⟩)), (8, [], .pointer (some ⟨b8, 0, none⟩)), (9, [], .int .i64 (ws.sum / 8)), (10, [], cut v 0 (0 + nb) (0 + nb)), (11, [], .int .i64 p), (28, [], vw), (29, [], .int .i64 ws.length), (30, [], .int .i64 i)]) (fun (i : Nat) (u : Value) (p : Nat) => ws.length - i) (0) (.slice none 0 0) (0) ⟨Nat.zero_le _, rfl, S⟩ ⟨rfl, rfl, rfl, rfl, rfl, rfl, by rw [hnb]; rfl, rfl, rfl, rfl, rfl, rfl, trivial⟩ ?_
  rintro i u p w7 ⟨hi, hp0, S⟩
  have hsb := sum_take_bd hws i
  refine Run.seq ?_
  refine Run.region ?_
  refine lss1 rfl rfl rfl ?_
  refine Ro.nil ?_
  refine Nrm.code ?_
  refine Run.seq ?_
  refine Run.cond rfl (fun hc8 => ?_) (fun hc8 => ?_)
  ·
   try simp only [Bool.or_eq_true, Bool.and_eq_true, Bool.or_eq_false_iff, Bool.and_eq_false_iff, decide_eq_true_eq, decide_eq_false_iff_not, Bool.not_eq_true', Bool.not_eq_false', Bool.not_eq_true, Bool.not_eq_false] at hc8
   refine Run.skip ?_
   refine Nrm.code ?_
   refine Run.seq ?_
   refine Run.block ?_
   refine Run.seq ?_
   refine Run.region ?_
   refine ixa rfl rfl hw e132 rfl rfl rfl rfl (fun _ => by omega) ?_
   refine ldI rfl hw S T3 rfl rfl rfl (fun _ => by omega) ?_
   intro q33 hq33
   try simp only [Int.toNat_natCast, Nat.mul_one] at hq33
   refine asg1 rfl rfl ?_
   refine Ro.nil ?_
   refine Nrm.code ?_
   refine Run.seq ?_
   refine Run.region ?_
   refine asg1 rfl rfl ?_
   refine Ro.nil ?_
   refine Nrm.code ?_
   refine Run.seq ?_
   refine Run.seq ?_
   refine Run.region ?_
   refine mv1 rfl rfl ?_
   refine mv1 rfl rfl ?_
   refine Ro.nil ?_
   refine Nrm.code ?_
   refine Run.block ?_
   have hwi := hws _ (getD_mem (d := 0) (show i < ws.length by omega))
   have hsi := sum_take_bd hws (i + 1)
   rw [sum_take_succ (by omega)] at hsi
   refine Run.loop3 (fun (m : Nat) (p : Nat) (q : Int) w_ => m ≤ (ws.getD i 0).toNat ∧ p = (ws.take i).sum.toNat + m ∧ q = fv l (ws.take i).sum.toNat m ∧ St [] w [oI u (fieldsS l 0 (ws.take i)), .var b8 31 [.int .i64 0], .var b7 3 [.int .i64 0], .var b6 132 [u]] w_) (fun (m : Nat) (p : Nat) (q : Int) => [(0, [], v), (1, [], .int .i64 0), (2, [], vw), (6, [], .pointer (some ⟨b6, 0, none⟩)), (7, [], .pointer (some ⟨b7, 0, none⟩)), (8, [], .pointer (some ⟨b8, 0, none⟩)), (9, [], .int .i64 (ws.sum / 8)), (10, [], cut v 0 (0 + nb) (0 + nb)), (11, [], .int .i64 p), (14, [], .int .i64 q), (28, [], vw), (29, [], .int .i64 ws.length), (30, [], .int .i64 i), (34, [], .int .i64 q33), (35, [], .int .i64 m)]) (fun (m : Nat) (p : Nat) (q : Int) => (ws.getD i 0).toNat - m) (0) (_) (0) ⟨Nat.zero_le _, by omega, rfl, S⟩ ⟨rfl, rfl, rfl, rfl, rfl, rfl, rfl, rfl, rfl, rfl, rfl, rfl, rfl, rfl, rfl, trivial⟩ ?_
   rintro m p q w8 ⟨hm, hp1, hq, S⟩
   have hfb := fv_bd l (ws.take i).sum.toNat m
   have hfp : (2 : Int) ^ m ≤ 4294967296 := by
    have : (2 : Nat) ^ m ≤ 2 ^ 32 := Nat.pow_le_pow_right (by omega) (by omega)
    have h2 : ((2 ^ m : Nat) : Int) ≤ ((2 ^ 32 : Nat) : Int) := Int.ofNat_le.2 this
    simpa using h2
   refine Run.seq ?_
   refine Run.region ?_
   refine lss1 rfl rfl rfl ?_
   refine Ro.nil ?_
   refine Nrm.code ?_
   refine Run.seq ?_
   refine Run.cond rfl (fun hc12 => ?_) (fun hc12 => ?_)
   ·
    try simp only [Bool.or_eq_true, Bool.and_eq_true, Bool.or_eq_false_iff, Bool.and_eq_false_iff, decide_eq_true_eq, decide_eq_false_iff_not, Bool.not_eq_true', Bool.not_eq_false', Bool.not_eq_true, Bool.not_eq_false] at hc12
    refine Run.skip ?_
    refine Nrm.code ?_
    refine Run.seq ?_
    refine Run.block ?_
    refine Run.seq ?_
    refine Run.region ?_
    refine mv1 rfl rfl ?_
    refine shl rfl rfl rfl rfl rfl rfl (fun _ => by decide) (fun _ => sl1 (by omega)) ?_
    refine mv1 rfl rfl ?_
    refine mv1 rfl rfl ?_
    refine quo1 rfl rfl rfl (by decide) (q64 (by omega)) ?_
    refine calg (vs := [_, _]) rfl ⟨⟨_, _, rfl, rfl⟩, ⟨_, _, rfl, rfl⟩, trivial⟩ k143 rfl (fun hG => c143 _ _ _ _ (hp.now S) (by rw [hpl]; omega) (by rw [hpl]; omega)) ?_
    intro w9 B_; have S := S.call B_
    have hqe : ((l.drop 0).take (0 + nb - 0)).getD ((p : Int) / 8).toNat 0 = l.getD (p / 8) 0 := by rw [show ((p : Int) / 8).toNat = p / 8 from by omega]; exact hpg _ (by omega)
    rw [hqe]
    have hqb := byt_getD hb.1 (p / 8)
    have hqd := byte_div hqb (7 - p % 8)
    have hbb := bitAt_bd l p
    refine mv1 rfl rfl ?_
    refine rem1 rfl rfl rfl (by decide) (r64 (by omega)) ?_
    refine cvi1 rfl rfl Tryd.underlying3 Tryd.underlying135 (wu64 (by omega)) ?_
    refine sub1 rfl rfl rfl (wu64 (by omega)) ?_
    refine shr rfl rfl rfl rfl rfl rfl (fun _ => by omega) (fun _ => shU8) ?_
    refine band rfl rfl rfl rfl rfl rfl (fun _ => anU8 hqd) ?_
    refine cvi1 rfl rfl Tryd.underlying5 Tryd.underlying3 (w64 (by omega)) ?_
    refine bor rfl rfl rfl rfl rfl rfl (fun _ => or1 (by omega) (show 0 ≤ bitAt l p ∧ bitAt l p ≤ 1 from hbb)) ?_
    refine asg1 rfl rfl ?_
    refine Ro.nil ?_
    refine Nrm.code ?_
    refine Run.region ?_
    refine mv1 rfl rfl ?_
    refine add1 rfl rfl rfl (w64 (by omega)) ?_
    refine asg1 rfl rfl ?_
    refine Ro.nil ?_
    refine Nrm.blk ?_
    refine Nrm.code ?_
    refine Run.region ?_
    refine add1 rfl rfl rfl (w64 (by omega)) ?_
    refine mv1 rfl rfl ?_
    refine Ro.nil ?_
    refine Nrm.loop3 (m + 1) (p + 1) (_) ⟨by omega, by omega, by rw [hq, hp1]; rfl, S⟩ (by omega) ⟨rfl, rfl, rfl, rfl, rfl, rfl, rfl, rfl, rfl, rfl, rfl, rfl, rfl, rfl, rfl, trivial⟩
   ·
    try simp only [Bool.or_eq_true, Bool.and_eq_true, Bool.or_eq_false_iff, Bool.and_eq_false_iff, decide_eq_true_eq, decide_eq_false_iff_not, Bool.not_eq_true', Bool.not_eq_false', Bool.not_eq_true, Bool.not_eq_false] at hc12
    refine Run.exit ?_
    refine Lv.code ?_
    refine Lv.back ?_
    refine Lv.hit ?_
    refine Nrm.code ?_
    refine Run.region ?_
    refine ld1 rfl T132 S (i := 3) rfl rfl rfl rfl rfl ?_
    refine mv1 rfl rfl ?_
    refine apIF (b := [_]) rfl e132 (qs := [(_, _)]) ⟨⟨_, _, _, rfl, rfl, rfl, rfl, by simp [Value.cells]⟩, trivial⟩ (by decide) rfl rfl S (i := 0) rfl rfl rfl (fun t e => by cases e; rfl) (fun _ => rfl) (by simp only [fieldsS_len, List.length_take]; omega) ?_
    intro u_ u2 w9 S B_
    refine st1 rfl rfl T132 (S.slI (i := 0) rfl).one S (i := 3) rfl rfl rfl ?_
    intro w10 S
    refine Ro.nil ?_
    refine Nrm.blk ?_
    refine Nrm.code ?_
    refine Run.region ?_
    refine add1 rfl rfl rfl (w64 (by omega)) ?_
    refine mv1 rfl rfl ?_
    refine Ro.nil ?_
    refine Nrm.loop3 (i + 1) (_) (_) ⟨by omega, by rw [sum_take_succ (by omega)]; omega, S.eqv (by rw [fields_take_succ (by omega) (fun x hx => by have := hws x hx; omega), hq, show m = (ws.getD i 0).toNat from by omega])⟩ (by omega) ⟨rfl, rfl, rfl, rfl, rfl, rfl, rfl, rfl, rfl, rfl, rfl, rfl, trivial⟩
  ·
   try simp only [Bool.or_eq_true, Bool.and_eq_true, Bool.or_eq_false_iff, Bool.and_eq_false_iff, decide_eq_true_eq, decide_eq_false_iff_not, Bool.not_eq_true', Bool.not_eq_false', Bool.not_eq_true, Bool.not_eq_false] at hc8
   refine Run.exit ?_
   refine Lv.code ?_
   refine Lv.back ?_
   refine Lv.hit ?_
   refine Nrm.code ?_
   refine Run.seq ?_
   refine Run.region ?_
   refine ld1 rfl T132 S (i := 3) rfl rfl rfl rfl rfl ?_
   refine mv1 rfl rfl ?_
   refine mv1 rfl rfl ?_
   refine add1 rfl rfl rfl (w64 (by omega)) ?_
   refine st1 rfl rfl T132 (S.slI (i := 0) rfl).one S (i := 3) rfl rfl rfl ?_
   intro w8 S
   refine st1 rfl rfl T3 rfl S (i := 2) rfl rfl rfl ?_
   intro w9 S
   refine st1 rfl rfl T31 rfl S (i := 1) rfl rfl rfl ?_
   intro w10 S
   refine Ro.nil ?_
   refine Nrm.code ?_
   refine Run.ret ?_
   refine Rt.f101 rfl rfl rfl S (i6 := 3) (i7 := 2) (i8 := 1) rfl rfl rfl ?_
   have e : i = ws.length := by omega
   subst e
   rw [List.take_length] at S
   refine ⟨u, ?_, S.toFI (i := 0) rfl⟩
   simp
end Go.Proofs.YtkahmepenjhcpaaDoor.W
/- Contracts: bit fields laid down. No statement of the seat is proved here. -/
namespace Go.Proofs.YtkahmepenjhcpaaDoor.W
open Go
set_option linter.unusedSimpArgs false
set_option linter.unusedVariables false
theorem mkB {R : Qp} {ds : List Deferred} {n : Nat} {l : Env} {k : List KI} {w w0 : World} {ops : Array Oper} {os : List Oper} {d : Nat} {ty : TypeId} {ps : String} {af : Array Edge} {x y : Operand} {N0 : List Nat} {L : List Own} {k1 k2 : IntKind} {m : Nat}
    (hx : ev l x = some ([], .int k1 (m : Int))) (hy : ev l y = some ([], .int k2 (m : Int))) (S : St N0 w0 L w) (hn : Nat.blt d n = true) (hroom : m ≤ 140737488355328)
    (h : ∀ v w', St N0 w0 (oB v (List.replicate m 0) :: L) w' → Bl w w' → Ro Tryd.prog R ds n ops ((d, [], v) :: l) os k w') :
    Ro Tryd.prog R ds n ops l ({ dst := some d, op := .makeSlice 26 x y, type := ty, pos := ps, after := af, guard := none } :: os) k w :=
  mk hx hy e26 S hn (by omega) (by simp only [maxLen]; omega) (made_one _ _) (fun v w' S' B => h v w' (S'.eqv (by simp [oB])) B)
/-- bytes whose bits are these, zeros behind them -/
def Pk (nb : Nat) (out P : List Int) : Prop := out.length = nb ∧ byt out ∧ P.length ≤ 8 * nb ∧ ∀ k, k < 8 * nb → bitAt out k = P.getD k 0
theorem Pk.zero (nb : Nat) : Pk nb (List.replicate nb 0) [] := by
  refine ⟨by simp, fun x hx => by rw [(List.mem_replicate.1 hx).2]; omega, by simp, ?_⟩
  intro k hk
  unfold bitAt
  have : (List.replicate nb (0 : Int)).getD (k / 8) 0 = 0 := by
    rw [List.getD_eq_getElem?_getD, List.getElem?_replicate]; split <;> rfl
  rw [this]; simp
theorem Pk.step {nb : Nat} {out P : List Int} {b : Int} (h : Pk nb out P) (hl : P.length < 8 * nb) (hb : b = 0 ∨ b = 1) :
    Pk nb (out.set (P.length / 8) (laid1 (out.getD (P.length / 8) 0) b (P.length % 8))) (P ++ [b]) := by
  obtain ⟨h1, h2, h3, h4⟩ := h
  have hj : P.length / 8 < out.length := by omega
  have hx := byt_getD h2 (P.length / 8)
  have h0 : out.getD (P.length / 8) 0 / 2 ^ (7 - P.length % 8) % 2 = 0 := by
    have := h4 P.length hl
    unfold bitAt at this
    rw [this]; simp
  refine ⟨by simp [h1], byt_set h2 _ (laid1_bits hx hb (Nat.mod_lt _ (by omega)) (Nat.mod_lt _ (by omega)) h0 (q := P.length % 8)).1, by simp; omega, ?_⟩
  intro k hk
  by_cases e8 : k / 8 = P.length / 8
  · have hg : (out.set (P.length / 8) (laid1 (out.getD (P.length / 8) 0) b (P.length % 8))).getD (k / 8) 0 = laid1 (out.getD (P.length / 8) 0) b (P.length % 8) := by
      rw [e8, List.getD_eq_getElem?_getD, List.getElem?_set_self hj]; rfl
    unfold bitAt
    rw [hg, (laid1_bits hx hb (Nat.mod_lt _ (by omega)) (Nat.mod_lt _ (by omega)) h0 (q := k % 8)).2]
    by_cases ek : k = P.length
    · subst ek; simp
    · have : ¬ k % 8 = P.length % 8 := by omega
      rw [if_neg this, ← e8]
      have := h4 k hk
      unfold bitAt at this
      rw [this]
      rcases Nat.lt_or_ge k P.length with hlt | hge
      · simp [List.getD_eq_getElem?_getD, List.getElem?_append_left hlt]
      · simp [List.getD_eq_getElem?_getD, List.getElem?_eq_none (show P.length ≤ k from hge), List.getElem?_eq_none (show (P ++ [b]).length ≤ k by simp; omega)]
  · have hg : (out.set (P.length / 8) (laid1 (out.getD (P.length / 8) 0) b (P.length % 8))).getD (k / 8) 0 = out.getD (k / 8) 0 := by
      rw [List.getD_eq_getElem?_getD, List.getElem?_set_ne (by omega), List.getD_eq_getElem?_getD]
    have := h4 k hk
    unfold bitAt at this ⊢
    rw [hg, this]
    have ek : k ≠ P.length := by intro e; subst e; exact e8 rfl
    rcases Nat.lt_or_ge k P.length with hlt | hge
    · simp [List.getD_eq_getElem?_getD, List.getElem?_append_left hlt]
    · simp [List.getD_eq_getElem?_getD, List.getElem?_eq_none (show P.length ≤ k from hge), List.getElem?_eq_none (show (P ++ [b]).length ≤ k by simp; omega)]
theorem bitsOf_take_succ {v : Int} {n m : Nat} (h : m < n) : (bitsOf v n).take (m + 1) = (bitsOf v n).take m ++ [v / 2 ^ (n - 1 - m) % 2] := by
  rw [getD_take_succ (by rw [bitsOf_len]; exact h), bitsOf_at v n m h]
theorem strm_take_succ {ws vs : List Int} {i : Nat} (h : i < ws.length) (hl : ws.length = vs.length) : strm (ws.take (i + 1)) (vs.take (i + 1)) = strm (ws.take i) (vs.take i) ++ bitsOf (vs.getD i 0) (ws.getD i 0).toNat := by
  rw [getD_take_succ h, getD_take_succ (by omega), strm_app _ _ _ _ (by simp [hl])]
  simp [strm]
theorem shV {x q : Int} (h : 0 ≤ q ∧ q ≤ 63) : x.fdiv (2 ^ (min q.toNat IntKind.i64.bits)) = x / 2 ^ q.toNat := by
  have e : min q.toNat IntKind.i64.bits = q.toNat := by
    have : IntKind.i64.bits = 64 := rfl
    omega
  have hp : (0 : Int) ≤ 2 ^ q.toNat := Int.le_of_lt (Int.pow_pos (by omega))
  rw [e, Int.fdiv_eq_ediv_of_nonneg _ hp]
theorem anI1 {x : Int} (h : 0 ≤ x ∧ x ≤ 9223372036854775807) : IntKind.i64.wrap (((x % 2 ^ IntKind.i64.bits).toNat &&& ((1 : Int) % 2 ^ IntKind.i64.bits).toNat : Nat) : Int) = x % 2 := by
  rw [toNat_mod64 h, toNat_mod64 (by omega)]
  have e2 : x.toNat &&& (1 : Int).toNat = x.toNat % 2 := Nat.and_one_is_mod _
  rw [e2, w64 (by omega)]; omega
theorem slU8 {b : Int} {k : Nat} : IntKind.u8.wrap (b * 2 ^ (min ((7 : Int) - (k : Int) % 8).toNat IntKind.u8.bits)) = b * 2 ^ (7 - k % 8) % 256 := by
  have e : min ((7 : Int) - (k : Int) % 8).toNat IntKind.u8.bits = 7 - k % 8 := by
    have : IntKind.u8.bits = 8 := rfl
    omega
  rw [e, w8m]
theorem orU8 {x b : Int} {r : Nat} : IntKind.u8.wrap (((x % 2 ^ IntKind.u8.bits).toNat ||| (b * 2 ^ (7 - r) % 256 % 2 ^ IntKind.u8.bits).toNat : Nat) : Int) = laid1 x b r := by
  have : (2 ^ IntKind.u8.bits : Int) = 256 := rfl
  rw [this, w8m]
  unfold laid1
  rw [Int.emod_emod_of_dvd _ (Int.dvd_refl 256)]
theorem div_pow_bd {x : Int} (h : 0 ≤ x ∧ x ≤ 9223372036854775807) (m : Nat) : 0 ≤ x / 2 ^ m ∧ x / 2 ^ m ≤ 9223372036854775807 := by
  have hp : (0 : Int) < 2 ^ m := Int.pow_pos (by omega)
  exact ⟨Int.ediv_nonneg h.1 (by omega), Int.le_trans (Int.ediv_le_self _ h.1) h.2⟩
set_option maxHeartbeats 1000000 in
theorem c95 (vw vv : Value) (ws vs : List Int) (w : World) (hw : IS [] w vw ws) (hv : IS [] w vv vs) (hws : ∀ x ∈ ws, 1 ≤ x ∧ x ≤ 32) (hwl : ws.length ≤ 64) (h8 : ws.sum % 8 = 0) (hvl : ws.length = vs.length) (hvs : ∀ i, i < ws.length → 0 ≤ vs.getD i 0 ∧ vs.getD i 0 < 2 ^ (ws.getD i 0).toNat) :
  CallsV Tryd.prog 95 #[vw, vv] w (fun r w' => ∃ u out, r = .tuple #[u, .int .i64 0] ∧ FB w w' u out ∧ Pk (ws.sum / 8).toNat out (strm ws vs)) := by
 refine enter Tryd.func95 rfl Tryd.ntmps95 (l := [(0, [], _), (1, [], _)]) rfl rfl ?_
 have S := St.refl [] w
 have hs0 := sum_take_bd hws ws.length
 rw [List.take_length] at hs0
 obtain ⟨nb, hnb⟩ : ∃ nb : Nat, ws.sum / 8 = (nb : Int) := ⟨(ws.sum / 8).toNat, by omega⟩
 have hsl : ∀ i, ((strm (ws.take i) (vs.take i)).length : Int) = (ws.take i).sum := fun i => strm_len _ _ (by simp [hvl]) (fun x hx => by have := hws x (List.mem_of_mem_take hx); omega)
 have hc140 := c140 vw ws w (hw.now S) hws hwl h8
 rw [hnb] at hc140
 refine Run.seq ?_
 refine Run.region ?_
 refine asg1 rfl rfl ?_
 refine asg1 rfl rfl ?_
 refine Ro.nil ?_
 refine Nrm.code ?_
 refine Run.seq ?_
 refine Run.region ?_
 refine mv1 rfl rfl ?_
 refine calg (vs := [_]) rfl ⟨⟨_, _, rfl, rfl⟩, trivial⟩ k140 rfl (fun hG => hc140) ?_
 intro w1 B_; have S := S.call B_
 refine mv1 rfl rfl ?_
 refine extr1 rfl rfl rfl ?_
 refine extr1 rfl rfl rfl ?_
 refine asg1 rfl rfl ?_
 refine asg1 rfl rfl ?_
 refine Ro.nil ?_
 refine Nrm.code ?_
 refine Run.seq ?_
 refine Run.seq ?_
 refine Run.region ?_
 refine mv1 rfl rfl ?_
 refine neq1 rfl rfl rfl ?_
 refine Ro.nil ?_
 refine Nrm.code ?_
 refine Run.cond rfl (fun hc2 => ?_) (fun hc2 => ?_)
 ·
  try simp only [Bool.or_eq_true, Bool.and_eq_true, Bool.or_eq_false_iff, Bool.and_eq_false_iff, decide_eq_true_eq, decide_eq_false_iff_not, Bool.not_eq_true', Bool.not_eq_false', Bool.not_eq_true, Bool.not_eq_false] at hc2
  exfalso; exact absurd rfl hc2
 ·
  try simp only [Bool.or_eq_true, Bool.and_eq_true, Bool.or_eq_false_iff, Bool.and_eq_false_iff, decide_eq_true_eq, decide_eq_false_iff_not, Bool.not_eq_true', Bool.not_eq_false', Bool.not_eq_true, Bool.not_eq_false] at hc2
  refine Run.skip ?_
  refine Nrm.code ?_
  refine Run.seq ?_
  refine Run.seq ?_
  refine Run.region ?_
  refine mv1 rfl rfl ?_
  refine lenS rfl hv Tryd.underlying132 rfl rfl rfl ?_
  refine mv1 rfl rfl ?_
  refine lenS rfl hw Tryd.underlying132 rfl rfl rfl ?_
  refine neq1 rfl rfl rfl ?_
  refine Ro.nil ?_
  refine Nrm.code ?_
  refine Run.cond rfl (fun hc4 => ?_) (fun hc4 => ?_)
  ·
   try simp only [Bool.or_eq_true, Bool.and_eq_true, Bool.or_eq_false_iff, Bool.and_eq_false_iff, decide_eq_true_eq, decide_eq_false_iff_not, Bool.not_eq_true', Bool.not_eq_false', Bool.not_eq_true, Bool.not_eq_false] at hc4
   exfalso; omega
  ·
   try simp only [Bool.or_eq_true, Bool.and_eq_true, Bool.or_eq_false_iff, Bool.and_eq_false_iff, decide_eq_true_eq, decide_eq_false_iff_not, Bool.not_eq_true', Bool.not_eq_false', Bool.not_eq_true, Bool.not_eq_false] at hc4
   refine Run.skip ?_
   refine Nrm.code ?_
   refine Run.seq ?_
   refine Run.region ?_
   refine mv1 rfl rfl ?_
   refine mkB (m := nb) rfl rfl S rfl (by omega) ?_
   intro u w2 S B_
   refine asg1 rfl rfl ?_
   refine Ro.nil ?_
   refine Nrm.code ?_
   refine Run.seq ?_
   refine Run.region ?_
   refine asg1 rfl rfl ?_
   refine Ro.nil ?_
   refine Nrm.code ?_
   refine Run.seq ?_
   refine Run.seq ?_
   refine Run.region ?_
   refine mv1 rfl rfl ?_
   refine lenS rfl hw Tryd.underlying132 rfl rfl rfl ?_
   refine mv1 rfl rfl ?_
   refine Ro.nil ?_
   refine Nrm.code ?_
   refine Run.block ?_
   refine Run.loop3 (fun (i : Nat) (p : Nat) (out : List Int) w_ => i ≤ ws.length ∧ p = (strm (ws.take i) (vs.take i)).length ∧ Pk nb out (strm (ws.take i) (vs.take i)) ∧ St [] w [oB u out] w_) (fun (i : Nat) (p : Nat) (out : List Int) => [(0, [], vw), (1, [], vv), (8, [], u), (9, [], .int .i64 p), (29, [], vw), (30, [], .int .i64 ws.length), (31, [], .int .i64 i)]) (fun (i : Nat) (p : Nat) (out : List Int) => ws.length - i) (0) (0) (_) ⟨Nat.zero_le _, rfl, Pk.zero nb, S⟩ ⟨rfl, rfl, rfl, rfl, rfl, rfl, rfl, trivial⟩ ?_
   rintro i p out w3 ⟨hi, hp, hpk0, S⟩
   have hsb := sum_take_bd hws i
   have hsli := hsl i
   refine Run.seq ?_
   refine Run.region ?_
   refine lss1 rfl rfl rfl ?_
   refine Ro.nil ?_
   refine Nrm.code ?_
   refine Run.seq ?_
   refine Run.cond rfl (fun hc9 => ?_) (fun hc9 => ?_)
   ·
    try simp only [Bool.or_eq_true, Bool.and_eq_true, Bool.or_eq_false_iff, Bool.and_eq_false_iff, decide_eq_true_eq, decide_eq_false_iff_not, Bool.not_eq_true', Bool.not_eq_false', Bool.not_eq_true, Bool.not_eq_false] at hc9
    refine Run.skip ?_
    refine Nrm.code ?_
    refine Run.seq ?_
    refine Run.block ?_
    refine Run.seq ?_
    refine Run.region ?_
    refine mv1 rfl rfl ?_
    refine ixa rfl rfl hw e132 rfl rfl rfl rfl (fun _ => by omega) ?_
    refine ldI rfl hw S T3 rfl rfl rfl (fun _ => by omega) ?_
    intro q35 hq35
    try simp only [Int.toNat_natCast, Nat.mul_one] at hq35
    refine asg1 rfl rfl ?_
    refine asg1 rfl rfl ?_
    refine Ro.nil ?_
    refine Nrm.code ?_
    refine Run.seq ?_
    refine Run.region ?_
    refine mv1 rfl rfl ?_
    refine mv1 rfl rfl ?_
    refine ixa rfl rfl hv e132 rfl rfl rfl rfl (fun _ => by omega) ?_
    refine ldI rfl hv S T3 rfl rfl rfl (fun _ => by omega) ?_
    intro q39 hq39
    try simp only [Int.toNat_natCast, Nat.mul_one] at hq39
    have hvi := hvs i (by omega)
    rw [← hq39] at hvi
    have hwi := hws _ (getD_mem (d := 0) (show i < ws.length by omega))
    rw [← hq35] at hwi hvi
    have hpw : (2 : Int) ^ q35.toNat ≤ 4294967296 := by
     have : (2 : Nat) ^ q35.toNat ≤ 2 ^ 32 := Nat.pow_le_pow_right (by omega) (by omega)
     have h2 : ((2 ^ q35.toNat : Nat) : Int) ≤ ((2 ^ 32 : Nat) : Int) := Int.ofNat_le.2 this
     simpa using h2
    refine asg1 rfl rfl ?_
    refine Ro.nil ?_
    refine Nrm.code ?_
    refine Run.seq ?_
    refine Run.seq ?_
    refine Run.region ?_
    refine mv1 rfl rfl ?_
    refine lss1 rfl rfl rfl ?_
    refine mv1 rfl rfl ?_
    refine mv rfl rfl rfl rfl ?_
    refine mv rfl rfl rfl rfl ?_
    refine cvi rfl rfl rfl rfl Tryd.underlying3 Tryd.underlying135 (fun hG => by first | exact wu64 (by omega) | (simp [allT] at hG; exact wu64 (by omega))) ?_
    refine shr rfl rfl rfl rfl rfl rfl (fun hG => by first | exact by omega | (simp [allT] at hG; exact by omega)) (fun hG => by first | exact shV (by omega) | (simp [allT] at hG; exact shV (by omega))) ?_
    have hz : q39 / 2 ^ q35.toNat = 0 := Int.ediv_eq_zero_of_lt hvi.1 hvi.2
    rw [hz]
    refine neq rfl rfl rfl rfl rfl rfl ?_
    refine pkO rfl rfl rfl rfl rfl rfl ?_
    refine Ro.nil ?_
    refine Nrm.code ?_
    refine Run.cond rfl (fun hc12 => ?_) (fun hc12 => ?_)
    ·
     try simp only [Bool.or_eq_true, Bool.and_eq_true, Bool.or_eq_false_iff, Bool.and_eq_false_iff, decide_eq_true_eq, decide_eq_false_iff_not, Bool.not_eq_true', Bool.not_eq_false', Bool.not_eq_true, Bool.not_eq_false] at hc12
     exfalso; omega
    ·
     try simp only [Bool.or_eq_true, Bool.and_eq_true, Bool.or_eq_false_iff, Bool.and_eq_false_iff, decide_eq_true_eq, decide_eq_false_iff_not, Bool.not_eq_true', Bool.not_eq_false', Bool.not_eq_true, Bool.not_eq_false] at hc12
     refine Run.skip ?_
     refine Nrm.code ?_
     refine Run.seq ?_
     refine Run.region ?_
     refine mv1 rfl rfl ?_
     refine sub1 rfl rfl rfl (w64 (by omega)) ?_
     refine asg1 rfl rfl ?_
     refine Ro.nil ?_
     refine Nrm.code ?_
     refine Run.block ?_
     have hsb1 := sum_take_bd hws (i + 1)
     rw [sum_take_succ (by omega), ← hq35] at hsb1
     refine Run.loop4 (fun (m : Nat) (q : Int) (p : Nat) (out : List Int) w_ => m ≤ q35.toNat ∧ q = q35 - 1 - m ∧ p = (strm (ws.take i) (vs.take i) ++ (bitsOf q39 q35.toNat).take m).length ∧ Pk nb out (strm (ws.take i) (vs.take i) ++ (bitsOf q39 q35.toNat).take m) ∧ St [] w [oB u out] w_) (fun (m : Nat) (q : Int) (p : Nat) (out : List Int) => [(0, [], vw), (1, [], vv), (8, [], u), (9, [], .int .i64 p), (12, [], .int .i64 q39), (13, [], .int .i64 q), (29, [], vw), (30, [], .int .i64 ws.length), (31, [], .int .i64 i)]) (fun (m : Nat) (q : Int) (p : Nat) (out : List Int) => q35.toNat - m) (0) (_) (p) (_) ⟨Nat.zero_le _, by omega, by rw [hp]; simp, by simpa using hpk0, S⟩ ⟨rfl, rfl, rfl, rfl, rfl, rfl, rfl, rfl, rfl, trivial⟩ ?_
     rintro m q p out w4 ⟨hm, hq, hp1, hpk, S⟩
     have hpl : p = (strm (ws.take i) (vs.take i)).length + m := by rw [hp1]; simp [bitsOf_len, hm]
     refine Run.seq ?_
     refine Run.seq ?_
     refine Run.region ?_
     refine mv1 rfl rfl ?_
     refine geq1 rfl rfl rfl ?_
     refine Ro.nil ?_
     refine Nrm.code ?_
     refine Run.cond rfl (fun hc15 => ?_) (fun hc15 => ?_)
     ·
      try simp only [Bool.or_eq_true, Bool.and_eq_true, Bool.or_eq_false_iff, Bool.and_eq_false_iff, decide_eq_true_eq, decide_eq_false_iff_not, Bool.not_eq_true', Bool.not_eq_false', Bool.not_eq_true, Bool.not_eq_false] at hc15
      refine Run.skip ?_
      refine Nrm.code ?_
      refine Run.seq ?_
      refine Run.block ?_
      refine Run.seq ?_
      refine Run.region ?_
      refine mv1 rfl rfl ?_
      refine mv1 rfl rfl ?_
      refine quo1 rfl rfl rfl (by decide) (q64 (by omega)) ?_
      refine ixa rfl rfl (S.slI (i := 0) rfl) e26 rfl rfl rfl rfl (fun _ => by have := hpk.1; omega) ?_
      refine ldB rfl (S.bsI (i := 0) rfl hpk.2.1) (St.refl [] _) T5 rfl rfl rfl (fun _ => by have := hpk.1; omega) ?_
      intro x hx hbx
      try simp only [Int.toNat_natCast, Nat.mul_one] at hx
      refine mv1 rfl rfl ?_
      refine mv1 rfl rfl ?_
      refine cvi1 rfl rfl Tryd.underlying3 Tryd.underlying135 (wu64 (by omega)) ?_
      refine shr rfl rfl rfl rfl rfl rfl (fun _ => by omega) (fun _ => shV (by omega)) ?_
      have hvd := div_pow_bd (x := q39) (by omega) q.toNat
      refine band rfl rfl rfl rfl rfl rfl (fun _ => anI1 hvd) ?_
      refine cvi1 rfl rfl Tryd.underlying3 Tryd.underlying5 (w8 (by omega)) ?_
      refine mv1 rfl rfl ?_
      refine rem1 rfl rfl rfl (by decide) (r64 (by omega)) ?_
      refine cvi1 rfl rfl Tryd.underlying3 Tryd.underlying135 (wu64 (by omega)) ?_
      refine sub1 rfl rfl rfl (wu64 (by omega)) ?_
      refine shl rfl rfl rfl rfl rfl rfl (fun _ => by omega) (fun _ => slU8) ?_
      refine bor rfl rfl rfl rfl rfl rfl (fun _ => orU8) ?_
      refine ixa rfl rfl (S.slI (i := 0) rfl) e26 rfl rfl rfl rfl (fun _ => by have := hpk.1; omega) ?_
      refine stB rfl rfl T5 S (i := 0) rfl (by have := hpk.1; omega) rfl ?_
      intro w5 S
      refine Ro.nil ?_
      refine Nrm.code ?_
      refine Run.region ?_
      refine mv1 rfl rfl ?_
      refine add1 rfl rfl rfl (w64 (by omega)) ?_
      refine asg1 rfl rfl ?_
      refine Ro.nil ?_
      refine Nrm.blk ?_
      refine Nrm.code ?_
      refine Run.region ?_
      refine mv1 rfl rfl ?_
      refine sub1 rfl rfl rfl (w64 (by omega)) ?_
      refine asg1 rfl rfl ?_
      refine Ro.nil ?_
      refine Nrm.loop4 (m + 1) (_) (p + 1) (_) ⟨by omega, by omega, by
       rw [bitsOf_take_succ (by omega), ← List.append_assoc, List.length_append, ← hp1]; rfl, by
       rw [bitsOf_take_succ (by omega), ← List.append_assoc]
       have hst := hpk.step (b := q39 / 2 ^ (q35.toNat - 1 - m) % 2) (by omega) (by omega)
       rw [← hp1] at hst
       rw [show q.toNat = q35.toNat - 1 - m from by omega, hx]
       exact hst, S⟩ (by omega) ⟨rfl, rfl, rfl, rfl, rfl, rfl, rfl, rfl, rfl, trivial⟩
     ·
      try simp only [Bool.or_eq_true, Bool.and_eq_true, Bool.or_eq_false_iff, Bool.and_eq_false_iff, decide_eq_true_eq, decide_eq_false_iff_not, Bool.not_eq_true', Bool.not_eq_false', Bool.not_eq_true, Bool.not_eq_false] at hc15
      have hm2 : m = q35.toNat := by omega
      have htk : (bitsOf q39 q35.toNat).take m = bitsOf q39 q35.toNat := List.take_of_length_le (by rw [bitsOf_len]; omega)
      have hEq : strm (ws.take (i + 1)) (vs.take (i + 1)) = strm (ws.take i) (vs.take i) ++ (bitsOf q39 q35.toNat).take m := by rw [strm_take_succ (by omega) hvl, ← hq39, ← hq35, htk]
      refine Run.exit ?_
      refine Lv.code ?_
      refine Lv.back ?_
      refine Lv.hit ?_
      refine Nrm.blk ?_
      refine Nrm.code ?_
      refine Run.region ?_
      refine add1 rfl rfl rfl (w64 (by omega)) ?_
      refine mv1 rfl rfl ?_
      refine Ro.nil ?_
      refine Nrm.loop3 (i + 1) (p) (_) ⟨by omega, by rw [hp1, hEq], by rw [hEq]; exact hpk, S⟩ (by omega) ⟨rfl, rfl, rfl, rfl, rfl, rfl, rfl, trivial⟩
   ·
    try simp only [Bool.or_eq_true, Bool.and_eq_true, Bool.or_eq_false_iff, Bool.and_eq_false_iff, decide_eq_true_eq, decide_eq_false_iff_not, Bool.not_eq_true', Bool.not_eq_false', Bool.not_eq_true, Bool.not_eq_false] at hc9
    refine Run.exit ?_
    refine Lv.code ?_
    refine Lv.back ?_
    refine Lv.hit ?_
    refine Nrm.code ?_
    refine Run.seq ?_
    refine Run.region ?_
    refine mv1 rfl rfl ?_
    refine asg1 rfl rfl ?_
    refine asg1 rfl rfl ?_
    refine Ro.nil ?_
    refine Nrm.code ?_
    refine Run.ret ?_
    refine Rt.two rfl rfl rfl ?_
    have e : i = ws.length := by omega
    have e2 : vs.take i = vs := List.take_of_length_le (by omega)
    rw [e2, e, List.take_length] at hpk0
    exact ⟨u, out, rfl, S.toFB (i := 0) rfl, by rw [hnb]; exact hpk0⟩
end Go.Proofs.YtkahmepenjhcpaaDoor.W
/- The base of this seat's proofs, tenth part: addresses compared, arrays written. No statement of the seat is proved here. -/
namespace Go.Proofs.YtkahmepenjhcpaaDoor.W
open Go
set_option linter.unusedSimpArgs false
def arrC (f : Nat → Int) : List Value := [u8 (f 0), u8 (f 1), u8 (f 2), u8 (f 3), u8 (f 4), u8 (f 5), u8 (f 6), u8 (f 7), u8 (f 8), u8 (f 9), u8 (f 10), u8 (f 11), u8 (f 12), u8 (f 13), u8 (f 14), u8 (f 15)]
theorem arrC_at (f : Nat → Int) : ∀ i, i < 16 → (arrC f)[i]? = some (u8 (f i))
  | 0, _ => rfl | 1, _ => rfl | 2, _ => rfl | 3, _ => rfl | 4, _ => rfl | 5, _ => rfl | 6, _ => rfl | 7, _ => rfl
  | 8, _ => rfl | 9, _ => rfl | 10, _ => rfl | 11, _ => rfl | 12, _ => rfl | 13, _ => rfl | 14, _ => rfl | 15, _ => rfl
  | n + 16, h => by omega
theorem encIP_at (x : IP) : ∀ i, i < 16 → (encIP x)[1 + i]? = some (u8 (x.a i))
  | 0, _ => rfl | 1, _ => rfl | 2, _ => rfl | 3, _ => rfl | 4, _ => rfl | 5, _ => rfl | 6, _ => rfl | 7, _ => rfl
  | 8, _ => rfl | 9, _ => rfl | 10, _ => rfl | 11, _ => rfl | 12, _ => rfl | 13, _ => rfl | 14, _ => rfl | 15, _ => rfl
  | n + 16, h => by omega
theorem agg5 (w : World) : (isAgg 5).run Tryd.prog w = .ok false w := by kernel_rfl
theorem cells5 : Tryd.prog.cellsOf 5 = 1 := by kernel_rfl
theorem part_arr (f : Nat → Int) (w : World) {i : Nat} (h : i < 16) : (part 5 (arrC f).toArray (i * 1)).run Tryd.prog w = .ok (u8 (f i)) w := by
  have := arrC_at f i h
  simp [part, agg5, this]
def sameA (f g : Nat → Int) : Bool := (List.range 16).all fun i => decide (f i = g i)
theorem sameA_iff {f g : Nat → Int} : sameA f g = true ↔ ∀ i, i < 16 → f i = g i := by simp [sameA]
theorem items_arr (f g : Nat → Int) (w : World) (d : Nat) : ∀ is : List Nat, (∀ i ∈ is, i < 16) → (Op.eqItems (d + 1) 5 1 (arrC f).toArray (arrC g).toArray is).run Tryd.prog w = .ok (is.all fun i => decide (f i = g i)) w
  | [], _ => rfl
  | i :: is, h => by
    have hi := h i (by simp)
    simp only [Op.eqItems, Sem.run_bind, part_arr f w hi, Result.andThen_ok, part_arr g w hi, run_equalIn_int w d 5 .u8 .u8 (f i) (g i) Tryd.underlying5]
    have ih := items_arr f g w d is (fun j hj => h j (by simp [hj]))
    by_cases e : f i = g i
    · simp [e, ih]
    · simp [e]
theorem eq22 (f g : Nat → Int) (w : World) (d : Nat) : (Op.equalIn (d + 2) 22 (.agg (arrC f).toArray) (.agg (arrC g).toArray)).run Tryd.prog w = .ok (sameA f g) w := by
  obtain ⟨i, z, dd, h1, _⟩ := T5.get
  rw [run_equalIn_array w (d + 1) _ _ Tryd.underlying22 h1, cells5, items_arr f g w d _ (fun i hi => by simpa using hi)]
  rfl
theorem encIP_arr (x : IP) : encIP x = i64 x.v :: arrC x.a := rfl
theorem guard22 : Tryd.prog.eqGuardType Tryd.prog.depth 22 = false := by kernel_rfl
theorem guard24 : Tryd.prog.eqGuardType Tryd.prog.depth 24 = false := by kernel_rfl
theorem stood24 : Tryd.prog.stoodInHeld 24 = false := by kernel_rfl
theorem sm24 (w : World) : (isAgg 3).run Tryd.prog w = .ok false w ∧ (isAgg 22).run Tryd.prog w = .ok true w ∧ (sizeOf 22).run Tryd.prog w = .ok 16 w := ⟨by kernel_rfl, by kernel_rfl, by kernel_rfl⟩
def sameB (x y : IP) : Bool := decide (x.v = y.v) && sameA x.a y.a
theorem sameB_iff {x y : IP} : sameB x y = true ↔ x.same y := by simp [sameB, sameA_iff, IP.same]
theorem fields24 (w : World) (d : Nat) (x y : IP) (p2 : ∀ z : IP, (part 22 (encIP z).toArray 1).run Tryd.prog w = .ok (.agg (arrC z.a).toArray) w) (p1 : ∀ z : IP, (part 3 (encIP z).toArray 0).run Tryd.prog w = .ok (i64 z.v) w)
    (fs : List Field) (hf : fs.map (fun f => (f.name, f.type, f.offset)) = [("V", 3, 0), ("A", 22, 1)]) : (Op.eqFields (d + 2) (encIP x).toArray (encIP y).toArray fs).run Tryd.prog w = .ok (sameB x y) w := by
  rcases fs with _ | ⟨f1, _ | ⟨f2, _ | ⟨f3, fs⟩⟩⟩
  · simp at hf
  · simp at hf
  · simp only [List.map_cons, List.map_nil, List.cons.injEq, Prod.mk.injEq, and_true] at hf
    obtain ⟨⟨n1, t1, o1⟩, n2, t2, o2⟩ := hf
    have m1 : f1.name ≠ "_" := by rw [n1]; decide
    have m2 : f2.name ≠ "_" := by rw [n2]; decide
    have e1 := run_equalIn_int (P := Tryd.prog) w (d + 1) 3 .i64 .i64 x.v y.v Tryd.underlying3
    have e2 := eq22 x.a y.a w d
    simp only [Op.eqFields, t1, t2, o1, o2]
    rw [if_pos m1, if_pos m2]
    rw [Sem.run_bind, p1, Result.andThen_ok, Sem.run_bind, p1, Result.andThen_ok, Sem.run_bind, e1, Result.andThen_ok]
    unfold sameB
    by_cases e : x.v = y.v
    · have e' : (x.v == y.v) = true := by simp [e]
      rw [e']
      simp only [Bool.not_true, Bool.false_eq_true, if_false]
      rw [Sem.run_bind, p2, Result.andThen_ok, Sem.run_bind, p2, Result.andThen_ok, Sem.run_bind, e2, Result.andThen_ok]
      cases sameA x.a y.a <;> simp [e]
    · have e' : (x.v == y.v) = false := by simp [e]
      rw [e']
      simp [e]
  · simp at hf
theorem eq24 (x y : IP) (w : World) (d : Nat) : (Op.equalIn (d + 3) 24 (.agg (encIP x).toArray) (.agg (encIP y).toArray)).run Tryd.prog w = .ok (sameB x y) w := by
  have hu : Tryd.prog.underlying 24 = some (.struct (Tryd.prog.fieldsOf 24)) := by kernel_rfl
  have hf : (Tryd.prog.fieldsOf 24).toList.map (fun f => (f.name, f.type, f.offset)) = [("V", 3, 0), ("A", 22, 1)] := by kernel_rfl
  rw [run_equalIn_struct w (d + 2) 24 _ _ hu stood24]
  refine fields24 w d x y ?_ ?_ _ hf
  · intro z; simp [part, (sm24 w).2.1, (sm24 w).2.2, encIP_arr, arrC]
  · intro z; simp [part, (sm24 w).1, encIP]
section op
variable {R : Qp} {ds : List Deferred} {n : Nat} {l : Env} {k : List KI} {w w0 : World} {ops : Array Oper} {os : List Oper} {C : World → Prop}
variable {d : Nat} {G gx gy ex ey : Gs} {ty yt : TypeId} {ps : String} {af : Array Edge} {gu : Option (Nat × Bool)} {x y : Operand} {N0 : List Nat} {L L' : List Own}
theorem eqA_run (f g : Nat → Int) (w : World) : (do eqGuard .eql 22 x y (.agg (arrC f).toArray) (.agg (arrC g).toArray); binOp .eql 22 (.agg (arrC f).toArray) (.agg (arrC g).toArray) : Sem Value).run Tryd.prog w = .ok (.bool (sameA f g)) w := by
  rw [Sem.run_bind, run_eqGuard_agg w .eql 22 x y _ _ guard22, Result.andThen_ok, run_eql_struct, eq22 f g w 9998]
  rfl
theorem eqA (f g : Nat → Int) (hx : ev l x = some (gx, .agg (arrC f).toArray)) (hy : ev l y = some (gy, .agg (arrC g).toArray)) (hG : gd ops l gu = some G) (hpx : G = gx ++ ex) (hpy : G = gy ++ ey) (hn : Nat.blt d n = true)
    (h : Ro Tryd.prog R ds n ops ((d, G, .bool (sameA f g)) :: l) os k w) :
    Ro Tryd.prog R ds n ops l ({ dst := some d, op := .binOp .eql 22 x y yt, type := ty, pos := ps, after := af, guard := gu } :: os) k w :=
  bin hx hy hG hpx hpy hn (fun _ => eqA_run f g w) h
theorem neI_run (a b : IP) (w : World) : (do eqGuard .neq 24 x y (.agg (encIP a).toArray) (.agg (encIP b).toArray); binOp .neq 24 (.agg (encIP a).toArray) (.agg (encIP b).toArray) : Sem Value).run Tryd.prog w = .ok (.bool (!sameB a b)) w := by
  rw [Sem.run_bind, run_eqGuard_agg w .neq 24 x y _ _ guard24, Result.andThen_ok, run_neq_struct, eq24 a b w 9997]
  rfl
theorem neI (a b : IP) (hx : ev l x = some (gx, .agg (encIP a).toArray)) (hy : ev l y = some (gy, .agg (encIP b).toArray)) (hG : gd ops l gu = some G) (hpx : G = gx ++ ex) (hpy : G = gy ++ ey) (hn : Nat.blt d n = true)
    (h : Ro Tryd.prog R ds n ops ((d, G, .bool (!sameB a b)) :: l) os k w) :
    Ro Tryd.prog R ds n ops l ({ dst := some d, op := .binOp .neq 24 x y yt, type := ty, pos := ps, after := af, guard := gu } :: os) k w :=
  bin hx hy hG hpx hpy hn (fun _ => neI_run a b w) h
theorem neA (f g : Nat → Int) (hx : ev l x = some (gx, .agg (arrC f).toArray)) (hy : ev l y = some (gy, .agg (arrC g).toArray)) (hG : gd ops l gu = some G) (hpx : G = gx ++ ex) (hpy : G = gy ++ ey) (hn : Nat.blt d n = true)
    (h : Ro Tryd.prog R ds n ops ((d, G, .bool (!sameA f g)) :: l) os k w) :
    Ro Tryd.prog R ds n ops l ({ dst := some d, op := .binOp .neq 22 x y yt, type := ty, pos := ps, after := af, guard := gu } :: os) k w :=
  bin hx hy hG hpx hpy hn (fun _ => by
    rw [Sem.run_bind, run_eqGuard_agg w .neq 22 x y _ _ guard22, Result.andThen_ok, run_neq_struct, eq22 f g w 9998]; rfl) h
/-- an element's address in an array that is a variable's -/
theorem ixP {P : Program} {T E : TypeId} {m sz b off : Nat} {zc : List Value} {ag : Bool} {kd : IntKind} {i : Int} {o' : Nat} (hx : ev l x = some (gx, .pointer (some ⟨b, off, none⟩))) (hy : ev l y = some (gy, .int kd i)) (hu : P.underlying T = some (.array m E)) (hE : TyI P E sz ag zc)
    (hG : gd ops l gu = some G) (hpx : G = gx ++ ex) (hpy : G = gy ++ ey) (hn : Nat.blt d n = true) (hb : allT G → 0 ≤ i ∧ i < m) (ho : off + i.toNat * sz = o')
    (h : Ro P R ds n ops ((d, G, .pointer (some ⟨b, o', none⟩)) :: l) os k w) :
    Ro P R ds n ops l ({ dst := some d, op := .indexAddr T x y, type := ty, pos := ps, after := af, guard := gu } :: os) k w := by
  subst ho
  obtain ⟨i1, z, dd, g1, g2, _⟩ := hE.get
  refine opv hG rfl hn ?_ h
  intro hT a ha
  have hb' := hb hT
  simp [execOp, ha.eval hx (pre_T hpx hT), ha.eval hy (pre_T hpy hT), Instr.indexAt, asIntOf, run_underlying hu, Instr.sureAddr, hb'.1, hb'.2, sizeOf, typeInfo, g1, g2, add_new]
end op
/-! ### addresses -/
def fourB (x : IP) : Bool := decide (x.v = 4) && (List.range 16).all fun i => decide (i < 4) || decide (x.a i = 0)
def verI (x : IP) : Int := if x.v = 6 then 6 else if fourB x then 4 else 0
def ip4of (a b c d : Int) : IP := ⟨4, fun i => if i = 0 then a else if i = 1 then b else if i = 2 then c else if i = 3 then d else 0⟩
end Go.Proofs.YtkahmepenjhcpaaDoor.W
/- Contracts: addresses. No statement of the seat is proved here. -/
namespace Go.Proofs.YtkahmepenjhcpaaDoor.W
open Go
set_option linter.unusedSimpArgs false
set_option linter.unusedVariables false
theorem slAT {P : Program} {R : Qp} {ds : List Deferred} {n : Nat} {l : Env} {k : List KI} {w : World} {ops : Array Oper} {os : List Oper} {d : Nat} {G gx ex : Gs} {ty : TypeId} {ps : String} {af : Array Edge} {gu : Option (Nat × Bool)} {x : Operand}
    {T E : TypeId} {m hi b off sz : Nat} {ag : Bool} {zc : List Value} {o2 : Option Operand} {i2 : Option Nat} (hx : ev l x = some (gx, .pointer (some ⟨b, off, none⟩))) (hu : P.underlying T = some (.array m E)) (hi' : TyI P E sz ag zc)
    (hG : gd ops l gu = some G) (hpx : G = gx ++ ex) (hn : Nat.blt d n = true) (h2 : bnd l G o2 i2) (e2 : i2.getD m = hi) (hb : Nat.ble hi m = true) (h0 : m ≠ 0)
    (h : Ro P R ds n ops ((d, G, .slice (some ⟨b, off, none⟩) hi m) :: l) os k w) :
    Ro P R ds n ops l ({ dst := some d, op := .slice T x none o2 none, type := ty, pos := ps, after := af, guard := gu } :: os) k w := by
  obtain ⟨ei, _, _, he, _⟩ := hi'.get
  exact slA hx hu he hG hpx hn h2 e2 hb h0 h
theorem four_of {l : List Int} (h : l.length = 4) : ∃ a b c d, l = [a, b, c, d] := by
  rcases l with _ | ⟨a, _ | ⟨b, _ | ⟨c, _ | ⟨d, _ | ⟨e, l⟩⟩⟩⟩⟩ <;> simp at h
  exact ⟨a, b, c, d, rfl⟩
def ipOf (l : List Int) (i : Nat) : IP := ip4of (l.getD i 0) (l.getD (i + 1) 0) (l.getD (i + 2) 0) (l.getD (i + 3) 0)
def ipPre (l : List Int) (k i : Nat) : IP := ⟨4, fun j => if j < i then l.getD (k + j) 0 else 0⟩
theorem encIP_put (v : Int) (f : Nat → Int) (x : Int) : ∀ i, i < 16 → putN (encIP ⟨v, f⟩) (1 + i) [u8 x] = some (encIP ⟨v, fun j => if j = i then x else f j⟩)
  | 0, _ => rfl | 1, _ => rfl | 2, _ => rfl | 3, _ => rfl | 4, _ => rfl | 5, _ => rfl | 6, _ => rfl | 7, _ => rfl
  | 8, _ => rfl | 9, _ => rfl | 10, _ => rfl | 11, _ => rfl | 12, _ => rfl | 13, _ => rfl | 14, _ => rfl | 15, _ => rfl
  | n + 16, h => by omega
theorem encIP_all1 (x : IP) : ∀ u ∈ encIP x, u.oneCell' = true := by simp [encIP, Value.oneCell', u8, i64]
theorem encIP_get (x : IP) : ∀ i, i < 16 → getN (encIP x) (1 + i) = some (u8 (x.a i)) := fun i h => by rw [getN_eq]; exact encIP_at x i h
theorem encIP_put' {v : Int} {f g : Nat → Int} {x : Int} {i : Nat} (hi : i < 16) (hg : ∀ j, g j = if j = i then x else f j) {c' : List Value} (hc : c' = encIP ⟨v, g⟩) : putN (encIP ⟨v, f⟩) (1 + i) [u8 x] = some c' := by
  have e : g = fun j => if j = i then x else f j := funext hg
  rw [hc, e]; exact encIP_put v f x i hi
theorem fourB_def {x : IP} : fourB x = (decide (x.v = 4) && sameA x.a (fun i => if i < 4 then x.a i else 0)) := by
  unfold fourB sameA
  congr 1
  congr 1
  funext i
  by_cases h : i < 4 <;> simp [h]
def zeroFrom (x : IP) (i : Nat) : Prop := ∀ j, 4 ≤ j → j < i → x.a j = 0
theorem fourB_of {x : IP} {i : Nat} (h : zeroFrom x i) (hi : 16 ≤ i) : fourB x = decide (x.v = 4) := by
  unfold fourB
  have : (List.range 16).all (fun i => decide (i < 4) || decide (x.a i = 0)) = true := by
    simp only [List.all_eq_true, List.mem_range, Bool.or_eq_true, decide_eq_true_eq]
    intro j hj
    rcases Nat.lt_or_ge j 4 with h4 | h4
    · exact Or.inl h4
    · exact Or.inr (h j h4 (by omega))
  rw [this]; simp
theorem fourB_no {x : IP} {i : Nat} (h4 : 4 ≤ i) (hi : i < 16) (h : x.a i ≠ 0) : fourB x = false := by
  unfold fourB
  have : (List.range 16).all (fun i => decide (i < 4) || decide (x.a i = 0)) = false := by
    rw [List.all_eq_false]
    exact ⟨i, by simpa using hi, by simp [h]; omega⟩
  rw [this]; simp
set_option maxHeartbeats 1000000 in
theorem c103 (v : Value) (l : List Int) (w : World) (hl : BS [] w v l) (h4 : l.length = 4) :
  CallsD Tryd.prog 103 #[v] w (.agg (encIP (ipOf l 0)).toArray) := by
 refine enter Tryd.func103 rfl Tryd.ntmps103 (l := [(0, [], _)]) rfl rfl ?_
 have S := St.refl [] w
 obtain ⟨a, b, c, d, rfl⟩ := four_of h4
 refine Run.seq ?_
 refine Run.region ?_
 refine alc T24 S rfl ?_
 intro b2 w1 hb2 S B_
 refine Ro.nil ?_
 refine Nrm.code ?_
 refine Run.seq ?_
 refine Run.region ?_
 refine bld B24 (qs := [(_, _)]) ⟨⟨_, _, _, rfl, rfl, rfl, rfl, by simp [Value.cells]⟩, trivial⟩ rfl rfl rfl ?_
 refine alc T24 S rfl ?_
 intro b3 w2 hb3 S B_
 refine stW rfl rfl T24 rfl rfl (by simp [Value.oneCell']) S (i := 0) rfl rfl ?_
 intro w3 S
 refine Ro.nil ?_
 refine Nrm.code ?_
 refine Run.seq ?_
 refine Run.region ?_
 refine fld (o' := 1) rfl fo24_1 rfl rfl rfl rfl ?_
 refine slAT rfl Tryd.underlying22 T5 rfl rfl rfl (i2 := some 4) ⟨_, _, _, rfl, rfl⟩ rfl (by decide) (by decide) ?_
 refine mv1 rfl rfl ?_
 refine cpV (ys := [u8 a, u8 b, u8 c, u8 d]) rfl rfl e26 (hl.now S).2 (by simp [Value.oneCell']) (by decide) S (i := 0) rfl rfl rfl rfl ?_
 intro wc S
 refine Ro.nil ?_
 refine Nrm.code ?_
 refine Run.seq ?_
 refine Run.region ?_
 refine ldW rfl T24 S (i := 0) rfl rfl rfl rfl rfl ?_
 refine stW rfl rfl T24 rfl rfl (by simp [Value.oneCell']) S (i := 1) rfl rfl ?_
 intro w4 S
 refine Ro.nil ?_
 refine Nrm.code ?_
 refine Run.ret ?_
 refine Rt.cell1 rfl rfl T24 S (i := 1) rfl rfl ?_
 exact ⟨rfl, S.bl⟩
set_option maxHeartbeats 1000000 in
theorem c156 (x : IP) (w : World) :
  CallsD Tryd.prog 156 #[.agg (encIP x).toArray] w (.bool (fourB x)) := by
 refine enter Tryd.func156 rfl Tryd.ntmps156 (l := [(0, [], _)]) rfl rfl ?_
 have S := St.refl [] w
 refine Run.seq ?_
 refine Run.region ?_
 refine boxA rfl S rfl ?_
 intro b1 w1 hb1 S B_
 refine asg1 rfl rfl ?_
 refine Ro.nil ?_
 refine Nrm.code ?_
 refine Run.seq ?_
 refine Run.seq ?_
 refine Run.region ?_
 refine asg1 rfl rfl ?_
 refine Ro.nil ?_
 refine Nrm.code ?_
 refine Run.block ?_
 refine Run.loop2 (fun (i : Nat) (b1 : Nat) w_ => 4 ≤ i ∧ i ≤ 16 ∧ zeroFrom x i ∧ St [] w [.var b1 24 (encIP x)] w_) (fun (i : Nat) (b1 : Nat) => [(1, [], .pointer (some ⟨b1, 0, none⟩)), (3, [], .int .i64 i)]) (fun (i : Nat) (b1 : Nat) => 16 - i) (4) (b1) ⟨Nat.le_refl _, by omega, fun j h1 h2 => by omega, S⟩ ⟨rfl, rfl, trivial⟩ ?_
 rintro i b1 w2 ⟨h4, hi, hz, S⟩
 refine Run.seq ?_
 refine Run.seq ?_
 refine Run.region ?_
 refine mv1 rfl rfl ?_
 refine lss1 rfl rfl rfl ?_
 refine Ro.nil ?_
 refine Nrm.code ?_
 refine Run.cond rfl (fun hc2 => ?_) (fun hc2 => ?_)
 ·
  try simp only [Bool.or_eq_true, Bool.and_eq_true, Bool.or_eq_false_iff, Bool.and_eq_false_iff, decide_eq_true_eq, decide_eq_false_iff_not, Bool.not_eq_true', Bool.not_eq_false', Bool.not_eq_true, Bool.not_eq_false] at hc2
  refine Run.skip ?_
  refine Nrm.code ?_
  refine Run.seq ?_
  refine Run.block ?_
  refine Run.seq ?_
  refine Run.region ?_
  refine mv1 rfl rfl ?_
  refine fld (o' := 1) rfl fo24_1 rfl rfl rfl rfl ?_
  refine ixP rfl rfl Tryd.underlying22 T5 rfl rfl rfl rfl (fun _ => by omega) rfl ?_
  refine ld1 rfl T5 S (i := 0) rfl (v := u8 (x.a i)) (by rw [show 1 + (i : Int).toNat * 1 = 1 + i from by omega]; exact encIP_get x i (by omega)) rfl rfl rfl ?_
  refine neq1 rfl rfl rfl ?_
  refine Ro.nil ?_
  refine Nrm.code ?_
  refine Run.cond rfl (fun hc4 => ?_) (fun hc4 => ?_)
  ·
   try simp only [Bool.or_eq_true, Bool.and_eq_true, Bool.or_eq_false_iff, Bool.and_eq_false_iff, decide_eq_true_eq, decide_eq_false_iff_not, Bool.not_eq_true', Bool.not_eq_false', Bool.not_eq_true, Bool.not_eq_false] at hc4
   refine Run.seq ?_
   refine Run.region ?_
   refine asg1 rfl rfl ?_
   refine Ro.nil ?_
   refine Nrm.code ?_
   refine Run.ret ?_
   refine Rt.one rfl rfl ?_
   exact ⟨by rw [fourB_no h4 (by omega) hc4], S.bl⟩
  ·
   try simp only [Bool.or_eq_true, Bool.and_eq_true, Bool.or_eq_false_iff, Bool.and_eq_false_iff, decide_eq_true_eq, decide_eq_false_iff_not, Bool.not_eq_true', Bool.not_eq_false', Bool.not_eq_true, Bool.not_eq_false] at hc4
   have hz4 : x.a i = 0 := by omega
   refine Run.skip ?_
   refine Nrm.blk ?_
   refine Nrm.code ?_
   refine Run.region ?_
   refine mv1 rfl rfl ?_
   refine add1 rfl rfl rfl (w64 (by omega)) ?_
   refine asg1 rfl rfl ?_
   refine Ro.nil ?_
   refine Nrm.loop2 (i + 1) (b1) ⟨by omega, by omega, fun j h1 h2 => by rcases Nat.lt_or_ge j i with h | h; exact hz j h1 h; exact (show j = i by omega) ▸ hz4, S⟩ (by omega) ⟨rfl, rfl, trivial⟩
 ·
  try simp only [Bool.or_eq_true, Bool.and_eq_true, Bool.or_eq_false_iff, Bool.and_eq_false_iff, decide_eq_true_eq, decide_eq_false_iff_not, Bool.not_eq_true', Bool.not_eq_false', Bool.not_eq_true, Bool.not_eq_false] at hc2
  refine Run.exit ?_
  refine Lv.code ?_
  refine Lv.back ?_
  refine Lv.hit ?_
  refine Nrm.code ?_
  refine Run.seq ?_
  refine Run.region ?_
  refine fld (o' := 0) rfl fo24_0 rfl rfl rfl rfl ?_
  refine ld1 rfl T3 S (i := 0) rfl rfl rfl rfl rfl ?_
  refine eql1 rfl rfl rfl ?_
  refine asg1 rfl rfl ?_
  refine Ro.nil ?_
  refine Nrm.code ?_
  refine Run.ret ?_
  refine Rt.one rfl rfl ?_
  exact ⟨by rw [fourB_of hz (by omega)], S.bl⟩
set_option maxHeartbeats 1000000 in
theorem c113 (v : Value) (l : List Int) (k : Nat) (w : World) (hl : BS [] w v l) (hk : k + 4 ≤ l.length) (hll : l.length ≤ 1099511627776) :
    CallsD Tryd.prog 113 #[v, .int .i64 k] w (.agg (encIP (ipOf l k)).toArray) := by
  refine enter Tryd.func113 rfl Tryd.ntmps113 (l := [(0, [], _), (1, [], _)]) rfl rfl ?_
  have S := St.refl [] w
  refine Run.seq ?_
  refine Run.region ?_
  refine alc T24 S rfl ?_
  intro b4 w1 hb4 S B_
  refine Ro.nil ?_
  refine Nrm.code ?_
  refine Run.seq ?_
  refine Run.region ?_
  refine bld B24 (qs := [(_, _)]) ⟨⟨_, _, _, rfl, rfl, rfl, rfl, by simp [Value.cells]⟩, trivial⟩ rfl rfl rfl ?_
  refine alc T24 S rfl ?_
  intro b5 w2 hb5 S B_
  refine stW rfl rfl T24 rfl rfl (by simp [Value.oneCell']) S (i := 0) rfl rfl ?_
  intro w3 S
  refine Ro.nil ?_
  refine Nrm.code ?_
  refine Run.seq ?_
  refine Run.seq ?_
  refine Run.region ?_
  refine asg1 rfl rfl ?_
  refine Ro.nil ?_
  refine Nrm.code ?_
  refine Run.block ?_
  refine Run.loop4 (fun (i : Nat) (b4 : Nat) (b5 : Nat) (c4 : List Value) w_ => i ≤ 4 ∧ c4.length = 17 ∧ St [] w [.var b5 24 (encIP (ipPre l k i)), .var b4 24 c4] w_) (fun (i : Nat) (b4 : Nat) (b5 : Nat) (c4 : List Value) => [(0, [], v), (1, [], .int .i64 k), (4, [], .pointer (some ⟨b4, 0, none⟩)), (5, [], .pointer (some ⟨b5, 0, none⟩)), (6, [], .int .i64 i)]) (fun (i : Nat) (b4 : Nat) (b5 : Nat) (c4 : List Value) => 4 - i) (0) (b4) (b5) (_) ⟨by omega, rfl, S⟩ ⟨rfl, rfl, rfl, rfl, rfl, trivial⟩ ?_
  rintro i b4 b5 c4 w4 ⟨hi, hc4, S⟩
  refine Run.seq ?_
  refine Run.seq ?_
  refine Run.region ?_
  refine mv1 rfl rfl ?_
  refine lss1 rfl rfl rfl ?_
  refine Ro.nil ?_
  refine Nrm.code ?_
  refine Run.cond rfl (fun hc3 => ?_) (fun hc3 => ?_)
  ·
    try simp only [Bool.or_eq_true, Bool.and_eq_true, Bool.or_eq_false_iff, Bool.and_eq_false_iff, decide_eq_true_eq, decide_eq_false_iff_not, Bool.not_eq_true', Bool.not_eq_false', Bool.not_eq_true, Bool.not_eq_false] at hc3
    refine Run.skip ?_
    refine Nrm.code ?_
    refine Run.seq ?_
    refine Run.block ?_
    refine Run.region ?_
    refine mv1 rfl rfl ?_
    refine mv1 rfl rfl ?_
    refine mv1 rfl rfl ?_
    refine mv1 rfl rfl ?_
    refine add1 rfl rfl rfl (w64 (by omega)) ?_
    refine ixa rfl rfl hl.2 e26 rfl rfl rfl rfl (fun _ => by omega) ?_
    refine ldB rfl hl S T5 rfl rfl rfl (fun _ => by omega) ?_
    intro q18 hq18 hbq18
    try simp only [Int.toNat_natCast, Nat.mul_one] at hq18
    refine fld (o' := 1) rfl fo24_1 rfl rfl rfl rfl ?_
    refine ixP rfl rfl Tryd.underlying22 T5 rfl rfl rfl rfl (fun _ => by omega) rfl ?_
    have e18 : q18 = l.getD (k + i) 0 := by rw [hq18]; congr 1
    refine st1 rfl rfl T5 rfl S (i := 0) rfl (encIP_put' (g := fun j => if j < i + 1 then l.getD (k + j) 0 else 0) (i := (i : Int).toNat * 1) (by omega) (fun j => by
      rw [e18]
      by_cases h1 : j = i
      · subst h1; simp
      · have : j ≠ (i : Int).toNat * 1 := by omega
        rw [if_neg this]
        by_cases h2 : j < i
        · rw [if_pos h2, if_pos (by omega)]
        · rw [if_neg h2, if_neg (by omega)]) rfl) rfl ?_
    intro ws S
    refine Ro.nil ?_
    refine Nrm.blk ?_
    refine Nrm.code ?_
    refine Run.region ?_
    refine mv1 rfl rfl ?_
    refine add1 rfl rfl rfl (w64 (by omega)) ?_
    refine asg1 rfl rfl ?_
    refine Ro.nil ?_
    refine Nrm.loop4 (i + 1) (b4) (b5) (_) ⟨by omega, hc4, S⟩ (by omega) ⟨rfl, rfl, rfl, rfl, rfl, trivial⟩
  ·
    try simp only [Bool.or_eq_true, Bool.and_eq_true, Bool.or_eq_false_iff, Bool.and_eq_false_iff, decide_eq_true_eq, decide_eq_false_iff_not, Bool.not_eq_true', Bool.not_eq_false', Bool.not_eq_true, Bool.not_eq_false] at hc3
    refine Run.exit ?_
    refine Lv.code ?_
    refine Lv.back ?_
    refine Lv.hit ?_
    refine Nrm.code ?_
    refine Run.seq ?_
    refine Run.region ?_
    refine ldW rfl T24 S (i := 0) rfl rfl rfl rfl rfl ?_
    refine stW rfl rfl T24 rfl hc4 (encIP_all1 _) S (i := 1) rfl rfl ?_
    intro w5 S
    refine Ro.nil ?_
    refine Nrm.code ?_
    refine Run.ret ?_
    refine Rt.cell1 rfl rfl T24 S (i := 1) rfl rfl ?_
    exact ⟨by
        have e4 : i = 4 := by omega
        subst e4
        unfold ipOf ip4of ipPre encIP
        simp, S.bl⟩
end Go.Proofs.YtkahmepenjhcpaaDoor.W
/- Contracts: versions of addresses. No statement of the seat is proved here. -/
namespace Go.Proofs.YtkahmepenjhcpaaDoor.W
open Go
set_option linter.unusedSimpArgs false
set_option linter.unusedVariables false
theorem sameA_four {x : IP} {h : x.v = 4} : sameA x.a (fun i => if i < 4 then x.a i else 0) = fourB x := by rw [fourB_def, decide_eq_true h]; rfl
theorem verI4 {x : IP} (h : x.v = 4) : verI x = if fourB x then 4 else 0 := by unfold verI; rw [if_neg (by omega)]
theorem fourB_v {x : IP} (h : x.v ≠ 4) : fourB x = false := by rw [fourB_def, decide_eq_false h]; rfl
set_option maxHeartbeats 1000000 in
theorem c125 (x : IP) (w : World) :
  CallsD Tryd.prog 125 #[.agg (encIP x).toArray] w (.int .i64 (verI x)) := by
 refine enter Tryd.func125 rfl Tryd.ntmps125 (l := [(0, [], _)]) rfl rfl ?_
 have S := St.refl [] w
 refine Run.seq ?_
 refine Run.region ?_
 refine boxA rfl S rfl ?_
 intro b1 w1 hb1 S B_
 refine asg1 rfl rfl ?_
 refine Ro.nil ?_
 refine Nrm.code ?_
 refine Run.seq ?_
 refine Run.block ?_
 refine Run.seq ?_
 refine Run.region ?_
 refine fld (o' := 0) rfl fo24_0 rfl rfl rfl rfl ?_
 refine ld1 rfl T3 S (i := 0) rfl rfl rfl rfl rfl ?_
 refine eql1 rfl rfl rfl ?_
 refine asg1 rfl rfl ?_
 refine Ro.nil ?_
 refine Nrm.code ?_
 refine Run.cond rfl (fun hc1 => ?_) (fun hc1 => ?_)
 ·
  try simp only [Bool.or_eq_true, Bool.and_eq_true, Bool.or_eq_false_iff, Bool.and_eq_false_iff, decide_eq_true_eq, decide_eq_false_iff_not, Bool.not_eq_true', Bool.not_eq_false', Bool.not_eq_true, Bool.not_eq_false] at hc1
  refine Run.seq ?_
  refine Run.region ?_
  refine asg1 rfl rfl ?_
  refine Ro.nil ?_
  refine Nrm.code ?_
  refine Run.ret ?_
  refine Rt.one rfl rfl ?_
  exact ⟨by rw [verI, if_pos hc1], S.bl⟩
 ·
  try simp only [Bool.or_eq_true, Bool.and_eq_true, Bool.or_eq_false_iff, Bool.and_eq_false_iff, decide_eq_true_eq, decide_eq_false_iff_not, Bool.not_eq_true', Bool.not_eq_false', Bool.not_eq_true, Bool.not_eq_false] at hc1
  refine Run.seq ?_
  refine Run.region ?_
  refine fld (o' := 0) rfl fo24_0 rfl rfl rfl rfl ?_
  refine ld1 rfl T3 S (i := 0) rfl rfl rfl rfl rfl ?_
  refine neq1 rfl rfl rfl ?_
  refine asg1 rfl rfl ?_
  refine Ro.nil ?_
  refine Nrm.code ?_
  refine Run.cond rfl (fun hc3 => ?_) (fun hc3 => ?_)
  ·
   try simp only [Bool.or_eq_true, Bool.and_eq_true, Bool.or_eq_false_iff, Bool.and_eq_false_iff, decide_eq_true_eq, decide_eq_false_iff_not, Bool.not_eq_true', Bool.not_eq_false', Bool.not_eq_true, Bool.not_eq_false] at hc3
   refine Run.seq ?_
   refine Run.region ?_
   refine asg1 rfl rfl ?_
   refine Ro.nil ?_
   refine Nrm.code ?_
   refine Run.ret ?_
   refine Rt.one rfl rfl ?_
   exact ⟨by rw [verI, if_neg hc1, fourB_v hc3]; rfl, S.bl⟩
  ·
   try simp only [Bool.or_eq_true, Bool.and_eq_true, Bool.or_eq_false_iff, Bool.and_eq_false_iff, decide_eq_true_eq, decide_eq_false_iff_not, Bool.not_eq_true', Bool.not_eq_false', Bool.not_eq_true, Bool.not_eq_false] at hc3
   refine Run.skip ?_
   refine Nrm.blk ?_
   refine Nrm.code ?_
   refine Run.seq ?_
   refine Run.region ?_
   refine fld (o' := 1) rfl fo24_1 rfl rfl rfl rfl ?_
   refine ixP (o' := 1) rfl rfl Tryd.underlying22 T5 rfl rfl rfl rfl (fun _ => by decide) rfl ?_
   refine ld1 rfl T5 S (i := 0) rfl rfl rfl rfl rfl ?_
   refine fld (o' := 1) rfl fo24_1 rfl rfl rfl rfl ?_
   refine ixP (o' := 2) rfl rfl Tryd.underlying22 T5 rfl rfl rfl rfl (fun _ => by decide) rfl ?_
   refine ld1 rfl T5 S (i := 0) rfl rfl rfl rfl rfl ?_
   refine fld (o' := 1) rfl fo24_1 rfl rfl rfl rfl ?_
   refine ixP (o' := 3) rfl rfl Tryd.underlying22 T5 rfl rfl rfl rfl (fun _ => by decide) rfl ?_
   refine ld1 rfl T5 S (i := 0) rfl rfl rfl rfl rfl ?_
   refine fld (o' := 1) rfl fo24_1 rfl rfl rfl rfl ?_
   refine ixP (o' := 4) rfl rfl Tryd.underlying22 T5 rfl rfl rfl rfl (fun _ => by decide) rfl ?_
   refine ld1 rfl T5 S (i := 0) rfl rfl rfl rfl rfl ?_
   refine bldA rfl (sz := 1) (E := 5) (m := 16) Tryd.underlying22 T22 T5 (qs := [(_, _), (_, _), (_, _), (_, _)]) ⟨⟨_, _, _, rfl, rfl, rfl, rfl, by simp [Value.cells]⟩, ⟨_, _, _, rfl, rfl, rfl, rfl, by simp [Value.cells]⟩, ⟨_, _, _, rfl, rfl, rfl, rfl, by simp [Value.cells]⟩, ⟨_, _, _, rfl, rfl, rfl, rfl, by simp [Value.cells]⟩, trivial⟩ rfl rfl ?_
   refine alc T22 S rfl ?_
   intro b3 w2 hb3 S B_
   refine stW rfl rfl T22 rfl rfl (by simp [Value.oneCell']) S (i := 0) rfl rfl ?_
   intro w3 S
   refine Ro.nil ?_
   refine Nrm.code ?_
   refine Run.seq ?_
   refine Run.seq ?_
   refine Run.region ?_
   refine fld (o' := 1) rfl fo24_1 rfl rfl rfl rfl ?_
   refine ldA rfl T22 S (i := 1) rfl rfl rfl (by decide) rfl rfl rfl ?_
   refine ldW rfl T22 S (i := 0) rfl rfl rfl rfl rfl ?_
   refine neA (x.a) (fun i => if i < 4 then x.a i else 0) rfl rfl rfl rfl rfl rfl ?_
   refine Ro.nil ?_
   refine Nrm.code ?_
   refine Run.cond rfl (fun hc6 => ?_) (fun hc6 => ?_)
   ·
    try simp only [Bool.or_eq_true, Bool.and_eq_true, Bool.or_eq_false_iff, Bool.and_eq_false_iff, decide_eq_true_eq, decide_eq_false_iff_not, Bool.not_eq_true', Bool.not_eq_false', Bool.not_eq_true, Bool.not_eq_false] at hc6
    refine Run.seq ?_
    refine Run.region ?_
    refine asg1 rfl rfl ?_
    refine Ro.nil ?_
    refine Nrm.code ?_
    refine Run.ret ?_
    refine Rt.one rfl rfl ?_
    exact ⟨by rw [verI4 (by omega), ← sameA_four (h := by omega), hc6]; rfl, S.bl⟩
   ·
    try simp only [Bool.or_eq_true, Bool.and_eq_true, Bool.or_eq_false_iff, Bool.and_eq_false_iff, decide_eq_true_eq, decide_eq_false_iff_not, Bool.not_eq_true', Bool.not_eq_false', Bool.not_eq_true, Bool.not_eq_false] at hc6
    refine Run.skip ?_
    refine Nrm.code ?_
    refine Run.seq ?_
    refine Run.region ?_
    refine asg1 rfl rfl ?_
    refine Ro.nil ?_
    refine Nrm.code ?_
    refine Run.ret ?_
    refine Rt.one rfl rfl ?_
    exact ⟨by rw [verI4 (by omega), ← sameA_four (h := by omega), hc6]; rfl, S.bl⟩
end Go.Proofs.YtkahmepenjhcpaaDoor.W
/- The base of this seat's proofs, eleventh part: regions that draw their order and do more than read. No statement of the seat is proved here. -/
namespace Go.Proofs.YtkahmepenjhcpaaDoor.W
open Go
set_option linter.unusedSimpArgs false
set_option linter.unusedVariables false
def valB : Op → Bool
  | .move _ | .assign _ | .pick .. | .load .. | .binOp .. | .unOp .. | .convert .. | .slice .. | .fieldAddr .. | .indexAddr .. | .extract .. | .build .. | .makeFunc .. => true
  | .call c => match c.callee with
    | .builtin .len => true
    | _ => false
  | _ => false
theorem val_bind {P : Program} {s : Sem Value} {nx : Next} {w w' : World} (h : (do pure (Next.value (← s)) : Sem Next).run P w = .ok nx w') : ∃ u, nx = .value u := by
  rw [Sem.run_bind] at h
  cases hr : s.run P w with
  | ok v w1 => rw [hr] at h; simp only [Result.andThen_ok, Sem.run_pure, Result.ok.injEq] at h; exact ⟨v, h.1.symm⟩
  | halt x w1 => rw [hr] at h; simp [Result.andThen] at h
theorem val_op {P : Program} {ρ : Operand → Value} {o : Oper} {nx : Next} {w w' : World} (hv : valB o.op = true) (h : (execOp ρ o).run P w = .ok nx w') : ∃ u, nx = .value u := by
  obtain ⟨dst, op, ty, ps, af, gu⟩ := o
  cases op <;> simp only [valB, Bool.false_eq_true] at hv <;> simp only [execOp] at h
  all_goals first
    | exact val_bind h
    | (simp only [Sem.run_pure, Result.ok.injEq] at h; exact ⟨_, h.1.symm⟩)
    | skip
  case pick c x y =>
    rw [Sem.run_bind] at h
    cases hr : (asBool (ρ c)).run P w with
    | ok v w1 => rw [hr] at h; simp only [Result.andThen_ok, Sem.run_pure, Result.ok.injEq] at h; exact ⟨_, h.1.symm⟩
    | halt x w1 => rw [hr] at h; simp [Result.andThen] at h
  case call c =>
    obtain ⟨callee, args, at_⟩ := c
    cases callee <;> simp only [Bool.false_eq_true] at hv
    case builtin b =>
      cases b <;> simp only [Bool.false_eq_true] at hv
      simp only [resolve, Sem.run_bind, Sem.run_pure, Result.andThen_ok, invoke, builtin] at h
      cases hr : (Builtin.len_ at_ ty (Array.map ρ args)).run P w with
      | ok v w1 => rw [hr] at h; simp only [Result.andThen_ok, Result.ok.injEq] at h; exact ⟨v, h.1.symm⟩
      | halt x w1 => rw [hr] at h; simp [Result.andThen] at h
theorem qslAT {P : Program} {R : Qp} {ds : List Deferred} {n : Nat} {l : Env} {k : List KI} {C : World → Prop} {ops : Array Oper} {os : List Oper} {d : Nat} {G gx ex : Gs} {ty : TypeId} {ps : String} {af : Array Edge} {gu : Option (Nat × Bool)} {x : Operand}
    {T E : TypeId} {m hi b off sz : Nat} {ag : Bool} {zc : List Value} {o2 : Option Operand} {i2 : Option Nat} (hx : ev l x = some (gx, .pointer (some ⟨b, off, none⟩))) (hu : P.underlying T = some (.array m E)) (hi' : TyI P E sz ag zc)
    (hG : gd ops l gu = some G) (hpx : G = gx ++ ex) (hn : Nat.blt d n = true) (h2 : bnd l G o2 i2) (e2 : i2.getD m = hi) (hb : Nat.ble hi m = true) (h0 : m ≠ 0)
    (h : Qo P R ds n ops C ((d, G, .slice (some ⟨b, off, none⟩) hi m) :: l) os k) :
    Qo P R ds n ops C l ({ dst := some d, op := .slice T x none o2 none, type := ty, pos := ps, after := af, guard := gu } :: os) k := by
  obtain ⟨ei, _, _, he, _⟩ := hi'.get
  exact qslA hx hu he hG hpx hn h2 e2 hb h0 h
theorem cells1 {v : Value} (h : v.oneCell' = true) : v.cells.toList = [v] := by rw [cells_one h]
/-- some of the rows -/
def pickB : List Own → List Bool → List Own
  | o :: L, b :: ks => bif b then o :: pickB L ks else pickB L ks
  | L, [] => L
  | [], _ => []
theorem pickB_sub : ∀ (L : List Own) (ks : List Bool), (pickB L ks).Sublist L
  | o :: L, true :: ks => (pickB_sub L ks).cons_cons o
  | o :: L, false :: ks => (pickB_sub L ks).cons o
  | [], [] => List.Sublist.slnil
  | o :: L, [] => List.Sublist.refl _
  | [], b :: ks => List.Sublist.slnil
theorem idsL_sub {L L' : List Own} (h : L'.Sublist L) : (idsL L').Sublist (idsL L) := by
  induction h with
  | slnil => exact List.Sublist.refl _
  | cons a h ih => simp only [idsL]; exact ih.trans (List.sublist_append_right _ _)
  | cons_cons a h ih => simp only [idsL]; exact (List.Sublist.refl _).append ih
theorem St.pick {N0 : List Nat} {w0 w : World} {L L' : List Own} (S : St N0 w0 L w) (ks : List Bool) (h : pickB L ks = L') : St N0 w0 L' w := by
  subst h
  exact S.perm (fun o ho => (pickB_sub L ks).subset ho) (S.nodup.sublist (idsL_sub (pickB_sub L ks)))
def Pp (R : Qp) : Prop := ∀ c a d v w, R (.panic c) (a.put d v) w → R (.panic c) a w
theorem Pp.body {P : Program} {fn : Func} {Rr : Value → World → Prop} : Pp (bodyPost P fn (RV Rr)) := fun c a d v w h => h.2.elim
theorem Pp.kont {P : Program} {R : Qp} (h : Pp R) : ∀ k, Pp (kont P R k)
  | [] => h
  | .code c :: k => fun c a d v w hh => (Pp.kont h k) c a d v w hh
  | .blk id :: k => fun c a d v w hh => (Pp.kont h k) c a d v w hh
  | .back B :: k => fun c a d v w hh => (Pp.kont h k) c a d v w hh
def Ho (P : Program) (R : Qp) (ds : List Deferred) (n : Nat) (ops : Array Oper) (C : World → Prop) (listed : Array Bool) (l : Env) (k : List KI) (fuel : Nat) (w : World) : Prop :=
  ∀ a, En ds n l a → wpAnyH P .any ops (kont P R k) C fuel listed a w
/-- behind an operation that only reads -/
def hR (P : Program) (R : Qp) (ops : Array Oper) (C : World → Prop) (listed : Array Bool) (k : List KI) (fuel : Nat) (w : World) : Qp := fun e a' w' =>
  match e with
  | .normal => w' = w → wpAnyH P .any ops (kont P R k) C fuel listed a' w
  | _ => True
/-- behind one that does more -/
def hE (P : Program) (R : Qp) (ops : Array Oper) (C : World → Prop) (listed : Array Bool) (k : List KI) (fuel : Nat) : Qp := fun e a' w' =>
  match e with
  | .normal => C w' ∧ wpAnyH P .any ops (kont P R k) C fuel listed a' w'
  | e => kont P R k e a' w'
section
variable {P : Program} {R : Qp} {ds : List Deferred} {n : Nat} {l : Env} {k : List KI} {w w0 : World} {C : World → Prop} {ops : Array Oper} {listed : Array Bool} {fuel : Nat} {N0 : List Nat} {L : List Own}
theorem Run.held {id : Nat} {Lq : List Own} (hm : P.follows .mixedOrders = true) (S : St N0 w0 L w) (ks : List Bool) (hq : pickB L ks = Lq) {m : Nat} {ls : Array Bool} (hs : ops.size = m) (hl : Array.replicate m false = ls)
    (h : ∀ w', Bl w w' → St N0 w0 L w' → St N0 w0 Lq w' → Ho P R ds n ops (fun w => St N0 w0 Lq w) ls l k m w') : Run P R ds n l (.region id ops true) k w := by
  subst hs; subst hl
  exact fun a ha => wp_region_held hm (h _ ((St.refl [] w).drew _).bl (S.drew _) ((S.drew _).pick ks hq) a ha)
theorem Ho.take {i : Nat} {o : Oper} {ls : Array Bool} (hC : C w) (hp : Pp R) (hi : ops[i]? = some o) (hs : Region.noSelect ops = true) (hf : Region.free .any ops listed i = true) (hr : (Region.ready .any ops listed).contains i = true) (hv : valB o.op = true) (hl : listed.setIfInBounds i true = ls)
    (h : Qo P (hR P R ops C ls k fuel w) ds n ops C l [o] []) : Ho P R ds n ops C listed l k (fuel + 1) w := by
  subst hl
  intro a ha
  have q := h a ha
  simp only [wpQuiet] at q
  cases hw : Region.wanted o (yielded ops a.tmps) with
  | true =>
    rw [hw] at q
    simp only [if_true] at q
    obtain ⟨v, h1, h2⟩ := q
    have q2 := h2 w hC
    refine wpAnyH_take (v := v) hi hs hf hr (fun c a w hh => (hp.kont k) c a _ _ w hh) (Or.inl ⟨hw, fun w1 hC1 => ?_⟩) hC (q2 rfl)
    have h3 := h1 w1 hC1
    unfold Oper.quietAt at h3
    cases hx : (execOp a.eval o).run P w1 with
    | ok nx w' =>
      obtain ⟨u, rfl⟩ := val_op hv hx
      rw [hx] at h3
      simp only [Oper.quietUpon] at h3
      rw [h3.1, h3.2]
    | halt x w' => rw [hx] at h3; exact h3.elim
  | false =>
    rw [hw] at q
    simp only [Bool.false_eq_true, if_false] at q
    exact wpAnyH_take (v := undef) hi hs hf hr (fun c a w hh => (hp.kont k) c a _ _ w hh) (Or.inr ⟨hw, rfl⟩) hC (q w hC rfl)
theorem Ho.back {l' : Env} (h : Ho P R ds n ops C listed l' k fuel w) : Qo P (hR P R ops C listed k fuel w) ds n ops C l' [] [] :=
  fun a ha w' hw e => h a ha
theorem Ho.on {l' : Env} (hC : C w) (h : Ho P R ds n ops C listed l' k fuel w) : Ro P (hE P R ops C listed k fuel) ds n ops l' [] [] w :=
  fun a ha => ⟨hC, h a ha⟩
theorem Ho.done (hr : Region.ready .any ops listed = []) (h : Nrm P R ds n l k w) : Ho P R ds n ops C listed l k fuel w :=
  fun a ha => wpAnyH_done hr (h a ha) _
theorem wp_hE {o : Oper} {a : Act} {K : Act → World → Prop} (h : o.wp P a w K (hE P R ops C listed k fuel)) : o.wp P a w K (kont P R k) := by
  unfold Oper.wp at *
  generalize (execOp a.eval o).run P w = r at *
  cases r with
  | ok n w' =>
    cases n <;> simp only [Oper.upon] at h ⊢ <;> try exact h
  | halt x w' => cases x <;> simp only [Oper.upon] at h ⊢ <;> exact h
theorem Ho.eff {i : Nat} {o : Oper} {ls : Array Bool} (hi : ops[i]? = some o) (hl : listed.setIfInBounds i true = ls) (h : Ro P (hE P R ops C ls k fuel) ds n ops l [o] [] w) :
    ∀ a, En ds n l a → wpOp P ops (kont P R k) i (fun a' w' => C w' ∧ wpAnyH P .any ops (kont P R k) C fuel (listed.setIfInBounds i true) a' w') a w := by
  subst hl
  intro a ha
  have q := h a ha
  unfold wpOp
  simp only [hi]
  simp only [wpList] at q
  split
  · rename_i hw
    rw [if_pos hw] at q
    rcases q with q | q
    · exact Or.inl (wp_hE q)
    · exact Or.inr ⟨q.1, q.2⟩
  · rename_i hw
    rw [if_neg hw] at q
    exact q
theorem Ho.one {i : Nat} {o : Oper} {ls : Array Bool} (hr : Region.ready .any ops listed = [i]) (hi : ops[i]? = some o) (hl : listed.setIfInBounds i true = ls) (h : Ro P (hE P R ops C ls k fuel) ds n ops l [o] [] w) :
    Ho P R ds n ops C listed l k (fuel + 1) w :=
  fun a ha => wpAnyH_all hr (by simp) (fun j hj => by rw [List.mem_singleton.1 hj]; exact Ho.eff hi hl h a ha)
theorem Ho.two {i i' : Nat} {o o' : Oper} {ls ls' : Array Bool} (hr : Region.ready .any ops listed = [i, i']) (hi : ops[i]? = some o) (hi' : ops[i']? = some o') (hl : listed.setIfInBounds i true = ls) (hl' : listed.setIfInBounds i' true = ls')
    (h : Ro P (hE P R ops C ls k fuel) ds n ops l [o] [] w) (h' : Ro P (hE P R ops C ls' k fuel) ds n ops l [o'] [] w) :
    Ho P R ds n ops C listed l k (fuel + 1) w :=
  fun a ha => wpAnyH_all hr (by simp) (fun j hj => by
    simp only [List.mem_cons, List.not_mem_nil, or_false] at hj
    rcases hj with e | e
    · rw [e]; exact Ho.eff hi hl h a ha
    · rw [e]; exact Ho.eff hi' hl' h' a ha)
theorem Ho.three {i i' i'' : Nat} {o o' o'' : Oper} {ls ls' ls'' : Array Bool} (hr : Region.ready .any ops listed = [i, i', i'']) (hi : ops[i]? = some o) (hi' : ops[i']? = some o') (hi'' : ops[i'']? = some o'') (hl : listed.setIfInBounds i true = ls) (hl' : listed.setIfInBounds i' true = ls') (hl'' : listed.setIfInBounds i'' true = ls'')
    (h : Ro P (hE P R ops C ls k fuel) ds n ops l [o] [] w) (h' : Ro P (hE P R ops C ls' k fuel) ds n ops l [o'] [] w) (h'' : Ro P (hE P R ops C ls'' k fuel) ds n ops l [o''] [] w) :
    Ho P R ds n ops C listed l k (fuel + 1) w :=
  fun a ha => wpAnyH_all hr (by simp) (fun j hj => by
    simp only [List.mem_cons, List.not_mem_nil, or_false] at hj
    rcases hj with e | e | e
    · rw [e]; exact Ho.eff hi hl h a ha
    · rw [e]; exact Ho.eff hi' hl' h' a ha
    · rw [e]; exact Ho.eff hi'' hl'' h'' a ha)
end
end Go.Proofs.YtkahmepenjhcpaaDoor.W
/- Contracts: addresses of four bytes. No statement of the seat is proved here. -/
namespace Go.Proofs.YtkahmepenjhcpaaDoor.W
open Go
set_option linter.unusedSimpArgs false
set_option linter.unusedVariables false
set_option maxHeartbeats 1000000 in
theorem c99 (x : IP) (w : World) :
  CallsD Tryd.prog 99 #[.agg (encIP x).toArray] w (.bool (fourB x)) := by
 refine enter Tryd.func99 rfl Tryd.ntmps99 (l := [(0, [], _)]) rfl rfl ?_
 have S := St.refl [] w
 refine Run.seq ?_
 refine Run.region ?_
 refine boxA rfl S rfl ?_
 intro b1 w1 hb1 S B_
 refine asg1 rfl rfl ?_
 refine Ro.nil ?_
 refine Nrm.code ?_
 refine Run.seq ?_
 refine Run.region ?_
 refine alc T22 S rfl ?_
 intro b3 w2 hb3 S B_
 refine Ro.nil ?_
 refine Nrm.code ?_
 refine Run.seq ?_
 refine Run.held (by kernel_rfl) S [false, true] rfl rfl rfl ?_
 intro w3 BD S SC
 refine Ho.take (i := 0) SC Pp.body rfl (by kernel_rfl) (by kernel_rfl) (by kernel_rfl) rfl rfl ?_
 refine qslAT rfl Tryd.underlying22 T5 rfl rfl rfl (i2 := some 4) ⟨_, _, _, rfl, rfl⟩ rfl (by decide) (by decide) ?_
 refine Ho.back ?_
 refine Ho.take (i := 1) SC Pp.body rfl (by kernel_rfl) (by kernel_rfl) (by kernel_rfl) rfl rfl ?_
 refine qfld (o' := 1) rfl fo24_1 rfl rfl rfl rfl ?_
 refine Ho.back ?_
 refine Ho.take (i := 2) SC Pp.body rfl (by kernel_rfl) (by kernel_rfl) (by kernel_rfl) rfl rfl ?_
 refine qslAT rfl Tryd.underlying22 T5 rfl rfl rfl (i2 := some 4) ⟨_, _, _, rfl, rfl⟩ rfl (by decide) (by decide) ?_
 refine Ho.back ?_
 refine Ho.one (i := 3) (by kernel_rfl) rfl rfl ?_
 refine cpV (ys := [u8 (x.a 0), u8 (x.a 1), u8 (x.a 2), u8 (x.a 3)]) rfl rfl e26 (S.varSl (i := 1) (m := 4) (sz := 1) rfl rfl rfl (by decide)) (by simp [Value.oneCell', u8]) (by decide) S (i := 0) rfl rfl rfl rfl ?_
 intro wc S
 have SC := S.pick [false, true] rfl
 refine Ho.on SC ?_
 refine Ho.done (by kernel_rfl) ?_
 refine Nrm.code ?_
 refine Run.seq ?_
 refine Run.region ?_
 refine fld (o' := 0) rfl fo24_0 rfl rfl rfl rfl ?_
 refine ld1 rfl T3 S (i := 1) rfl rfl rfl rfl rfl ?_
 refine eql1 rfl rfl rfl ?_
 refine mv1 rfl rfl ?_
 refine fld (o' := 1) rfl fo24_1 rfl rfl rfl rfl ?_
 refine ldA rfl T22 S (i := 1) rfl rfl rfl (by decide) rfl rfl rfl ?_
 refine ldW rfl T22 S (i := 0) rfl rfl rfl rfl rfl ?_
 refine eqA (x.a) (fun i => if i < 4 then x.a i else 0) rfl rfl rfl rfl rfl rfl ?_
 refine pkA rfl rfl rfl rfl rfl rfl ?_
 refine asg1 rfl rfl ?_
 refine Ro.nil ?_
 refine Nrm.code ?_
 refine Run.ret ?_
 refine Rt.one rfl rfl ?_
 exact ⟨by rw [fourB_def], S.bl⟩
end Go.Proofs.YtkahmepenjhcpaaDoor.W
/- Plain facts on options: written and read. No program walked here; no statement of the seat is proved here. -/
namespace Go.Proofs.YtkahmepenjhcpaaDoor.W
open Go
set_option linter.unusedVariables false
abbrev o0 : Opt := ⟨0, []⟩
def okO (o : Opt) : Bool := decide (2 ≤ o.kind) && decide (o.kind ≤ 255) && decide (o.data.length ≤ 38)
def optB (o : Opt) : List Int := o.kind :: (2 + (o.data.length : Int)) :: o.data
def optsB (l : List Opt) : List Int := (l.map optB).flatten
def putOk (l : List Opt) : Bool := l.all okO && decide ((optsB l).length ≤ 40)
def pad4 (b : List Int) : List Int := b ++ List.replicate ((4 - b.length % 4) % 4) 0
def putE (l : List Opt) : Int := if putOk l then 0 else 65
def putL (l : List Opt) : List Int := if putOk l then pad4 (optsB l) else []
theorem okO_iff {o : Opt} : okO o = true ↔ 2 ≤ o.kind ∧ o.kind ≤ 255 ∧ o.data.length ≤ 38 := by simp [okO, and_assoc]
theorem optsB_app (a b : List Opt) : optsB (a ++ b) = optsB a ++ optsB b := by simp [optsB]
theorem optsB_one (o : Opt) : optsB [o] = optB o := by simp [optsB]
theorem optB_len (o : Opt) : (optB o).length = 2 + o.data.length := by simp [optB]; omega
theorem take_succ_getD {α : Type} {l : List α} {i : Nat} {d : α} (h : i < l.length) : l.take (i + 1) = l.take i ++ [l.getD i d] := by
  rw [List.take_succ_eq_append_getElem h, List.getD_eq_getElem?_getD, List.getElem?_eq_getElem h]; rfl
theorem optsB_take_succ {l : List Opt} {i : Nat} (h : i < l.length) : optsB (l.take (i + 1)) = optsB (l.take i) ++ optB (l.getD i o0) := by
  rw [take_succ_getD h, optsB_app, optsB_one]
theorem optsB_take_le (l : List Opt) (i : Nat) : (optsB (l.take i)).length ≤ (optsB l).length := by
  have : optsB l = optsB (l.take i) ++ optsB (l.drop i) := by rw [← optsB_app, List.take_append_drop]
  rw [this, List.length_append]; omega
theorem getD_mem' {α : Type} {l : List α} {i : Nat} {d : α} (h : i < l.length) : l.getD i d ∈ l := by
  rw [List.getD_eq_getElem?_getD, List.getElem?_eq_getElem h]; exact List.getElem_mem h
theorem putOk_no {l : List Opt} {i : Nat} (h : i < l.length) (hb : okO (l.getD i o0) = false ∨ 40 < (optsB (l.take i)).length + 2 + (l.getD i o0).data.length) : putOk l = false := by
  unfold putOk
  rcases hb with hb | hb
  · have : l.all okO = false := by rw [List.all_eq_false]; exact ⟨_, getD_mem' h, by rw [hb]; simp⟩
    rw [this]; rfl
  · have h1 := optsB_take_le l (i + 1)
    rw [optsB_take_succ h, List.length_append, optB_len] at h1
    have : ¬ (optsB l).length ≤ 40 := by omega
    simp [this]
theorem putOk_yes {l : List Opt} (h1 : l.all okO = true) (h2 : (optsB l).length ≤ 40) : putOk l = true := by simp [putOk, h1, h2]
theorem putOk_long {l : List Opt} (h2 : 40 < (optsB l).length) : putOk l = false := by
  have : ¬ (optsB l).length ≤ 40 := by omega
  simp [putOk, this]
theorem all_take_succ {l : List Opt} {i : Nat} (h : i < l.length) (h1 : (l.take i).all okO = true) (h2 : okO (l.getD i o0) = true) : (l.take (i + 1)).all okO = true := by
  rw [take_succ_getD h (d := o0), List.all_append, h1]
  simp only [List.all_cons, List.all_nil, h2]; rfl
theorem pad4_of {b out : List Int} {m : Nat} (h : out = b ++ List.replicate m 0) (hm : m ≤ (4 - b.length % 4) % 4) (h4 : out.length % 4 = 0) : out = pad4 b := by
  have hl : out.length = b.length + m := by rw [h]; simp
  have : m = (4 - b.length % 4) % 4 := by omega
  rw [h, this]; rfl
theorem pad4_len (b : List Int) : (pad4 b).length % 4 = 0 ∧ (pad4 b).length = b.length + (4 - b.length % 4) % 4 := by
  have h : (pad4 b).length = b.length + (4 - b.length % 4) % 4 := by simp [pad4]
  exact ⟨by omega, h⟩
theorem putL_len (l : List Opt) : (putL l).length ≤ 40 ∧ (putL l).length % 4 = 0 := by
  unfold putL
  split
  · rename_i h
    have h2 : (optsB l).length ≤ 40 := by simp [putOk] at h; exact h.2
    have := pad4_len (optsB l)
    omega
  · exact ⟨Nat.zero_le _, rfl⟩
theorem rep_succ (m : Nat) (b : List Int) : (b ++ List.replicate m 0) ++ [0] = b ++ List.replicate (m + 1) (0 : Int) := by
  rw [List.append_assoc, List.replicate_succ']
theorem OSs.len {N : List Nat} {w : World} {ds : List Value} {os : List Opt} (h : OSs N w ds os) : ds.length = os.length := by
  have := BSs.len h; simpa using this
theorem OSs.at {N : List Nat} {w : World} {ds : List Value} {os : List Opt} {i : Nat} (h : OSs N w ds os) (hi : i < os.length) : ∃ p, ds[i]? = some p ∧ BS N w p (os.getD i o0).data := by
  obtain ⟨p, h1, h2⟩ := BSs.at h (i := i) (by simpa using hi)
  refine ⟨p, h1, ?_⟩
  have e : (os.map Opt.data).getD i [] = (os.getD i o0).data := by
    simp [List.getD_eq_getElem?_getD, List.getElem?_eq_getElem hi]
  rwa [e] at h2
theorem OSs.lt {N : List Nat} {w : World} {ds : List Value} {os : List Opt} {i : Nat} (h : OSs N w ds os) (hi : i < os.length) : (i : Int).toNat * 2 < (optC os ds).length := by
  rw [optC_len h.len]; simp; omega
theorem OSs.k0 {N : List Nat} {w : World} {ds : List Value} {os : List Opt} {i : Nat} {p : Value} (h : OSs N w ds os) (hi : i < os.length) (hp : ds[i]? = some p) : (optC os ds)[(i : Int).toNat * 2 + 0]? = some (i64 (os.getD i o0).kind) := (optC_at hi hp).1
theorem OSs.k1 {N : List Nat} {w : World} {ds : List Value} {os : List Opt} {i : Nat} {p : Value} (h : OSs N w ds os) (hi : i < os.length) (hp : ds[i]? = some p) : (optC os ds)[(i : Int).toNat * 2 + 1]? = some p := (optC_at hi hp).2
theorem OSs.two {N : List Nat} {w : World} {ds : List Value} {os : List Opt} {i : Nat} {p : Value} (h : OSs N w ds os) (hi : i < os.length) (hp : ds[i]? = some p) :
    (i : Int).toNat * 2 + 2 ≤ (optC os ds).length ∧ ((optC os ds).drop ((i : Int).toNat * 2)).take 2 = [i64 (os.getD i o0).kind, p] := by
  have h1 := optC_len h.len
  obtain ⟨h2, h3⟩ := optC_at hi hp
  have e : (i : Int).toNat = i := rfl
  rw [e]
  refine ⟨by omega, ?_⟩
  have hl : i * 2 + 1 < (optC os ds).length := by omega
  rw [List.getElem?_eq_getElem (by omega)] at h2
  rw [List.getElem?_eq_getElem hl] at h3
  simp only [Option.some.injEq] at h2 h3
  rw [List.drop_eq_getElem_cons (by omega), List.drop_eq_getElem_cons hl, h2, h3]
  rfl
end Go.Proofs.YtkahmepenjhcpaaDoor.W
/- Contracts: options written. No statement of the seat is proved here. -/
namespace Go.Proofs.YtkahmepenjhcpaaDoor.W
open Go
set_option linter.unusedSimpArgs false
set_option linter.unusedVariables false
theorem w8of {x y : Int} (h : x = y) (h2 : 0 ≤ y ∧ y < 256) : IntKind.u8.wrap x = y := by rw [h, w8m]; omega
set_option maxHeartbeats 1000000 in
theorem c94 (v : Value) (os : List Opt) (w : World) (hO : OS [] w v os) (hl : os.length ≤ 1099511627776) :
    CallsV Tryd.prog 94 #[v] w (fun r w' => ∃ u, r = .tuple #[u, .int .i64 (putE os)] ∧ FB w w' u (putL os)) := by
  refine enter Tryd.func94 rfl Tryd.ntmps94 (l := [(0, [], _)]) rfl rfl ?_
  have S := St.refl [] w
  obtain ⟨ds, hOS, hOB⟩ := hO
  refine Run.seq ?_
  refine Run.region ?_
  refine asg1 rfl rfl ?_
  refine asg1 rfl rfl ?_
  refine Ro.nil ?_
  refine Nrm.code ?_
  refine Run.seq ?_
  refine Run.region ?_
  refine asg1 rfl rfl ?_
  have S := S.nilB
  refine Ro.nil ?_
  refine Nrm.code ?_
  refine Run.seq ?_
  refine Run.seq ?_
  refine Run.region ?_
  refine mv1 rfl rfl ?_
  refine lenS rfl hOS Tryd.underlying25 rfl rfl rfl ?_
  refine mv1 rfl rfl ?_
  refine Ro.nil ?_
  refine Nrm.code ?_
  refine Run.block ?_
  refine Run.loop3 (fun (i : Nat) (u : Value) (out : List Int) w_ => i ≤ os.length ∧ (os.take i).all okO = true ∧ (optsB (os.take i)).length ≤ 40 ∧ out = optsB (os.take i) ∧ St [] w [oB u out] w_) (fun (i : Nat) (u : Value) (out : List Int) => [(4, [], u), (7, [], v), (8, [], .int .i64 os.length), (9, [], .int .i64 i)]) (fun (i : Nat) (u : Value) (out : List Int) => os.length - i) (0) (_) ([]) ⟨Nat.zero_le _, rfl, by simp [optsB], rfl, S⟩ ⟨rfl, rfl, rfl, rfl, trivial⟩ ?_
  rintro i u out w1 ⟨hi, hall, hlen, hout, S⟩
  have hlo0 : out.length = (optsB (os.take i)).length := by rw [hout]
  refine Run.seq ?_
  refine Run.region ?_
  refine lss1 rfl rfl rfl ?_
  refine Ro.nil ?_
  refine Nrm.code ?_
  refine Run.seq ?_
  refine Run.cond rfl (fun hc3 => ?_) (fun hc3 => ?_)
  ·
    try simp only [Bool.or_eq_true, Bool.and_eq_true, Bool.or_eq_false_iff, Bool.and_eq_false_iff, decide_eq_true_eq, decide_eq_false_iff_not, Bool.not_eq_true', Bool.not_eq_false', Bool.not_eq_true, Bool.not_eq_false] at hc3
    refine Run.skip ?_
    refine Nrm.code ?_
    refine Run.seq ?_
    refine Run.block ?_
    refine Run.seq ?_
    refine Run.region ?_
    obtain ⟨p, hp, hpb⟩ := hOB.at (i := i) (by omega)
    have hge : (os[i]?.getD o0).data.length = (os.getD i o0).data.length := by rw [List.getD_eq_getElem?_getD]
    refine ixa rfl rfl hOS e25 rfl rfl rfl rfl (fun _ => by omega) ?_
    refine ldEA rfl hOS S T93 rfl rfl rfl (by decide) rfl (fun _ => hOB.two (by omega) hp) ?_
    refine alc T93 S rfl ?_
    intro b6 w2 hb6 S B_
    refine stW rfl rfl T93 rfl rfl (one_cons rfl (one_cons hpb.one one_nil)) S (i := 0) rfl rfl ?_
    intro w3 S
    refine Ro.nil ?_
    refine Nrm.code ?_
    refine Run.seq ?_
    refine Run.seq ?_
    refine Run.region ?_
    refine fld (o' := 0) rfl fo93_0 rfl rfl rfl rfl ?_
    refine ld1 rfl T3 S (i := 0) rfl rfl rfl rfl rfl ?_
    refine lss1 rfl rfl rfl ?_
    refine mv1 rfl rfl ?_
    refine fld (o' := 0) rfl fo93_0 rfl rfl rfl rfl ?_
    refine ld1 rfl T3 S (i := 0) rfl rfl rfl rfl rfl ?_
    refine gtr rfl rfl rfl rfl rfl rfl ?_
    refine pkO rfl rfl rfl rfl rfl rfl ?_
    refine mv1 rfl rfl ?_
    refine fld (o' := 1) rfl fo93_1 rfl rfl rfl rfl ?_
    refine ld1 rfl T26 S (i := 0) rfl rfl rfl rfl rfl ?_
    refine lenS rfl hpb.2 Tryd.underlying26 rfl rfl rfl ?_
    refine gtr rfl rfl rfl rfl rfl rfl ?_
    refine pkO rfl rfl rfl rfl rfl rfl ?_
    refine mv1 rfl rfl ?_
    refine mv rfl rfl rfl rfl ?_
    refine lenS rfl (S.slI (i := 1) rfl) Tryd.underlying26 rfl rfl rfl ?_
    refine add rfl rfl rfl rfl rfl rfl (fun hG => by first | exact w64 (by omega) | (simp [allT] at hG; exact w64 (by omega))) ?_
    refine fld (o' := 1) rfl fo93_1 rfl rfl rfl rfl ?_
    refine ld1 rfl T26 S (i := 0) rfl rfl rfl rfl rfl ?_
    refine lenS rfl hpb.2 Tryd.underlying26 rfl rfl rfl ?_
    refine add rfl rfl rfl rfl rfl rfl (fun hG => by first | exact w64 (by omega) | (simp [allT] at hG; exact w64 (by omega))) ?_
    refine gtr rfl rfl rfl rfl rfl rfl ?_
    refine pkO rfl rfl rfl rfl rfl rfl ?_
    refine Ro.nil ?_
    refine Nrm.code ?_
    refine Run.cond rfl (fun hc5 => ?_) (fun hc5 => ?_)
    ·
      try simp only [Bool.or_eq_true, Bool.and_eq_true, Bool.or_eq_false_iff, Bool.and_eq_false_iff, decide_eq_true_eq, decide_eq_false_iff_not, Bool.not_eq_true', Bool.not_eq_false', Bool.not_eq_true, Bool.not_eq_false] at hc5
      have hno : putOk os = false := putOk_no (i := i) (by omega) (by
        by_cases hk : okO (os.getD i o0) = true
        · right; rw [okO_iff] at hk; rw [← hout]; omega
        · left; simpa using hk)
      refine Run.seq ?_
      refine Run.region ?_
      refine asg1 rfl rfl ?_
      refine asg1 rfl rfl ?_
      refine Ro.nil ?_
      refine Nrm.code ?_
      refine Run.ret ?_
      refine Rt.two rfl rfl rfl ?_
      exact ⟨.slice none 0 0, by simp [putE, hno], by simpa [putL, hno] using (S.nilB).toFB (i := 0) rfl⟩
    ·
      try simp only [Bool.or_eq_true, Bool.and_eq_true, Bool.or_eq_false_iff, Bool.and_eq_false_iff, decide_eq_true_eq, decide_eq_false_iff_not, Bool.not_eq_true', Bool.not_eq_false', Bool.not_eq_true, Bool.not_eq_false] at hc5
      refine Run.skip ?_
      refine Nrm.code ?_
      refine Run.seq ?_
      refine Run.region ?_
      refine mv1 rfl rfl ?_
      refine fld (o' := 0) rfl fo93_0 rfl rfl rfl rfl ?_
      refine ld1 rfl T3 S (i := 0) rfl rfl rfl rfl rfl ?_
      refine cvi1 rfl rfl Tryd.underlying3 Tryd.underlying5 (w8of rfl (by omega)) ?_
      refine fld (o' := 1) rfl fo93_1 rfl rfl rfl rfl ?_
      refine ld1 rfl T26 S (i := 0) rfl rfl rfl rfl rfl ?_
      refine lenS rfl hpb.2 Tryd.underlying26 rfl rfl rfl ?_
      refine add1 rfl rfl rfl (w64 (by omega)) ?_
      refine cvi1 rfl rfl Tryd.underlying3 Tryd.underlying5 (w8of rfl (by omega)) ?_
      refine apBF (b := [_, _]) rfl e26 (qs := [(_, _), (_, _)]) ⟨⟨_, _, _, rfl, rfl, rfl, rfl, by simp [Value.cells]⟩, ⟨_, _, _, rfl, rfl, rfl, rfl, by simp [Value.cells]⟩, trivial⟩ (by decide) rfl rfl S (i := 1) rfl rfl rfl (fun t e => by cases e; rfl) (fun _ => rfl) (by first | omega | (simp only [List.length_nil, List.length_append, List.length_cons]; omega)) ?_
      intro u_ v47 w4 S B_
      refine asg1 rfl rfl ?_
      refine Ro.nil ?_
      refine Nrm.code ?_
      refine Run.region ?_
      refine mv1 rfl rfl ?_
      refine fld (o' := 1) rfl fo93_1 rfl rfl rfl rfl ?_
      refine ld1 rfl T26 S (i := 0) rfl rfl rfl rfl rfl ?_
      refine apB rfl rfl e26 (hpb.now S) S (i := 1) rfl rfl (fun _ => rfl) (by first | omega | (simp only [List.length_nil, List.length_append, List.length_cons]; omega)) ?_
      intro v51 w5 S B_
      refine asg1 rfl rfl ?_
      refine Ro.nil ?_
      refine Nrm.blk ?_
      refine Nrm.code ?_
      refine Run.region ?_
      refine add1 rfl rfl rfl (w64 (by omega)) ?_
      refine mv1 rfl rfl ?_
      refine Ro.nil ?_
      have S := S.drop0
      refine Nrm.loop3 (i + 1) (_) (_) ⟨by omega, all_take_succ (by omega) hall (okO_iff.2 (by omega)), by rw [optsB_take_succ (by omega), List.length_append, optB_len, ← hout]; omega, by rw [optsB_take_succ (by omega), hout]; simp [optB], S⟩ (by omega) ⟨rfl, rfl, rfl, rfl, trivial⟩
  ·
    try simp only [Bool.or_eq_true, Bool.and_eq_true, Bool.or_eq_false_iff, Bool.and_eq_false_iff, decide_eq_true_eq, decide_eq_false_iff_not, Bool.not_eq_true', Bool.not_eq_false', Bool.not_eq_true, Bool.not_eq_false] at hc3
    refine Run.exit ?_
    refine Lv.code ?_
    refine Lv.back ?_
    refine Lv.hit ?_
    refine Nrm.code ?_
    refine Run.seq ?_
    refine Run.block ?_
    have e : i = os.length := by omega
    rw [e, List.take_length] at hall hlen hout
    refine Run.loop3 (fun (m : Nat) (u : Value) (out : List Int) w_ => m ≤ (4 - (optsB os).length % 4) % 4 ∧ out = optsB os ++ List.replicate m 0 ∧ St [] w [oB u out] w_) (fun (m : Nat) (u : Value) (out : List Int) => [(4, [], u)]) (fun (m : Nat) (u : Value) (out : List Int) => 4 - m) (0) (_) (_) ⟨Nat.zero_le _, by simp [hout], S⟩ ⟨rfl, trivial⟩ ?_
    rintro m u out w2 ⟨hm, ho, S⟩
    have hlo : out.length = (optsB os).length + m := by rw [ho]; simp
    refine Run.seq ?_
    refine Run.seq ?_
    refine Run.region ?_
    refine mv1 rfl rfl ?_
    refine lenS rfl (S.slI (i := 0) rfl) Tryd.underlying26 rfl rfl rfl ?_
    refine rem1 rfl rfl rfl (by decide) (r64 (by omega)) ?_
    refine gtr1 rfl rfl rfl ?_
    refine Ro.nil ?_
    refine Nrm.code ?_
    refine Run.cond rfl (fun hc10 => ?_) (fun hc10 => ?_)
    ·
      try simp only [Bool.or_eq_true, Bool.and_eq_true, Bool.or_eq_false_iff, Bool.and_eq_false_iff, decide_eq_true_eq, decide_eq_false_iff_not, Bool.not_eq_true', Bool.not_eq_false', Bool.not_eq_true, Bool.not_eq_false] at hc10
      refine Run.skip ?_
      refine Nrm.code ?_
      refine Run.block ?_
      refine Run.region ?_
      refine mv1 rfl rfl ?_
      refine apBF (b := [_]) rfl e26 (qs := [(_, _)]) ⟨⟨_, _, _, rfl, rfl, rfl, rfl, by simp [Value.cells]⟩, trivial⟩ (by decide) rfl rfl S (i := 0) rfl rfl rfl (fun t e => by cases e; rfl) (fun _ => rfl) (by first | omega | (simp only [List.length_nil, List.length_append, List.length_cons]; omega)) ?_
      intro u_ v59 w3 S B_
      refine asg1 rfl rfl ?_
      refine Ro.nil ?_
      refine Nrm.blk ?_
      refine Nrm.loop3 (m + 1) (_) (_) ⟨by omega, by rw [ho, rep_succ], S⟩ (by omega) ⟨rfl, trivial⟩
    ·
      try simp only [Bool.or_eq_true, Bool.and_eq_true, Bool.or_eq_false_iff, Bool.and_eq_false_iff, decide_eq_true_eq, decide_eq_false_iff_not, Bool.not_eq_true', Bool.not_eq_false', Bool.not_eq_true, Bool.not_eq_false] at hc10
      refine Run.exit ?_
      refine Lv.code ?_
      refine Lv.back ?_
      refine Lv.hit ?_
      refine Nrm.code ?_
      refine Run.seq ?_
      refine Run.region ?_
      refine mv1 rfl rfl ?_
      refine asg1 rfl rfl ?_
      refine asg1 rfl rfl ?_
      refine Ro.nil ?_
      refine Nrm.code ?_
      refine Run.ret ?_
      refine Rt.two rfl rfl rfl ?_
      have hyes := putOk_yes hall hlen
      exact ⟨u, by simp [putE, hyes], by rw [show putL os = out from by simp only [putL, hyes]; exact (pad4_of ho hm (by omega)).symm]; exact S.toFB (i := 0) rfl⟩
set_option maxHeartbeats 1000000 in
theorem c136 (v : Value) (os : List Opt) (w : World) (hO : OS [] w v os) (hl : os.length ≤ 1099511627776) :
    CallsV Tryd.prog 136 #[v] w (fun r w' => ∃ u, r = .tuple #[u, .int .i64 (putE os)] ∧ FB w w' u (putL os)) := by
  refine enter Tryd.func136 rfl Tryd.ntmps136 (l := [(0, [], _)]) rfl rfl ?_
  have S := St.refl [] w
  obtain ⟨ds, hOS, hOB⟩ := hO
  refine Run.seq ?_
  refine Run.region ?_
  refine asg1 rfl rfl ?_
  refine asg1 rfl rfl ?_
  refine Ro.nil ?_
  refine Nrm.code ?_
  refine Run.seq ?_
  refine Run.region ?_
  refine asg1 rfl rfl ?_
  have S := S.nilB
  refine Ro.nil ?_
  refine Nrm.code ?_
  refine Run.seq ?_
  refine Run.seq ?_
  refine Run.region ?_
  refine asg1 rfl rfl ?_
  refine Ro.nil ?_
  refine Nrm.code ?_
  refine Run.block ?_
  refine Run.loop3 (fun (i : Nat) (u : Value) (out : List Int) w_ => i ≤ os.length ∧ (os.take i).all okO = true ∧ (optsB (os.take i)).length ≤ 40 * i ∧ out = optsB (os.take i) ∧ St [] w [oB u out] w_) (fun (i : Nat) (u : Value) (out : List Int) => [(0, [], v), (4, [], u), (5, [], .int .i64 i)]) (fun (i : Nat) (u : Value) (out : List Int) => os.length - i) (0) (_) ([]) ⟨Nat.zero_le _, rfl, by simp [optsB], rfl, S⟩ ⟨rfl, rfl, rfl, trivial⟩ ?_
  rintro i u out w1 ⟨hi, hall, hlen, hout, S⟩
  have hlo0 : out.length = (optsB (os.take i)).length := by rw [hout]
  refine Run.seq ?_
  refine Run.seq ?_
  refine Run.region ?_
  refine mv1 rfl rfl ?_
  refine mv1 rfl rfl ?_
  refine lenS rfl hOS Tryd.underlying25 rfl rfl rfl ?_
  refine lss1 rfl rfl rfl ?_
  refine Ro.nil ?_
  refine Nrm.code ?_
  refine Run.cond rfl (fun hc3 => ?_) (fun hc3 => ?_)
  ·
    try simp only [Bool.or_eq_true, Bool.and_eq_true, Bool.or_eq_false_iff, Bool.and_eq_false_iff, decide_eq_true_eq, decide_eq_false_iff_not, Bool.not_eq_true', Bool.not_eq_false', Bool.not_eq_true, Bool.not_eq_false] at hc3
    refine Run.skip ?_
    refine Nrm.code ?_
    refine Run.seq ?_
    refine Run.block ?_
    refine Run.seq ?_
    refine Run.region ?_
    refine mv1 rfl rfl ?_
    refine mv1 rfl rfl ?_
    obtain ⟨p, hp, hpb⟩ := hOB.at (i := i) (by omega)
    have hge : (os[i]?.getD o0).data.length = (os.getD i o0).data.length := by rw [List.getD_eq_getElem?_getD]
    refine ixa rfl rfl hOS e25 rfl rfl rfl rfl (fun _ => by omega) ?_
    refine flE rfl hOS fo93_1 rfl rfl rfl (fun _ => hOB.lt (by omega)) ?_
    refine ldE rfl hOS S T26 rfl rfl rfl (fun _ => hOB.k1 (by omega) hp) ?_
    refine lenS rfl hpb.2 Tryd.underlying26 rfl rfl rfl ?_
    refine asg1 rfl rfl ?_
    refine Ro.nil ?_
    refine Nrm.code ?_
    refine Run.seq ?_
    refine Run.seq ?_
    refine Run.region ?_
    refine mv1 rfl rfl ?_
    refine mv1 rfl rfl ?_
    refine ixa rfl rfl hOS e25 rfl rfl rfl rfl (fun _ => by omega) ?_
    refine flE rfl hOS fo93_0 rfl rfl rfl (fun _ => hOB.lt (by omega)) ?_
    refine ldE rfl hOS S T3 rfl rfl rfl (fun _ => hOB.k0 (by omega) hp) ?_
    refine lss1 rfl rfl rfl ?_
    refine mv1 rfl rfl ?_
    refine mv rfl rfl rfl rfl ?_
    refine mv rfl rfl rfl rfl ?_
    refine ixa rfl rfl hOS e25 rfl rfl rfl rfl (fun hG => by (try simp [allT] at hG); omega) ?_
    refine flE rfl hOS fo93_0 rfl rfl rfl (fun hG => by first | exact hOB.lt (by omega) | (simp [allT] at hG; exact hOB.lt (by omega))) ?_
    refine ldE rfl hOS S T3 rfl rfl rfl (fun hG => by first | exact hOB.k0 (by omega) hp | (simp [allT] at hG; exact hOB.k0 (by omega) hp)) ?_
    refine gtr rfl rfl rfl rfl rfl rfl ?_
    refine pkO rfl rfl rfl rfl rfl rfl ?_
    refine mv1 rfl rfl ?_
    refine mv rfl rfl rfl rfl ?_
    refine gtr rfl rfl rfl rfl rfl rfl ?_
    refine pkO rfl rfl rfl rfl rfl rfl ?_
    refine Ro.nil ?_
    refine Nrm.code ?_
    refine Run.cond rfl (fun hc6 => ?_) (fun hc6 => ?_)
    ·
      try simp only [Bool.or_eq_true, Bool.and_eq_true, Bool.or_eq_false_iff, Bool.and_eq_false_iff, decide_eq_true_eq, decide_eq_false_iff_not, Bool.not_eq_true', Bool.not_eq_false', Bool.not_eq_true, Bool.not_eq_false] at hc6
      have hno : putOk os = false := putOk_no (i := i) (by omega) (by
        left
        by_cases hk : okO (os.getD i o0) = true
        · rw [okO_iff] at hk; omega
        · simpa using hk)
      refine Run.seq ?_
      refine Run.region ?_
      refine asg1 rfl rfl ?_
      refine asg1 rfl rfl ?_
      refine Ro.nil ?_
      refine Nrm.code ?_
      refine Run.ret ?_
      refine Rt.two rfl rfl rfl ?_
      exact ⟨.slice none 0 0, by simp [putE, hno], by simpa [putL, hno] using (S.nilB).toFB (i := 0) rfl⟩
    ·
      try simp only [Bool.or_eq_true, Bool.and_eq_true, Bool.or_eq_false_iff, Bool.and_eq_false_iff, decide_eq_true_eq, decide_eq_false_iff_not, Bool.not_eq_true', Bool.not_eq_false', Bool.not_eq_true, Bool.not_eq_false] at hc6
      refine Run.skip ?_
      refine Nrm.code ?_
      refine Run.seq ?_
      refine Run.region ?_
      refine mv1 rfl rfl ?_
      refine mv1 rfl rfl ?_
      refine mv1 rfl rfl ?_
      refine ixa rfl rfl hOS e25 rfl rfl rfl rfl (fun _ => by omega) ?_
      refine flE rfl hOS fo93_0 rfl rfl rfl (fun _ => hOB.lt (by omega)) ?_
      refine ldE rfl hOS S T3 rfl rfl rfl (fun _ => hOB.k0 (by omega) hp) ?_
      refine cvi1 rfl rfl Tryd.underlying3 Tryd.underlying5 (w8of rfl (by omega)) ?_
      refine mv1 rfl rfl ?_
      refine add1 rfl rfl rfl (w64 (by omega)) ?_
      refine cvi1 rfl rfl Tryd.underlying3 Tryd.underlying5 (w8of rfl (by omega)) ?_
      refine apBF (b := [_, _]) rfl e26 (qs := [(_, _), (_, _)]) ⟨⟨_, _, _, rfl, rfl, rfl, rfl, by simp [Value.cells]⟩, ⟨_, _, _, rfl, rfl, rfl, rfl, by simp [Value.cells]⟩, trivial⟩ (by decide) rfl rfl S (i := 0) rfl rfl rfl (fun t e => by cases e; rfl) (fun _ => rfl) (by first | omega | (simp only [List.length_nil, List.length_append, List.length_cons]; omega)) ?_
      intro u_ v48 w2 S B_
      refine asg1 rfl rfl ?_
      refine Ro.nil ?_
      refine Nrm.code ?_
      refine Run.region ?_
      refine mv1 rfl rfl ?_
      refine mv1 rfl rfl ?_
      refine mv1 rfl rfl ?_
      refine ixa rfl rfl hOS e25 rfl rfl rfl rfl (fun _ => by omega) ?_
      refine flE rfl hOS fo93_1 rfl rfl rfl (fun _ => hOB.lt (by omega)) ?_
      refine ldE rfl hOS S T26 rfl rfl rfl (fun _ => hOB.k1 (by omega) hp) ?_
      refine apB rfl rfl e26 (hpb.now S) S (i := 0) rfl rfl (fun _ => rfl) (by first | omega | (simp only [List.length_nil, List.length_append, List.length_cons]; omega)) ?_
      intro v55 w3 S B_
      refine asg1 rfl rfl ?_
      refine Ro.nil ?_
      refine Nrm.blk ?_
      refine Nrm.code ?_
      refine Run.region ?_
      refine mv1 rfl rfl ?_
      refine add1 rfl rfl rfl (w64 (by omega)) ?_
      refine asg1 rfl rfl ?_
      refine Ro.nil ?_
      refine Nrm.loop3 (i + 1) (_) (_) ⟨by omega, all_take_succ (by omega) hall (okO_iff.2 (by omega)), by rw [optsB_take_succ (by omega), List.length_append, optB_len]; omega, by rw [optsB_take_succ (by omega), hout]; simp [optB, Int.add_comm], S⟩ (by omega) ⟨rfl, rfl, rfl, trivial⟩
  ·
    try simp only [Bool.or_eq_true, Bool.and_eq_true, Bool.or_eq_false_iff, Bool.and_eq_false_iff, decide_eq_true_eq, decide_eq_false_iff_not, Bool.not_eq_true', Bool.not_eq_false', Bool.not_eq_true, Bool.not_eq_false] at hc3
    refine Run.exit ?_
    refine Lv.code ?_
    refine Lv.back ?_
    refine Lv.hit ?_
    refine Nrm.code ?_
    refine Run.seq ?_
    refine Run.block ?_
    have e : i = os.length := by omega
    rw [e, List.take_length] at hall hlen hout
    refine Run.loop3 (fun (m : Nat) (u : Value) (out : List Int) w_ => m ≤ (4 - (optsB os).length % 4) % 4 ∧ out = optsB os ++ List.replicate m 0 ∧ St [] w [oB u out] w_) (fun (m : Nat) (u : Value) (out : List Int) => [(4, [], u)]) (fun (m : Nat) (u : Value) (out : List Int) => 4 - m) (0) (_) (_) ⟨Nat.zero_le _, by simp [hout], S⟩ ⟨rfl, trivial⟩ ?_
    rintro m u out w2 ⟨hm, ho, S⟩
    have hlo : out.length = (optsB os).length + m := by rw [ho]; simp
    refine Run.seq ?_
    refine Run.seq ?_
    refine Run.region ?_
    refine mv1 rfl rfl ?_
    refine lenS rfl (S.slI (i := 0) rfl) Tryd.underlying26 rfl rfl rfl ?_
    refine rem1 rfl rfl rfl (by decide) (r64 (by omega)) ?_
    refine neq1 rfl rfl rfl ?_
    refine Ro.nil ?_
    refine Nrm.code ?_
    refine Run.cond rfl (fun hc10 => ?_) (fun hc10 => ?_)
    ·
      try simp only [Bool.or_eq_true, Bool.and_eq_true, Bool.or_eq_false_iff, Bool.and_eq_false_iff, decide_eq_true_eq, decide_eq_false_iff_not, Bool.not_eq_true', Bool.not_eq_false', Bool.not_eq_true, Bool.not_eq_false] at hc10
      refine Run.skip ?_
      refine Nrm.code ?_
      refine Run.block ?_
      refine Run.region ?_
      refine mv1 rfl rfl ?_
      refine apBF (b := [_]) rfl e26 (qs := [(_, _)]) ⟨⟨_, _, _, rfl, rfl, rfl, rfl, by simp [Value.cells]⟩, trivial⟩ (by decide) rfl rfl S (i := 0) rfl rfl rfl (fun t e => by cases e; rfl) (fun _ => rfl) (by first | omega | (simp only [List.length_nil, List.length_append, List.length_cons]; omega)) ?_
      intro u_ v62 w3 S B_
      refine asg1 rfl rfl ?_
      refine Ro.nil ?_
      refine Nrm.blk ?_
      refine Nrm.loop3 (m + 1) (_) (_) ⟨by omega, by rw [ho, rep_succ], S⟩ (by omega) ⟨rfl, trivial⟩
    ·
      try simp only [Bool.or_eq_true, Bool.and_eq_true, Bool.or_eq_false_iff, Bool.and_eq_false_iff, decide_eq_true_eq, decide_eq_false_iff_not, Bool.not_eq_true', Bool.not_eq_false', Bool.not_eq_true, Bool.not_eq_false] at hc10
      refine Run.exit ?_
      refine Lv.code ?_
      refine Lv.back ?_
      refine Lv.hit ?_
      refine Nrm.code ?_
      refine Run.seq ?_
      refine Run.seq ?_
      refine Run.region ?_
      refine mv1 rfl rfl ?_
      refine lenS rfl (S.slI (i := 0) rfl) Tryd.underlying26 rfl rfl rfl ?_
      refine gtr1 rfl rfl rfl ?_
      refine Ro.nil ?_
      refine Nrm.code ?_
      refine Run.cond rfl (fun hc12 => ?_) (fun hc12 => ?_)
      ·
        try simp only [Bool.or_eq_true, Bool.and_eq_true, Bool.or_eq_false_iff, Bool.and_eq_false_iff, decide_eq_true_eq, decide_eq_false_iff_not, Bool.not_eq_true', Bool.not_eq_false', Bool.not_eq_true, Bool.not_eq_false] at hc12
        have hpl := pad4_of ho hm (by omega)
        have h4 := pad4_len (optsB os)
        rw [← hpl] at h4
        have hno : putOk os = false := putOk_long (by omega)
        refine Run.seq ?_
        refine Run.region ?_
        refine asg1 rfl rfl ?_
        refine asg1 rfl rfl ?_
        refine Ro.nil ?_
        refine Nrm.code ?_
        refine Run.ret ?_
        refine Rt.two rfl rfl rfl ?_
        exact ⟨.slice none 0 0, by simp [putE, hno], by simpa [putL, hno] using (S.nilB).toFB (i := 0) rfl⟩
      ·
        try simp only [Bool.or_eq_true, Bool.and_eq_true, Bool.or_eq_false_iff, Bool.and_eq_false_iff, decide_eq_true_eq, decide_eq_false_iff_not, Bool.not_eq_true', Bool.not_eq_false', Bool.not_eq_true, Bool.not_eq_false] at hc12
        refine Run.skip ?_
        refine Nrm.code ?_
        refine Run.seq ?_
        refine Run.region ?_
        refine mv1 rfl rfl ?_
        refine asg1 rfl rfl ?_
        refine asg1 rfl rfl ?_
        refine Ro.nil ?_
        refine Nrm.code ?_
        refine Run.ret ?_
        refine Rt.two rfl rfl rfl ?_
        have hyes := putOk_yes hall (by omega)
        exact ⟨u, by simp [putE, hyes], by rw [show putL os = out from by simp only [putL, hyes]; exact (pad4_of ho hm (by omega)).symm]; exact S.toFB (i := 0) rfl⟩
end Go.Proofs.YtkahmepenjhcpaaDoor.W
/- The base of this seat's proofs, twelfth part: lists of options of one's own. No statement of the seat is proved here. -/
namespace Go.Proofs.YtkahmepenjhcpaaDoor.W
open Go
set_option linter.unusedVariables false
section op
variable {P : Program} {R : Qp} {ds : List Deferred} {n : Nat} {l : Env} {k : List KI} {w w0 : World} {ops : Array Oper} {os : List Oper}
variable {d d1 d2 : Nat} {ty ty1 ty2 : TypeId} {ps ps1 ps2 : String} {af af1 af2 : Array Edge} {x y z : Operand} {N0 : List Nat} {L L' : List Own}
/-- append of one option that stands in a slice of its own -/
theorem apO {T : TypeId} {zc : List Value} {i : Nat} {v q q0 : Value} {kd : Int} (dt : List Int) {ol : List Opt} {vs : List Value} {L' : Value → List Own} (hx : ev l x = some ([], v)) (hy : ev l y = some ([], q0)) (hE : ElT P T 93 2 32 zc)
    (hq : Sl [] w 2 q0 1 [i64 kd, q]) (h1 : q.oneCell' = true) (hl : vs.length = ol.length) (S : St N0 w0 L w) (hk : getN L i = some (oO v ol vs)) (hn : Nat.blt d n = true)
    (hL : ∀ v', setN L i (oO v' (ol ++ [⟨kd, dt⟩]) (vs ++ [q])) = some (L' v')) (hroom : (ol.length + 1) * 32 ≤ 140737488355328)
    (h : ∀ v' w', St N0 w0 (L' v') w' → w.heap.size ≤ w'.heap.size → Ro P R ds n ops ((d, [], v') :: l) os k w') :
    Ro P R ds n ops l ({ dst := some d, op := .call { callee := .builtin .append, args := #[x, y], argTypes := #[T, T] }, type := ty, pos := ps, after := af, guard := none } :: os) k w :=
  ap hx hy hE hq (one_cons rfl (one_cons h1 one_nil)) S hk hn (fun v' => by
    have := hL v'
    rw [oO, optC_app hl] at this
    simpa [optC] using this) (by omega) (by simp only [maxLen]; omega) h
end op
/-- what is made new for the caller: options -/
def FO (w w' : World) (v : Value) (os : List Opt) (ds : List Value) : Prop := Bl w w' ∧ (oO v os ds).holds w' ∧ ∀ i ∈ (oO v os ds).ids, w.heap.size ≤ i
theorem St.fo {N0 : List Nat} {w0 w w' : World} {L : List Own} {v : Value} {os : List Opt} {ds : List Value} (S : St N0 w0 L w) (h : FO w w' v os ds) : St N0 w0 (oO v os ds :: L) w' :=
  S.new h.1 h.2.1 h.2.2 (Own.ids_nodup _)
theorem St.toFO {w0 w : World} {L : List Own} {v : Value} {os : List Opt} {ds : List Value} {i : Nat} (S : St [] w0 L w) (hk : getN L i = some (oO v os ds)) : FO w0 w v os ds := ⟨S.bl, S.rowI hk, S.fresh hk⟩
theorem BSs.snoc {N : List Nat} {w : World} : ∀ {vs : List Value} {ls : List (List Int)} {q : Value} {l : List Int}, BSs N w vs ls → BS N w q l → BSs N w (vs ++ [q]) (ls ++ [l])
  | [], [], q, l, _, h2 => ⟨h2, trivial⟩
  | [], _ :: _, _, _, h, _ => h.elim
  | _ :: _, [], _, _, h, _ => h.elim
  | _ :: _, _ :: _, _, _, h, h2 => ⟨h.1, BSs.snoc h.2 h2⟩
theorem OSs.snoc {N : List Nat} {w : World} {vs : List Value} {os : List Opt} {q : Value} {o : Opt} (h : OSs N w vs os) (h2 : BS N w q o.data) : OSs N w (vs ++ [q]) (os ++ [o]) := by
  have := BSs.snoc h h2
  unfold OSs; simpa using this
/-- a list of options of one's own, read -/
theorem St.osI {N0 : List Nat} {w0 w : World} {L : List Own} {v : Value} {os : List Opt} {ds : List Value} {i : Nat} (S : St N0 w0 L w) (hk : getN L i = some (oO v os ds)) (h : OSs [] w ds os) : OS [] w v os := ⟨ds, S.slI hk, h⟩
/-! ### reading options: the plain answer -/
def optsG : List Int → Option (List Opt)
  | [] => some []
  | [k] => if k = 0 ∨ k = 1 then some [] else none
  | k :: n :: r => if k = 0 then some [] else if k = 1 then optsG (n :: r) else if n < 2 ∨ r.length < n.toNat - 2 then none else (optsG (r.drop (n.toNat - 2))).map (⟨k, r.take (n.toNat - 2)⟩ :: ·)
termination_by l => l.length
decreasing_by all_goals simp; try omega
def optE (b : List Int) : Int := if 40 < b.length then 65 else if (optsG b).isSome then 0 else 65
def optL (b : List Int) : List Opt := if 40 < b.length then [] else (optsG b).getD []
theorem drop_cons {b : List Int} {i : Nat} (h : i < b.length) : b.drop i = b.getD i 0 :: b.drop (i + 1) := by
  rw [List.drop_eq_getElem_cons h, List.getD_eq_getElem?_getD, List.getElem?_eq_getElem h]; rfl
theorem optsG_zero {b : List Int} {i : Nat} (h : i < b.length) (h0 : b.getD i 0 = 0) : optsG (b.drop i) = some [] := by
  rw [drop_cons h, h0]
  cases b.drop (i + 1) <;> rw [optsG] <;> simp
theorem optsG_one {b : List Int} {i : Nat} (h : i < b.length) (h0 : b.getD i 0 = 1) : optsG (b.drop i) = optsG (b.drop (i + 1)) := by
  rw [drop_cons h, h0]
  cases b.drop (i + 1) <;> rw [optsG] <;> simp [optsG]
theorem optsG_end {b : List Int} {i : Nat} (h : i + 1 = b.length) (h0 : b.getD i 0 ≠ 0) (h1 : b.getD i 0 ≠ 1) : optsG (b.drop i) = none := by
  rw [drop_cons (by omega), List.drop_eq_nil_of_le (by omega), optsG]
  simp only [h0, h1, or_self, if_false]
theorem optsG_bad {b : List Int} {i : Nat} (h : i + 1 < b.length) (h0 : b.getD i 0 ≠ 0) (h1 : b.getD i 0 ≠ 1) (hn : b.getD (i + 1) 0 < 2 ∨ (b.length : Int) < i + b.getD (i + 1) 0) : optsG (b.drop i) = none := by
  rw [drop_cons (by omega), drop_cons h, optsG]
  have : b.getD (i + 1) 0 < 2 ∨ (b.drop (i + 1 + 1)).length < (b.getD (i + 1) 0).toNat - 2 := by
    rw [List.length_drop]; omega
  rw [if_neg h0, if_neg h1, if_pos this]
theorem optsG_go {b : List Int} {i m : Nat} (h0 : b.getD i 0 ≠ 0) (h1 : b.getD i 0 ≠ 1) (hm : b.getD (i + 1) 0 = m) (h2 : 2 ≤ m) (h3 : i + m ≤ b.length) :
    optsG (b.drop i) = (optsG (b.drop (i + m))).map (⟨b.getD i 0, (b.drop (i + 2)).take (i + m - (i + 2))⟩ :: ·) := by
  rw [drop_cons (show i < b.length by omega), drop_cons (show i + 1 < b.length by omega), optsG, hm]
  have : ¬ ((m : Int) < 2 ∨ (b.drop (i + 1 + 1)).length < (m : Int).toNat - 2) := by
    rw [List.length_drop]; omega
  rw [if_neg h0, if_neg h1, if_neg this, List.drop_drop]
  have e1 : i + 1 + 1 + ((m : Int).toNat - 2) = i + m := by omega
  have e2 : (m : Int).toNat - 2 = i + m - (i + 2) := by omega
  rw [e1, e2]
/-- what has been read, and what follows -/
def optAcc (b : List Int) (acc : List Opt) (i : Nat) : Prop := optsG b = (optsG (b.drop i)).map (acc ++ ·)
theorem optAcc.zero (b : List Int) : optAcc b [] 0 := by
  unfold optAcc; simp
theorem optAcc.step {b : List Int} {acc : List Opt} {i j : Nat} {o : Opt} (h : optAcc b acc i) (hs : optsG (b.drop i) = (optsG (b.drop j)).map (o :: ·)) : optAcc b (acc ++ [o]) j := by
  unfold optAcc at *
  rw [h, hs]
  cases optsG (b.drop j) <;> simp
theorem optAcc.skip {b : List Int} {acc : List Opt} {i j : Nat} (h : optAcc b acc i) (hs : optsG (b.drop i) = optsG (b.drop j)) : optAcc b acc j := by
  unfold optAcc at *; rw [h, hs]
theorem optAcc.bad {b : List Int} {acc : List Opt} {i : Nat} (h : optAcc b acc i) (h4 : b.length ≤ 40) (hs : optsG (b.drop i) = none) : optE b = 65 ∧ optL b = [] := by
  unfold optAcc at h
  rw [hs] at h
  have : ¬ 40 < b.length := by omega
  simp only [optE, optL, this, if_false, h]; simp
theorem optAcc.good {b : List Int} {acc : List Opt} {i : Nat} (h : optAcc b acc i) (h4 : b.length ≤ 40) (hs : optsG (b.drop i) = some []) : optE b = 0 ∧ optL b = acc := by
  unfold optAcc at h
  rw [hs] at h
  have : ¬ 40 < b.length := by omega
  simp only [optE, optL, this, if_false, h]; simp
theorem optsG_nil {b : List Int} {i : Nat} (h : b.length ≤ i) : optsG (b.drop i) = some [] := by rw [List.drop_eq_nil_of_le h, optsG]
theorem opt_long {b : List Int} (h : 40 < b.length) : optE b = 65 ∧ optL b = [] := by simp [optE, optL, h]
theorem acc_len {acc : List Opt} {i : Nat} (h : acc.length ≤ i) (o : Opt) {j : Nat} (hj : i + 2 ≤ j) : (acc ++ [o]).length ≤ j := by simp; omega
end Go.Proofs.YtkahmepenjhcpaaDoor.W
/- Contracts: options read. No statement of the seat is proved here. -/
namespace Go.Proofs.YtkahmepenjhcpaaDoor.W
open Go
set_option linter.unusedSimpArgs false
set_option linter.unusedVariables false
set_option maxHeartbeats 1000000 in
theorem c44 (v : Value) (b : List Int) (w : World) (hb : BS [] w v b) :
  CallsV Tryd.prog 44 #[v] w (fun r w' => ∃ u vs, r = .tuple #[u, .int .i64 (optE b)] ∧ FO w w' u (optL b) vs ∧ ∀ N w1, BS N w1 v b → OSs N w1 vs (optL b)) := by
 refine enter Tryd.func44 rfl Tryd.ntmps44 (l := [(0, [], _)]) rfl rfl ?_
 have S := St.refl [] w
 refine Run.seq ?_
 refine Run.region ?_
 refine asg1 rfl rfl ?_
 refine asg1 rfl rfl ?_
 refine Ro.nil ?_
 refine Nrm.code ?_
 refine Run.seq ?_
 refine Run.seq ?_
 refine Run.region ?_
 refine mv1 rfl rfl ?_
 refine lenS rfl hb.2 Tryd.underlying26 rfl rfl rfl ?_
 refine gtr1 rfl rfl rfl ?_
 refine Ro.nil ?_
 refine Nrm.code ?_
 refine Run.cond rfl (fun hc1 => ?_) (fun hc1 => ?_)
 ·
  try simp only [Bool.or_eq_true, Bool.and_eq_true, Bool.or_eq_false_iff, Bool.and_eq_false_iff, decide_eq_true_eq, decide_eq_false_iff_not, Bool.not_eq_true', Bool.not_eq_false', Bool.not_eq_true, Bool.not_eq_false] at hc1
  refine Run.seq ?_
  refine Run.region ?_
  refine asg1 rfl rfl ?_
  refine asg1 rfl rfl ?_
  refine Ro.nil ?_
  refine Nrm.code ?_
  refine Run.ret ?_
  refine Rt.two rfl rfl rfl ?_
  have hbad := opt_long (b := b) (by omega)
  have S := S.nilO
  exact ⟨.slice none 0 0, [], by rw [hbad.1], by rw [hbad.2]; exact S.toFO (i := 0) rfl, fun _ _ _ => by rw [hbad.2]; trivial⟩
 ·
  try simp only [Bool.or_eq_true, Bool.and_eq_true, Bool.or_eq_false_iff, Bool.and_eq_false_iff, decide_eq_true_eq, decide_eq_false_iff_not, Bool.not_eq_true', Bool.not_eq_false', Bool.not_eq_true, Bool.not_eq_false] at hc1
  refine Run.skip ?_
  refine Nrm.code ?_
  refine Run.seq ?_
  refine Run.region ?_
  refine asg1 rfl rfl ?_
  have S := S.nilO
  refine Ro.nil ?_
  refine Nrm.code ?_
  refine Run.seq ?_
  refine Run.seq ?_
  refine Run.region ?_
  refine asg1 rfl rfl ?_
  refine Ro.nil ?_
  refine Nrm.code ?_
  refine Run.block ?_
  refine Run.loop4 (fun (i : Nat) (u : Value) (acc : List Opt) (vs : List Value) w_ => i ≤ b.length ∧ vs.length = acc.length ∧ acc.length ≤ i ∧ optAcc b acc i ∧ (∀ N w1, BS N w1 v b → OSs N w1 vs acc) ∧ St [] w [oO u acc vs] w_) (fun (i : Nat) (u : Value) (acc : List Opt) (vs : List Value) => [(0, [], v), (4, [], u), (5, [], .int .i64 i)]) (fun (i : Nat) (u : Value) (acc : List Opt) (vs : List Value) => b.length - i) (0) (_) ([]) ([]) ⟨Nat.zero_le _, rfl, Nat.le_refl _, optAcc.zero b, fun _ _ _ => trivial, S⟩ ⟨rfl, rfl, rfl, trivial⟩ ?_
  rintro i u acc vs w1 ⟨hi, hvl, hal, hacc, hvs, S⟩
  refine Run.seq ?_
  refine Run.seq ?_
  refine Run.region ?_
  refine mv1 rfl rfl ?_
  refine mv1 rfl rfl ?_
  refine lenS rfl hb.2 Tryd.underlying26 rfl rfl rfl ?_
  refine lss1 rfl rfl rfl ?_
  refine Ro.nil ?_
  refine Nrm.code ?_
  refine Run.cond rfl (fun hc5 => ?_) (fun hc5 => ?_)
  ·
   try simp only [Bool.or_eq_true, Bool.and_eq_true, Bool.or_eq_false_iff, Bool.and_eq_false_iff, decide_eq_true_eq, decide_eq_false_iff_not, Bool.not_eq_true', Bool.not_eq_false', Bool.not_eq_true, Bool.not_eq_false] at hc5
   refine Run.skip ?_
   refine Nrm.code ?_
   refine Run.block ?_
   refine Run.seq ?_
   refine Run.seq ?_
   refine Run.region ?_
   refine mv1 rfl rfl ?_
   refine mv1 rfl rfl ?_
   refine ixa rfl rfl hb.2 e26 rfl rfl rfl rfl (fun _ => by omega) ?_
   refine ldB rfl hb S T5 rfl rfl rfl (fun _ => by omega) ?_
   intro q17 hq17 hbq17
   try simp only [Int.toNat_natCast, Nat.mul_one] at hq17
   refine Ro.nil ?_
   refine Nrm.code ?_
   refine Run.block ?_
   refine Run.seq ?_
   refine Run.region ?_
   refine eql1 rfl rfl rfl ?_
   refine asg1 rfl rfl ?_
   refine Ro.nil ?_
   refine Nrm.code ?_
   refine Run.cond rfl (fun hc7 => ?_) (fun hc7 => ?_)
   ·
    try simp only [Bool.or_eq_true, Bool.and_eq_true, Bool.or_eq_false_iff, Bool.and_eq_false_iff, decide_eq_true_eq, decide_eq_false_iff_not, Bool.not_eq_true', Bool.not_eq_false', Bool.not_eq_true, Bool.not_eq_false] at hc7
    refine Run.seq ?_
    refine Run.region ?_
    refine mv1 rfl rfl ?_
    refine asg1 rfl rfl ?_
    refine asg1 rfl rfl ?_
    refine Ro.nil ?_
    refine Nrm.code ?_
    refine Run.ret ?_
    refine Rt.two rfl rfl rfl ?_
    have hg := hacc.good (by omega) (optsG_zero (by omega) (by omega))
    exact ⟨u, vs, by rw [hg.1], by rw [hg.2]; exact S.toFO (i := 0) rfl, by rw [hg.2]; exact hvs⟩
   ·
    try simp only [Bool.or_eq_true, Bool.and_eq_true, Bool.or_eq_false_iff, Bool.and_eq_false_iff, decide_eq_true_eq, decide_eq_false_iff_not, Bool.not_eq_true', Bool.not_eq_false', Bool.not_eq_true, Bool.not_eq_false] at hc7
    refine Run.seq ?_
    refine Run.region ?_
    refine eql1 rfl rfl rfl ?_
    refine asg1 rfl rfl ?_
    refine Ro.nil ?_
    refine Nrm.code ?_
    refine Run.cond rfl (fun hc9 => ?_) (fun hc9 => ?_)
    ·
     try simp only [Bool.or_eq_true, Bool.and_eq_true, Bool.or_eq_false_iff, Bool.and_eq_false_iff, decide_eq_true_eq, decide_eq_false_iff_not, Bool.not_eq_true', Bool.not_eq_false', Bool.not_eq_true, Bool.not_eq_false] at hc9
     refine Run.seq ?_
     refine Run.region ?_
     refine mv1 rfl rfl ?_
     refine add1 rfl rfl rfl (w64 (by omega)) ?_
     refine asg1 rfl rfl ?_
     refine Ro.nil ?_
     refine Nrm.code ?_
     refine Run.exit ?_
     refine Lv.miss rfl ?_
     refine Lv.code ?_
     refine Lv.hit ?_
     refine Nrm.loop4 (i + 1) (_) (_) (_) ⟨by omega, hvl, by omega, hacc.skip (optsG_one (by omega) (by omega)), hvs, S⟩ (by omega) ⟨rfl, rfl, rfl, trivial⟩
    ·
     try simp only [Bool.or_eq_true, Bool.and_eq_true, Bool.or_eq_false_iff, Bool.and_eq_false_iff, decide_eq_true_eq, decide_eq_false_iff_not, Bool.not_eq_true', Bool.not_eq_false', Bool.not_eq_true, Bool.not_eq_false] at hc9
     refine Run.skip ?_
     refine Nrm.blk ?_
     refine Nrm.code ?_
     refine Run.seq ?_
     refine Run.seq ?_
     refine Run.region ?_
     refine mv1 rfl rfl ?_
     refine add1 rfl rfl rfl (w64 (by omega)) ?_
     refine mv1 rfl rfl ?_
     refine lenS rfl hb.2 Tryd.underlying26 rfl rfl rfl ?_
     refine eql1 rfl rfl rfl ?_
     refine Ro.nil ?_
     refine Nrm.code ?_
     refine Run.cond rfl (fun hc11 => ?_) (fun hc11 => ?_)
     ·
      try simp only [Bool.or_eq_true, Bool.and_eq_true, Bool.or_eq_false_iff, Bool.and_eq_false_iff, decide_eq_true_eq, decide_eq_false_iff_not, Bool.not_eq_true', Bool.not_eq_false', Bool.not_eq_true, Bool.not_eq_false] at hc11
      refine Run.seq ?_
      refine Run.region ?_
      refine asg1 rfl rfl ?_
      refine asg1 rfl rfl ?_
      refine Ro.nil ?_
      refine Nrm.code ?_
      refine Run.ret ?_
      refine Rt.two rfl rfl rfl ?_
      have hbad := hacc.bad (by omega) (optsG_end (by omega) (by omega) (by omega))
      have S := S.nilO
      exact ⟨.slice none 0 0, [], by rw [hbad.1], by rw [hbad.2]; exact S.toFO (i := 0) rfl, fun _ _ _ => by rw [hbad.2]; trivial⟩
     ·
      try simp only [Bool.or_eq_true, Bool.and_eq_true, Bool.or_eq_false_iff, Bool.and_eq_false_iff, decide_eq_true_eq, decide_eq_false_iff_not, Bool.not_eq_true', Bool.not_eq_false', Bool.not_eq_true, Bool.not_eq_false] at hc11
      refine Run.skip ?_
      refine Nrm.code ?_
      refine Run.seq ?_
      refine Run.region ?_
      refine mv1 rfl rfl ?_
      refine mv1 rfl rfl ?_
      refine add1 rfl rfl rfl (w64 (by omega)) ?_
      refine ixa rfl rfl hb.2 e26 rfl rfl rfl rfl (fun _ => by omega) ?_
      refine ldB rfl hb S T5 rfl rfl rfl (fun _ => by omega) ?_
      intro q34 hq34 hbq34
      try simp only [Int.toNat_natCast, Nat.mul_one] at hq34
      obtain ⟨m, hm⟩ : ∃ m : Nat, q34 = m := ⟨q34.toNat, by omega⟩
      subst hm
      replace hq34 : (m : Int) = b.getD (i + 1) 0 := hq34
      refine cvi1 rfl rfl Tryd.underlying5 Tryd.underlying3 (w64 (by omega)) ?_
      refine asg1 rfl rfl ?_
      refine Ro.nil ?_
      refine Nrm.code ?_
      refine Run.seq ?_
      refine Run.seq ?_
      refine Run.region ?_
      refine mv1 rfl rfl ?_
      refine lss1 rfl rfl rfl ?_
      refine mv1 rfl rfl ?_
      refine mv rfl rfl rfl rfl ?_
      refine mv rfl rfl rfl rfl ?_
      refine add rfl rfl rfl rfl rfl rfl (fun hG => by first | exact w64 (by omega) | (simp [allT] at hG; exact w64 (by omega))) ?_
      refine mv rfl rfl rfl rfl ?_
      refine lenS rfl hb.2 Tryd.underlying26 rfl rfl rfl ?_
      refine gtr rfl rfl rfl rfl rfl rfl ?_
      refine pkO rfl rfl rfl rfl rfl rfl ?_
      refine Ro.nil ?_
      refine Nrm.code ?_
      refine Run.cond rfl (fun hc14 => ?_) (fun hc14 => ?_)
      ·
       try simp only [Bool.or_eq_true, Bool.and_eq_true, Bool.or_eq_false_iff, Bool.and_eq_false_iff, decide_eq_true_eq, decide_eq_false_iff_not, Bool.not_eq_true', Bool.not_eq_false', Bool.not_eq_true, Bool.not_eq_false] at hc14
       refine Run.seq ?_
       refine Run.region ?_
       refine asg1 rfl rfl ?_
       refine asg1 rfl rfl ?_
       refine Ro.nil ?_
       refine Nrm.code ?_
       refine Run.ret ?_
       refine Rt.two rfl rfl rfl ?_
       have hbad := hacc.bad (by omega) (optsG_bad (by omega) (by omega) (by omega) (by omega))
       have S := S.nilO
       exact ⟨.slice none 0 0, [], by rw [hbad.1], by rw [hbad.2]; exact S.toFO (i := 0) rfl, fun _ _ _ => by rw [hbad.2]; trivial⟩
      ·
       try simp only [Bool.or_eq_true, Bool.and_eq_true, Bool.or_eq_false_iff, Bool.and_eq_false_iff, decide_eq_true_eq, decide_eq_false_iff_not, Bool.not_eq_true', Bool.not_eq_false', Bool.not_eq_true, Bool.not_eq_false] at hc14
       refine Run.skip ?_
       refine Nrm.code ?_
       refine Run.seq ?_
       refine Run.held (by kernel_rfl) S [false] rfl rfl rfl ?_
       intro w2 BD S SC
       refine Ho.take (i := 0) SC Pp.body rfl (by kernel_rfl) (by kernel_rfl) (by kernel_rfl) rfl rfl ?_
       refine qmv rfl rfl rfl rfl ?_
       refine Ho.back ?_
       refine Ho.take (i := 1) SC Pp.body rfl (by kernel_rfl) (by kernel_rfl) (by kernel_rfl) rfl rfl ?_
       refine qmv rfl rfl rfl rfl ?_
       refine Ho.back ?_
       refine Ho.take (i := 2) SC Pp.body rfl (by kernel_rfl) (by kernel_rfl) (by kernel_rfl) rfl rfl ?_
       refine qmv rfl rfl rfl rfl ?_
       refine Ho.back ?_
       refine Ho.take (i := 3) SC Pp.body rfl (by kernel_rfl) (by kernel_rfl) (by kernel_rfl) rfl rfl ?_
       refine qixa rfl rfl hb.2 e26 rfl rfl rfl rfl (fun hG => by (try simp [allT] at hG); omega) ?_
       refine Ho.back ?_
       refine Ho.take (i := 4) SC Pp.body rfl (by kernel_rfl) (by kernel_rfl) (by kernel_rfl) rfl rfl ?_
       refine qldB rfl hb (fun _ S => S) T5 rfl rfl rfl (fun _ => by omega) ?_
       intro q50 hq50 hbq50
       try simp only [Int.toNat_natCast, Nat.mul_one] at hq50
       refine Ho.back ?_
       refine Ho.take (i := 5) SC Pp.body rfl (by kernel_rfl) (by kernel_rfl) (by kernel_rfl) rfl rfl ?_
       refine qcvi rfl rfl rfl rfl Tryd.underlying5 Tryd.underlying3 (fun _ => w64 (by omega)) ?_
       refine Ho.back ?_
       refine Ho.take (i := 6) SC Pp.body rfl (by kernel_rfl) (by kernel_rfl) (by kernel_rfl) rfl rfl ?_
       refine qmv rfl rfl rfl rfl ?_
       refine Ho.back ?_
       refine Ho.take (i := 7) SC Pp.body rfl (by kernel_rfl) (by kernel_rfl) (by kernel_rfl) rfl rfl ?_
       refine qmv rfl rfl rfl rfl ?_
       refine Ho.back ?_
       refine Ho.take (i := 8) SC Pp.body rfl (by kernel_rfl) (by kernel_rfl) (by kernel_rfl) rfl rfl ?_
       refine qadd rfl rfl rfl rfl rfl rfl (fun _ => w64 (by omega)) ?_
       refine Ho.back ?_
       refine Ho.take (i := 9) SC Pp.body rfl (by kernel_rfl) (by kernel_rfl) (by kernel_rfl) rfl rfl ?_
       refine qmv rfl rfl rfl rfl ?_
       refine Ho.back ?_
       refine Ho.take (i := 10) SC Pp.body rfl (by kernel_rfl) (by kernel_rfl) (by kernel_rfl) rfl rfl ?_
       refine qmv rfl rfl rfl rfl ?_
       refine Ho.back ?_
       refine Ho.take (i := 11) SC Pp.body rfl (by kernel_rfl) (by kernel_rfl) (by kernel_rfl) rfl rfl ?_
       refine qadd rfl rfl rfl rfl rfl rfl (fun _ => w64 (by omega)) ?_
       refine Ho.back ?_
       refine Ho.take (i := 12) SC Pp.body rfl (by kernel_rfl) (by kernel_rfl) (by kernel_rfl) rfl rfl ?_
       refine qmv rfl rfl rfl rfl ?_
       refine Ho.back ?_
       refine Ho.take (i := 13) SC Pp.body rfl (by kernel_rfl) (by kernel_rfl) (by kernel_rfl) rfl rfl ?_
       refine qmv rfl rfl rfl rfl ?_
       refine Ho.back ?_
       refine Ho.take (i := 14) SC Pp.body rfl (by kernel_rfl) (by kernel_rfl) (by kernel_rfl) rfl rfl ?_
       refine qadd rfl rfl rfl rfl rfl rfl (fun _ => w64 (by omega)) ?_
       refine Ho.back ?_
       refine Ho.take (i := 15) SC Pp.body rfl (by kernel_rfl) (by kernel_rfl) (by kernel_rfl) rfl rfl ?_
       have hv61 := hb.cut (lo := i + 2) (hi := i + m) (mx := i + m) (by have hcap := hb.cap; omega)
       refine qslC (lo := i + 2) (hi := i + m) (mx := i + m) rfl hb e26 rfl rfl rfl (i1 := some (i + 2)) (i2 := some (i + m)) (i3 := some (i + m)) ⟨_, _, _, rfl, rfl⟩ ⟨_, _, _, rfl, rfl⟩ ⟨_, _, _, rfl, rfl⟩ rfl rfl rfl (fun h => by first | rfl | cases h) (fun hG => by (try simp [allT] at hG); have hcap := hb.cap; omega) ?_
       refine Ho.back ?_
       refine Ho.take (i := 16) SC Pp.body rfl (by kernel_rfl) (by kernel_rfl) (by kernel_rfl) rfl rfl ?_
       refine qbld B93 (qs := [(_, _), (_, _)]) ⟨⟨_, _, _, rfl, rfl, rfl, rfl, by simp [Value.cells]⟩, ⟨_, _, _, rfl, rfl, cells1 hv61.one, rfl, List.cons_ne_nil _ _⟩, trivial⟩ rfl rfl rfl ?_
       refine Ho.back ?_
       refine Ho.one (i := 17) (by kernel_rfl) rfl rfl ?_
       refine bsl e25 (qs := [(_, _)]) ⟨⟨_, _, _, rfl, rfl, rfl, rfl, by simp [Value.cells]⟩, trivial⟩ rfl rfl rfl rfl S ?_
       intro u63 w3 S B_
       have SC := S.pick [false, false] rfl
       refine Ho.on SC ?_
       refine Ho.one (i := 18) (by kernel_rfl) rfl rfl ?_
       refine apO (i := 1) ((b.drop (i + 2)).take (i + m - (i + 2))) rfl rfl e25 (S.slI (i := 0) rfl) hv61.one hvl S rfl rfl (fun v' => rfl) (by omega) ?_
       intro u2 w4 S B_
       have SC := S.pick [false, false] rfl
       refine Ho.on SC ?_
       refine Ho.take (i := 19) SC Pp.body rfl (by kernel_rfl) (by kernel_rfl) (by kernel_rfl) rfl rfl ?_
       refine qasg rfl rfl rfl rfl ?_
       refine Ho.back ?_
       refine Ho.done (by kernel_rfl) ?_
       refine Nrm.code ?_
       refine Run.region ?_
       refine mv1 rfl rfl ?_
       refine mv1 rfl rfl ?_
       refine add1 rfl rfl rfl (w64 (by omega)) ?_
       refine asg1 rfl rfl ?_
       refine Ro.nil ?_
       refine Nrm.blk ?_
       refine Nrm.loop4 (i + m) (_) (_) (_) ⟨by omega, by simp [hvl], acc_len hal _ (by omega), hacc.step (by rw [hq50]; exact optsG_go (by omega) (by omega) hq34.symm (by omega) (by omega)),
        fun N w1 h1 => (hvs N w1 h1).snoc (h1.cut (by have := h1.cap; omega)), S.drop0⟩ (by omega) ⟨rfl, rfl, rfl, trivial⟩
  ·
   try simp only [Bool.or_eq_true, Bool.and_eq_true, Bool.or_eq_false_iff, Bool.and_eq_false_iff, decide_eq_true_eq, decide_eq_false_iff_not, Bool.not_eq_true', Bool.not_eq_false', Bool.not_eq_true, Bool.not_eq_false] at hc5
   refine Run.exit ?_
   refine Lv.code ?_
   refine Lv.back ?_
   refine Lv.hit ?_
   refine Nrm.code ?_
   refine Run.seq ?_
   refine Run.region ?_
   refine mv1 rfl rfl ?_
   refine asg1 rfl rfl ?_
   refine asg1 rfl rfl ?_
   refine Ro.nil ?_
   refine Nrm.code ?_
   refine Run.ret ?_
   refine Rt.two rfl rfl rfl ?_
   have hg := hacc.good (by omega) (optsG_nil (by omega))
   exact ⟨u, vs, by rw [hg.1], by rw [hg.2]; exact S.toFO (i := 0) rfl, by rw [hg.2]; exact hvs⟩
end Go.Proofs.YtkahmepenjhcpaaDoor.W
/- The base of this seat's proofs, thirteenth part: what is new is apart from what was. No statement of the seat is proved here. -/
namespace Go.Proofs.YtkahmepenjhcpaaDoor.W
open Go
set_option linter.unusedVariables false
section
variable {N0 N1 N : List Nat} {w0 w w' : World} {L : List Own}
theorem Rd.stN {A : Option Addr} {cs : List Value} (h : Rd N1 w0 A cs) (hN : ∀ i ∈ N0, i ∈ N1) (S : St N0 w0 L w) : Rd (idsL L ++ N1) w A cs := by
  intro i hi
  obtain ⟨a, h1, h2, h3, h4⟩ := h i hi
  have hlt := cell_lt h4
  have h3' : a.block ∉ N0 := fun hh => h3 (hN _ hh)
  exact ⟨a, h1, h2, fun hh => by
    rcases List.mem_append.1 hh with hh | hh
    · exact S.off _ hlt h3' hh
    · exact h3 hh, (cell_congr (S.keep _ hlt h3')).trans h4⟩
theorem Sl.stN {sz n : Nat} {v : Value} {cs : List Value} (h : Sl N1 w0 sz v n cs) (hN : ∀ i ∈ N0, i ∈ N1) (S : St N0 w0 L w) : Sl (idsL L ++ N1) w sz v n cs :=
  let ⟨h0, A, cap, h1, h2, h3, h4⟩ := h; ⟨h0, A, cap, h1, h2, h3, h4.stN hN S⟩
theorem BS.stN {v : Value} {l : List Int} (h : BS N1 w0 v l) (hN : ∀ i ∈ N0, i ∈ N1) (S : St N0 w0 L w) : BS (idsL L ++ N1) w v l := ⟨h.1, h.2.stN hN S⟩
theorem BSs.stN (hN : ∀ i ∈ N0, i ∈ N1) (S : St N0 w0 L w) : ∀ {vs : List Value} {ls : List (List Int)}, BSs N1 w0 vs ls → BSs (idsL L ++ N1) w vs ls
  | [], [], h => h
  | [], _ :: _, h => h.elim
  | _ :: _, [], h => h.elim
  | _ :: _, _ :: _, h => ⟨h.1.stN hN S, BSs.stN hN S h.2⟩
theorem OSs.stN (hN : ∀ i ∈ N0, i ∈ N1) (S : St N0 w0 L w) {vs : List Value} {os : List Opt} (h : OSs N1 w0 vs os) : OSs (idsL L ++ N1) w vs os := BSs.stN hN S h
theorem OSs.bl {vs : List Value} {os : List Opt} (h : OSs N w vs os) (B : Bl w w') : OSs N w' vs os := BSs.bl B h
theorem OSs.weak {vs : List Value} {os : List Opt} (h : OSs N1 w vs os) (hN : ∀ i ∈ N, i ∈ N1) : OSs N w vs os := BSs.weak hN h
theorem FB.bs {v : Value} {l : List Int} (h : FB w w' v l) (hb : byt l) (hN : ∀ i ∈ N, i < w.heap.size) : BS N w' v l :=
  ⟨hb, Own.sl h.2.1 N (fun i hi hn => by have h1 := h.2.2 i hi; have h2 := hN i hn; omega)⟩
/-- new options, to be read -/
def FOS (w w' : World) (v : Value) (os : List Opt) : Prop := Bl w w' ∧ ∀ N, (∀ i ∈ N, i < w.heap.size) → OS N w' v os
theorem below_app (S : St [] w0 L w) (hN : ∀ i ∈ N, i < w0.heap.size) : ∀ i ∈ idsL L ++ N, i < w.heap.size := by
  intro i hi
  rcases List.mem_append.1 hi with h | h
  · exact S.lt i h
  · have h1 := hN i h; have h2 := S.size; omega
theorem St.toFOS {v : Value} {os : List Opt} {ds : List Value} {i : Nat} (S : St [] w0 L w) (hk : getN L i = some (oO v os ds)) (h : ∀ N, (∀ i ∈ N, i < w0.heap.size) → OSs N w ds os) : FOS w0 w v os :=
  ⟨S.bl, fun N hN => ⟨ds, Own.sl (S.rowI hk) N (fun j hj hn => by have h1 := S.fresh hk j hj; have h2 := hN j hn; omega), h N hN⟩⟩
end
end Go.Proofs.YtkahmepenjhcpaaDoor.W
/- Contracts: the reference reads options. No statement of the seat is proved here. -/
namespace Go.Proofs.YtkahmepenjhcpaaDoor.W
open Go
set_option linter.unusedSimpArgs false
set_option linter.unusedVariables false
theorem mid_drop {A B N : List Nat} : ∀ i ∈ A ++ N, i ∈ A ++ (B ++ N) := by
  intro i hi
  rcases List.mem_append.1 hi with h | h
  · exact List.mem_append_left _ h
  · exact List.mem_append_right _ (List.mem_append_right _ h)
set_option maxHeartbeats 1000000 in
theorem c45 (v : Value) (b : List Int) (w : World) (hb : BS [] w v b) :
    CallsV Tryd.prog 45 #[v] w (fun r w' => ∃ u, r = .tuple #[u, .int .i64 (optE b)] ∧ FOS w w' u (optL b)) := by
  refine enter Tryd.func45 rfl Tryd.ntmps45 (l := [(0, [], _)]) rfl rfl ?_
  have S := St.refl [] w
  refine Run.seq ?_
  refine Run.region ?_
  refine asg1 rfl rfl ?_
  refine asg1 rfl rfl ?_
  refine Ro.nil ?_
  refine Nrm.code ?_
  refine Run.seq ?_
  refine Run.seq ?_
  refine Run.region ?_
  refine mv1 rfl rfl ?_
  refine lenS rfl hb.2 Tryd.underlying26 rfl rfl rfl ?_
  refine gtr1 rfl rfl rfl ?_
  refine Ro.nil ?_
  refine Nrm.code ?_
  refine Run.cond rfl (fun hc1 => ?_) (fun hc1 => ?_)
  ·
    try simp only [Bool.or_eq_true, Bool.and_eq_true, Bool.or_eq_false_iff, Bool.and_eq_false_iff, decide_eq_true_eq, decide_eq_false_iff_not, Bool.not_eq_true', Bool.not_eq_false', Bool.not_eq_true, Bool.not_eq_false] at hc1
    refine Run.seq ?_
    refine Run.region ?_
    refine asg1 rfl rfl ?_
    refine asg1 rfl rfl ?_
    refine Ro.nil ?_
    refine Nrm.code ?_
    refine Run.ret ?_
    refine Rt.two rfl rfl rfl ?_
    have hbad := opt_long (b := b) (by omega)
    have S := S.nilO
    exact ⟨.slice none 0 0, by rw [hbad.1], by rw [hbad.2]; exact S.toFOS (i := 0) rfl (fun _ _ => trivial)⟩
  ·
    try simp only [Bool.or_eq_true, Bool.and_eq_true, Bool.or_eq_false_iff, Bool.and_eq_false_iff, decide_eq_true_eq, decide_eq_false_iff_not, Bool.not_eq_true', Bool.not_eq_false', Bool.not_eq_true, Bool.not_eq_false] at hc1
    refine Run.skip ?_
    refine Nrm.code ?_
    refine Run.seq ?_
    refine Run.region ?_
    refine asg1 rfl rfl ?_
    have S := S.nilO
    refine Ro.nil ?_
    refine Nrm.code ?_
    refine Run.seq ?_
    refine Run.region ?_
    refine asg1 rfl rfl ?_
    refine Ro.nil ?_
    refine Nrm.code ?_
    refine Run.seq ?_
    refine Run.block ?_
    refine Run.loop4 (fun (i : Nat) (u : Value) (acc : List Opt) (vs : List Value) w_ => i ≤ b.length ∧ vs.length = acc.length ∧ acc.length ≤ i ∧ optAcc b acc i ∧ (∀ N, (∀ j ∈ N, j < w.heap.size) → OSs (idsL [oO u acc vs] ++ N) w_ vs acc) ∧ St [] w [oO u acc vs] w_) (fun (i : Nat) (u : Value) (acc : List Opt) (vs : List Value) => [(0, [], v), (4, [], u), (5, [], .int .i64 i)]) (fun (i : Nat) (u : Value) (acc : List Opt) (vs : List Value) => b.length - i) (0) (_) ([]) ([]) ⟨Nat.zero_le _, rfl, Nat.le_refl _, optAcc.zero b, fun _ _ => trivial, S⟩ ⟨rfl, rfl, rfl, trivial⟩ ?_
    rintro i u acc vs w1 ⟨hi, hvl, hal, hacc, hvs, S⟩
    refine Run.seq ?_
    refine Run.seq ?_
    refine Run.region ?_
    refine mv1 rfl rfl ?_
    refine mv1 rfl rfl ?_
    refine lenS rfl hb.2 Tryd.underlying26 rfl rfl rfl ?_
    refine lss1 rfl rfl rfl ?_
    refine mv1 rfl rfl ?_
    refine mv rfl rfl rfl rfl ?_
    refine mv rfl rfl rfl rfl ?_
    refine ixa rfl rfl hb.2 e26 rfl rfl rfl rfl (fun hG => by (try simp [allT] at hG); omega) ?_
    refine ldB rfl hb S T5 rfl rfl rfl (fun hG => by first | exact by omega | (simp [allT] at hG; exact by omega)) ?_
    intro q18 hq18 hbq18
    try simp only [Int.toNat_natCast, Nat.mul_one] at hq18
    refine neq rfl rfl rfl rfl rfl rfl ?_
    refine pkA rfl rfl rfl rfl rfl rfl ?_
    refine Ro.nil ?_
    refine Nrm.code ?_
    refine Run.cond rfl (fun hc5 => ?_) (fun hc5 => ?_)
    ·
      try simp only [Bool.or_eq_true, Bool.and_eq_true, Bool.or_eq_false_iff, Bool.and_eq_false_iff, decide_eq_true_eq, decide_eq_false_iff_not, Bool.not_eq_true', Bool.not_eq_false', Bool.not_eq_true, Bool.not_eq_false] at hc5
      refine Run.skip ?_
      refine Nrm.code ?_
      refine Run.block ?_
      refine Run.seq ?_
      refine Run.seq ?_
      refine Run.region ?_
      refine mv1 rfl rfl ?_
      refine mv1 rfl rfl ?_
      refine ixa rfl rfl hb.2 e26 rfl rfl rfl rfl (fun _ => by omega) ?_
      refine ldB rfl hb S T5 rfl rfl rfl (fun _ => by omega) ?_
      intro q24 hq24 hbq24
      try simp only [Int.toNat_natCast, Nat.mul_one] at hq24
      refine eql1 rfl rfl rfl ?_
      refine Ro.nil ?_
      refine Nrm.code ?_
      refine Run.cond rfl (fun hc6 => ?_) (fun hc6 => ?_)
      ·
        try simp only [Bool.or_eq_true, Bool.and_eq_true, Bool.or_eq_false_iff, Bool.and_eq_false_iff, decide_eq_true_eq, decide_eq_false_iff_not, Bool.not_eq_true', Bool.not_eq_false', Bool.not_eq_true, Bool.not_eq_false] at hc6
        refine Run.seq ?_
        refine Run.region ?_
        refine mv1 rfl rfl ?_
        refine add1 rfl rfl rfl (w64 (by omega)) ?_
        refine asg1 rfl rfl ?_
        refine Ro.nil ?_
        refine Nrm.code ?_
        refine Run.exit ?_
        refine Lv.code ?_
        refine Lv.hit ?_
        refine Nrm.loop4 (i + 1) (_) (_) (_) ⟨by omega, hvl, by omega, hacc.skip (optsG_one (by omega) (by omega)), hvs, S⟩ (by omega) ⟨rfl, rfl, rfl, trivial⟩
      ·
        try simp only [Bool.or_eq_true, Bool.and_eq_true, Bool.or_eq_false_iff, Bool.and_eq_false_iff, decide_eq_true_eq, decide_eq_false_iff_not, Bool.not_eq_true', Bool.not_eq_false', Bool.not_eq_true, Bool.not_eq_false] at hc6
        refine Run.skip ?_
        refine Nrm.code ?_
        refine Run.seq ?_
        refine Run.seq ?_
        refine Run.region ?_
        refine mv1 rfl rfl ?_
        refine add1 rfl rfl rfl (w64 (by omega)) ?_
        refine mv1 rfl rfl ?_
        refine lenS rfl hb.2 Tryd.underlying26 rfl rfl rfl ?_
        refine geq1 rfl rfl rfl ?_
        refine mv1 rfl rfl ?_
        refine mv rfl rfl rfl rfl ?_
        refine mv rfl rfl rfl rfl ?_
        refine add rfl rfl rfl rfl rfl rfl (fun hG => by first | exact w64 (by omega) | (simp [allT] at hG; exact w64 (by omega))) ?_
        refine ixa rfl rfl hb.2 e26 rfl rfl rfl rfl (fun hG => by (try simp [allT] at hG); omega) ?_
        refine ldB rfl hb S T5 rfl rfl rfl (fun hG => by first | exact by omega | (simp [allT] at hG; exact by omega)) ?_
        intro q38 hq38 hbq38
        try simp only [Int.toNat_natCast, Nat.mul_one] at hq38
        replace hq38 : q38 = b.getD (i + 1) 0 := hq38
        refine lss rfl rfl rfl rfl rfl rfl ?_
        refine pkO rfl rfl rfl rfl rfl rfl ?_
        refine mv1 rfl rfl ?_
        refine mv rfl rfl rfl rfl ?_
        refine mv rfl rfl rfl rfl ?_
        refine mv rfl rfl rfl rfl ?_
        refine add rfl rfl rfl rfl rfl rfl (fun hG => by first | exact w64 (by omega) | (simp [allT] at hG; exact w64 (by omega))) ?_
        refine ixa rfl rfl hb.2 e26 rfl rfl rfl rfl (fun hG => by (try simp [allT] at hG); omega) ?_
        refine ldB rfl hb S T5 rfl rfl rfl (fun hG => by first | exact by omega | (simp [allT] at hG; exact by omega)) ?_
        intro q47 hq47 hbq47
        try simp only [Int.toNat_natCast, Nat.mul_one] at hq47
        replace hq47 : q47 = b.getD (i + 1) 0 := hq47
        refine cvi rfl rfl rfl rfl Tryd.underlying5 Tryd.underlying3 (fun hG => by first | exact w64 (by omega) | (simp [allT] at hG; exact w64 (by omega))) ?_
        refine add rfl rfl rfl rfl rfl rfl (fun hG => by first | exact w64 (by omega) | (simp [allT] at hG; exact w64 (by omega))) ?_
        refine mv rfl rfl rfl rfl ?_
        refine lenS rfl hb.2 Tryd.underlying26 rfl rfl rfl ?_
        refine gtr rfl rfl rfl rfl rfl rfl ?_
        refine pkO rfl rfl rfl rfl rfl rfl ?_
        refine Ro.nil ?_
        refine Nrm.code ?_
        refine Run.cond rfl (fun hc8 => ?_) (fun hc8 => ?_)
        ·
          try simp only [Bool.or_eq_true, Bool.and_eq_true, Bool.or_eq_false_iff, Bool.and_eq_false_iff, decide_eq_true_eq, decide_eq_false_iff_not, Bool.not_eq_true', Bool.not_eq_false', Bool.not_eq_true, Bool.not_eq_false] at hc8
          refine Run.seq ?_
          refine Run.region ?_
          refine asg1 rfl rfl ?_
          refine asg1 rfl rfl ?_
          refine Ro.nil ?_
          refine Nrm.code ?_
          refine Run.ret ?_
          refine Rt.two rfl rfl rfl ?_
          have hno : optsG (b.drop i) = none := by
            rcases Nat.lt_or_ge (i + 1) b.length with hlt | hge
            · exact optsG_bad hlt (by omega) (by omega) (by omega)
            · exact optsG_end (by omega) (by omega) (by omega)
          have hbad := hacc.bad (by omega) hno
          have S := S.nilO
          exact ⟨.slice none 0 0, by rw [hbad.1], by rw [hbad.2]; exact S.toFOS (i := 0) rfl (fun _ _ => trivial)⟩
        ·
          try simp only [Bool.or_eq_true, Bool.and_eq_true, Bool.or_eq_false_iff, Bool.and_eq_false_iff, decide_eq_true_eq, decide_eq_false_iff_not, Bool.not_eq_true', Bool.not_eq_false', Bool.not_eq_true, Bool.not_eq_false] at hc8
          refine Run.skip ?_
          refine Nrm.code ?_
          refine Run.seq ?_
          refine Run.region ?_
          refine mv1 rfl rfl ?_
          refine mv1 rfl rfl ?_
          refine add1 rfl rfl rfl (w64 (by omega)) ?_
          refine ixa rfl rfl hb.2 e26 rfl rfl rfl rfl (fun _ => by omega) ?_
          refine ldB rfl hb S T5 rfl rfl rfl (fun _ => by omega) ?_
          intro q58 hq58 hbq58
          try simp only [Int.toNat_natCast, Nat.mul_one] at hq58
          obtain ⟨m, hm⟩ : ∃ m : Nat, q58 = m := ⟨q58.toNat, by omega⟩
          subst hm
          replace hq58 : (m : Int) = b.getD (i + 1) 0 := hq58
          refine cvi1 rfl rfl Tryd.underlying5 Tryd.underlying3 (w64 (by omega)) ?_
          refine asg1 rfl rfl ?_
          refine Ro.nil ?_
          refine Nrm.code ?_
          refine Run.seq ?_
          refine Run.held (by kernel_rfl) S [false] rfl rfl rfl ?_
          intro w2 BD S SC
          refine Ho.take (i := 0) SC Pp.body rfl (by kernel_rfl) (by kernel_rfl) (by kernel_rfl) rfl rfl ?_
          refine qmv rfl rfl rfl rfl ?_
          refine Ho.back ?_
          refine Ho.take (i := 1) SC Pp.body rfl (by kernel_rfl) (by kernel_rfl) (by kernel_rfl) rfl rfl ?_
          refine qmv rfl rfl rfl rfl ?_
          refine Ho.back ?_
          refine Ho.take (i := 2) SC Pp.body rfl (by kernel_rfl) (by kernel_rfl) (by kernel_rfl) rfl rfl ?_
          refine qmv rfl rfl rfl rfl ?_
          refine Ho.back ?_
          refine Ho.take (i := 3) SC Pp.body rfl (by kernel_rfl) (by kernel_rfl) (by kernel_rfl) rfl rfl ?_
          refine qixa rfl rfl hb.2 e26 rfl rfl rfl rfl (fun hG => by (try simp [allT] at hG); omega) ?_
          refine Ho.back ?_
          refine Ho.take (i := 4) SC Pp.body rfl (by kernel_rfl) (by kernel_rfl) (by kernel_rfl) rfl rfl ?_
          refine qldB rfl hb (fun _ S => S) T5 rfl rfl rfl (fun _ => by omega) ?_
          intro q64 hq64 hbq64
          try simp only [Int.toNat_natCast, Nat.mul_one] at hq64
          refine Ho.back ?_
          refine Ho.take (i := 5) SC Pp.body rfl (by kernel_rfl) (by kernel_rfl) (by kernel_rfl) rfl rfl ?_
          refine qcvi rfl rfl rfl rfl Tryd.underlying5 Tryd.underlying3 (fun _ => w64 (by omega)) ?_
          refine Ho.back ?_
          refine Ho.take (i := 6) SC Pp.body rfl (by kernel_rfl) (by kernel_rfl) (by kernel_rfl) rfl rfl ?_
          refine qmv rfl rfl rfl rfl ?_
          refine Ho.back ?_
          refine Ho.take (i := 7) SC Pp.body rfl (by kernel_rfl) (by kernel_rfl) (by kernel_rfl) rfl rfl ?_
          refine qmv rfl rfl rfl rfl ?_
          refine Ho.back ?_
          refine Ho.take (i := 8) SC Pp.body rfl (by kernel_rfl) (by kernel_rfl) (by kernel_rfl) rfl rfl ?_
          refine qadd rfl rfl rfl rfl rfl rfl (fun _ => w64 (by omega)) ?_
          refine Ho.back ?_
          refine Ho.take (i := 9) SC Pp.body rfl (by kernel_rfl) (by kernel_rfl) (by kernel_rfl) rfl rfl ?_
          refine qmv rfl rfl rfl rfl ?_
          refine Ho.back ?_
          refine Ho.take (i := 10) SC Pp.body rfl (by kernel_rfl) (by kernel_rfl) (by kernel_rfl) rfl rfl ?_
          refine qmv rfl rfl rfl rfl ?_
          refine Ho.back ?_
          refine Ho.take (i := 11) SC Pp.body rfl (by kernel_rfl) (by kernel_rfl) (by kernel_rfl) rfl rfl ?_
          refine qadd rfl rfl rfl rfl rfl rfl (fun _ => w64 (by omega)) ?_
          refine Ho.back ?_
          refine Ho.take (i := 12) SC Pp.body rfl (by kernel_rfl) (by kernel_rfl) (by kernel_rfl) rfl rfl ?_
          have hv72 := hb.cut (lo := i + 2) (hi := i + m) (mx := capV v) (by have hcap := hb.cap; omega)
          refine qslC (lo := i + 2) (hi := i + m) (mx := capV v) rfl hb e26 rfl rfl rfl (i1 := some (i + 2)) (i2 := some (i + m)) (i3 := none) ⟨_, _, _, rfl, rfl⟩ ⟨_, _, _, rfl, rfl⟩ trivial rfl rfl rfl (fun h => by first | rfl | cases h) (fun hG => by (try simp [allT] at hG); have hcap := hb.cap; omega) ?_
          refine Ho.back ?_
          refine Ho.one (i := 13) (by kernel_rfl) rfl rfl ?_
          have S0 := S
          refine call (vs := [_]) ⟨⟨_, _, rfl, rfl⟩, trivial⟩ k39 rfl (c39 _ _ _ (hv72.now S) (by rw [List.length_take]; omega)) ?_
          rintro q w3 hF
          have S := S.call hF.1
          have hqb : ∀ N, (∀ j ∈ N, j < w.heap.size) → BS (idsL [oO u acc vs] ++ N) w3 q _ := fun N hN => hF.bs hv72.1 (below_app S0 hN)
          have hvs := fun N hN => ((hvs N hN).bl BD).bl hF.1
          have Sb := S
          have S := S.rebase
          have hq1 := hqb [] (by simp)
          have SC := (Sb.trans S).pick [false] rfl
          refine Ho.on SC ?_
          refine Ho.take (i := 14) SC Pp.body rfl (by kernel_rfl) (by kernel_rfl) (by kernel_rfl) rfl rfl ?_
          refine qbld B93 (qs := [(_, _), (_, _)]) ⟨⟨_, _, _, rfl, rfl, rfl, rfl, by simp [Value.cells]⟩, ⟨_, _, _, rfl, rfl, cells1 hq1.one, rfl, List.cons_ne_nil _ _⟩, trivial⟩ rfl rfl rfl ?_
          refine Ho.back ?_
          refine Ho.one (i := 15) (by kernel_rfl) rfl rfl ?_
          refine bsl e25 (qs := [(_, _)]) ⟨⟨_, _, _, rfl, rfl, rfl, rfl, by simp [Value.cells]⟩, trivial⟩ rfl rfl rfl rfl S ?_
          intro u75 w4 S B_
          have SC := (Sb.trans S).pick [false, false] rfl
          refine Ho.on SC ?_
          refine Ho.one (i := 16) (by kernel_rfl) rfl rfl ?_
          refine apO (i := 1) ((b.drop (i + 2)).take (i + m - (i + 2))) rfl rfl e25 (S.slI (i := 0) rfl) hq1.one hvl S rfl rfl (fun v' => rfl) (by omega) ?_
          intro u2 w5 S B_
          have SC := (Sb.trans S).pick [false, false] rfl
          refine Ho.on SC ?_
          refine Ho.take (i := 17) SC Pp.body rfl (by kernel_rfl) (by kernel_rfl) (by kernel_rfl) rfl rfl ?_
          refine qasg rfl rfl rfl rfl ?_
          refine Ho.back ?_
          refine Ho.done (by kernel_rfl) ?_
          refine Nrm.code ?_
          refine Run.region ?_
          refine mv1 rfl rfl ?_
          refine mv1 rfl rfl ?_
          refine add1 rfl rfl rfl (w64 (by omega)) ?_
          refine asg1 rfl rfl ?_
          refine Ro.nil ?_
          refine Nrm.blk ?_
          refine Nrm.loop4 (i + m) (_) (_) (_) ⟨by omega, by simp [hvl], acc_len hal _ (by omega), hacc.step (by rw [hq64]; exact optsG_go (by omega) (by omega) hq58.symm (by omega) (by omega)),
                  fun N hN => ((OSs.stN (fun _ h => List.mem_append_left _ h) S.drop0 (hvs N hN)).snoc ((hqb N hN).stN (fun _ h => List.mem_append_left _ h) S.drop0)).weak mid_drop, Sb.trans S.drop0⟩ (by omega) ⟨rfl, rfl, rfl, trivial⟩
    ·
      try simp only [Bool.or_eq_true, Bool.and_eq_true, Bool.or_eq_false_iff, Bool.and_eq_false_iff, decide_eq_true_eq, decide_eq_false_iff_not, Bool.not_eq_true', Bool.not_eq_false', Bool.not_eq_true, Bool.not_eq_false] at hc5
      refine Run.exit ?_
      refine Lv.code ?_
      refine Lv.back ?_
      refine Lv.hit ?_
      refine Nrm.code ?_
      refine Run.seq ?_
      refine Run.region ?_
      refine mv1 rfl rfl ?_
      refine asg1 rfl rfl ?_
      refine asg1 rfl rfl ?_
      refine Ro.nil ?_
      refine Nrm.code ?_
      refine Run.ret ?_
      refine Rt.two rfl rfl rfl ?_
      have hno : optsG (b.drop i) = some [] := by
        rcases Nat.lt_or_ge i b.length with hlt | hge
        · exact optsG_zero hlt (by omega)
        · exact optsG_nil hge
      have hg := hacc.good (by omega) hno
      exact ⟨u, by rw [hg.1], by rw [hg.2]; exact S.toFOS (i := 0) rfl (fun N hN => (hvs N hN).weak (fun j hj => List.mem_append_right _ hj))⟩
end Go.Proofs.YtkahmepenjhcpaaDoor.W
/- Contracts: what may be a datagram. No statement of the seat is proved here. -/
namespace Go.Proofs.YtkahmepenjhcpaaDoor.W
open Go
set_option linter.unusedSimpArgs false
set_option linter.unusedVariables false
def outN (n hi : Int) : Bool := decide (n < 0) || decide (hi < n)
def badF (h : Ip4) : Bool := (((((((outN h.tos 255 || outN h.id 65535) || outN h.off 65528) || decide (h.off % 8 ≠ 0)) || outN h.ttl 255) || outN h.proto 255) || !fourB h.src) || !fourB h.dst)
def chkE (h : Ip4) : Int := if badF h = true then 68 else if putE h.opts ≠ 0 then putE h.opts else if 65535 < 20 + ((putL h.opts).length : Int) + h.data.length then 63 else fragE h.mf h.off h.data.length
theorem fragE_or (mf : Bool) (off n : Int) : fragE mf off n = 0 ∨ fragE mf off n = 66 := by unfold fragE; split <;> simp
theorem badF_off {h : Ip4} (hb : badF h = false) : 0 ≤ h.tos ∧ h.tos ≤ 255 ∧ 0 ≤ h.id ∧ h.id ≤ 65535 ∧ 0 ≤ h.off ∧ h.off ≤ 65528 ∧ h.off % 8 = 0 ∧ 0 ≤ h.ttl ∧ h.ttl ≤ 255 ∧ 0 ≤ h.proto ∧ h.proto ≤ 255 ∧ fourB h.src = true ∧ fourB h.dst = true := by
  simp only [badF, outN, Bool.or_eq_false_iff, decide_eq_false_iff_not, Bool.not_eq_false', decide_eq_true_eq] at hb
  obtain ⟨⟨⟨⟨⟨⟨⟨h1, h2⟩, h3⟩, h4⟩, h5⟩, h6⟩, h7⟩, h8⟩ := hb
  have h9 : h.off % 8 = 0 := by omega
  refine ⟨by omega, by omega, by omega, by omega, by omega, by omega, h9, by omega, by omega, by omega, by omega, h7, h8⟩
set_option maxHeartbeats 1000000 in
theorem c114 (mf : Bool) (off n : Int) (w : World) (h : 0 ≤ off ∧ off ≤ 1000000 ∧ 0 ≤ n ∧ n ≤ 1000000) :
  CallsD Tryd.prog 114 #[.bool mf, .int .i64 off, .int .i64 n] w (.bool (decide (fragE mf off n ≠ 0))) := by
 refine enter Tryd.func114 rfl Tryd.ntmps114 (l := [(0, [], _), (1, [], _), (2, [], _)]) rfl rfl ?_
 have S := St.refl [] w
 refine Run.seq ?_
 refine Run.region ?_
 refine asg1 rfl rfl ?_
 refine Ro.nil ?_
 refine Nrm.code ?_
 refine Run.seq ?_
 refine Run.region ?_
 refine mv1 rfl rfl ?_
 refine mv1 rfl rfl ?_
 refine mv rfl rfl rfl rfl ?_
 refine eql rfl rfl rfl rfl rfl rfl ?_
 refine mv rfl rfl rfl rfl ?_
 refine mv rfl rfl rfl rfl ?_
 refine rem rfl rfl rfl rfl rfl rfl (fun hG => by first | exact by decide | (simp [allT] at hG; exact by decide)) (fun hG => by first | exact r64 (by omega) | (simp [allT] at hG; exact r64 (by omega))) ?_
 refine neq rfl rfl rfl rfl rfl rfl ?_
 refine pkO rfl rfl rfl rfl rfl rfl ?_
 refine pkA rfl rfl rfl rfl rfl rfl ?_
 refine mv1 rfl rfl ?_
 refine mv rfl rfl rfl rfl ?_
 refine mv rfl rfl rfl rfl ?_
 refine add rfl rfl rfl rfl rfl rfl (fun hG => by first | exact w64 (by omega) | (simp [allT] at hG; exact w64 (by omega))) ?_
 refine gtr rfl rfl rfl rfl rfl rfl ?_
 refine pkO rfl rfl rfl rfl rfl rfl ?_
 refine asg1 rfl rfl ?_
 refine Ro.nil ?_
 refine Nrm.code ?_
 refine Run.ret ?_
 refine Rt.one rfl rfl ?_
 exact ⟨by cases mf <;> by_cases h1 : n = 0 <;> by_cases h2 : n % 8 = 0 <;> by_cases h3 : 65515 < off + n <;> simp [fragE, h1, h2, h3], S.bl⟩
set_option maxHeartbeats 1000000 in
theorem c32 (h : Ip4) (o d : Value) (w : World) (hO : OS [] w o h.opts) (hd : BS [] w d h.data) (hol : h.opts.length ≤ 1099511627776) (hdl : h.data.length ≤ 1099511627776) :
  CallsD Tryd.prog 32 #[.agg (encIp4 h o d).toArray] w (.int .i64 (chkE h)) := by
 refine enter Tryd.func32 rfl Tryd.ntmps32 (l := [(0, [], _)]) rfl rfl ?_
 have S := St.refl [] w
 have hpl := putL_len h.opts
 refine Run.seq ?_
 refine Run.region ?_
 refine boxA rfl S rfl ?_
 intro b1 w1 hb1 S B_
 refine asg1 rfl rfl ?_
 refine Ro.nil ?_
 refine Nrm.code ?_
 refine Run.seq ?_
 refine Run.seq ?_
 refine Run.region ?_
 refine fld (o' := 0) rfl fo28_0 rfl rfl rfl rfl ?_
 refine ld1 rfl T3 S (i := 0) rfl rfl rfl rfl rfl ?_
 refine calg (vs := [_, _]) rfl ⟨⟨_, _, rfl, rfl⟩, ⟨_, _, rfl, rfl⟩, trivial⟩ k98 rfl (fun hG => c98 _ _ _) ?_
 intro w2 B_; have S := S.call B_
 refine mv1 rfl rfl ?_
 refine fld (o' := 1) rfl fo28_1 rfl rfl rfl rfl ?_
 refine ld1 rfl T3 S (i := 0) rfl rfl rfl rfl rfl ?_
 refine calg (vs := [_, _]) rfl ⟨⟨_, _, rfl, rfl⟩, ⟨_, _, rfl, rfl⟩, trivial⟩ k98 rfl (fun hG => c98 _ _ _) ?_
 intro w3 B_; have S := S.call B_
 refine pkO rfl rfl rfl rfl rfl rfl ?_
 refine mv1 rfl rfl ?_
 refine fld (o' := 4) rfl fo28_4 rfl rfl rfl rfl ?_
 refine ld1 rfl T3 S (i := 0) rfl rfl rfl rfl rfl ?_
 refine calg (vs := [_, _]) rfl ⟨⟨_, _, rfl, rfl⟩, ⟨_, _, rfl, rfl⟩, trivial⟩ k98 rfl (fun hG => c98 _ _ _) ?_
 intro w4 B_; have S := S.call B_
 refine pkO rfl rfl rfl rfl rfl rfl ?_
 refine mv1 rfl rfl ?_
 refine fld (o' := 4) rfl fo28_4 rfl rfl rfl rfl ?_
 refine ld1 rfl T3 S (i := 0) rfl rfl rfl rfl rfl ?_
 refine rem rfl rfl rfl rfl rfl rfl (fun hG => by first | exact by decide | (simp [allT] at hG; exact by decide)) (fun hG => by first | exact r64 (by omega) | (simp [allT] at hG; exact r64 (by omega))) ?_
 refine neq rfl rfl rfl rfl rfl rfl ?_
 refine pkO rfl rfl rfl rfl rfl rfl ?_
 refine mv1 rfl rfl ?_
 refine fld (o' := 5) rfl fo28_5 rfl rfl rfl rfl ?_
 refine ld1 rfl T3 S (i := 0) rfl rfl rfl rfl rfl ?_
 refine calg (vs := [_, _]) rfl ⟨⟨_, _, rfl, rfl⟩, ⟨_, _, rfl, rfl⟩, trivial⟩ k98 rfl (fun hG => c98 _ _ _) ?_
 intro w5 B_; have S := S.call B_
 refine pkO rfl rfl rfl rfl rfl rfl ?_
 refine mv1 rfl rfl ?_
 refine fld (o' := 6) rfl fo28_6 rfl rfl rfl rfl ?_
 refine ld1 rfl T3 S (i := 0) rfl rfl rfl rfl rfl ?_
 refine calg (vs := [_, _]) rfl ⟨⟨_, _, rfl, rfl⟩, ⟨_, _, rfl, rfl⟩, trivial⟩ k98 rfl (fun hG => c98 _ _ _) ?_
 intro w6 B_; have S := S.call B_
 refine pkO rfl rfl rfl rfl rfl rfl ?_
 refine mv1 rfl rfl ?_
 refine fld (o' := 7) rfl fo28_7 rfl rfl rfl rfl ?_
 refine ldA rfl T24 S (i := 0) rfl rfl rfl (by decide) rfl rfl rfl ?_
 refine calg (vs := [_]) rfl ⟨⟨_, _, rfl, rfl⟩, trivial⟩ k99 rfl (fun hG => c99 _ _) ?_
 intro w7 B_; have S := S.call B_
 refine nt rfl rfl rfl rfl ?_
 refine pkO rfl rfl rfl rfl rfl rfl ?_
 refine mv1 rfl rfl ?_
 refine fld (o' := 24) rfl fo28_8 rfl rfl rfl rfl ?_
 refine ldA rfl T24 S (i := 0) rfl rfl rfl (by decide) rfl rfl rfl ?_
 refine calg (vs := [_]) rfl ⟨⟨_, _, rfl, rfl⟩, trivial⟩ k99 rfl (fun hG => c99 _ _) ?_
 intro w8 B_; have S := S.call B_
 refine nt rfl rfl rfl rfl ?_
 refine pkO rfl rfl rfl rfl rfl rfl ?_
 refine Ro.nil ?_
 refine Nrm.code ?_
 refine Run.cond rfl (fun hc1 => ?_) (fun hc1 => ?_)
 ·
  refine Run.seq ?_
  refine Run.region ?_
  refine asg1 rfl rfl ?_
  refine Ro.nil ?_
  refine Nrm.code ?_
  refine Run.ret ?_
  refine Rt.one rfl rfl ?_
  exact ⟨by rw [chkE, if_pos (show badF h = true from hc1)], S.bl⟩
 ·
  refine Run.skip ?_
  refine Nrm.code ?_
  refine Run.seq ?_
  refine Run.region ?_
  refine fld (o' := 41) rfl fo28_9 rfl rfl rfl rfl ?_
  refine ld1 rfl T25 S (i := 0) rfl rfl rfl rfl rfl ?_
  refine call (vs := [_]) ⟨⟨_, _, rfl, rfl⟩, trivial⟩ k94 rfl (c94 _ _ _ (hO.now S) (by omega)) ?_
  rintro _ w9 ⟨u, rfl, hF⟩
  have S := S.fb hF
  refine mv1 rfl rfl ?_
  refine extr1 rfl rfl rfl ?_
  refine extr1 rfl rfl rfl ?_
  refine asg1 rfl rfl ?_
  refine asg1 rfl rfl ?_
  refine Ro.nil ?_
  refine Nrm.code ?_
  refine Run.seq ?_
  refine Run.seq ?_
  refine Run.region ?_
  refine mv1 rfl rfl ?_
  refine neq1 rfl rfl rfl ?_
  refine Ro.nil ?_
  refine Nrm.code ?_
  refine Run.cond rfl (fun hc4 => ?_) (fun hc4 => ?_)
  ·
   try simp only [Bool.or_eq_true, Bool.and_eq_true, Bool.or_eq_false_iff, Bool.and_eq_false_iff, decide_eq_true_eq, decide_eq_false_iff_not, Bool.not_eq_true', Bool.not_eq_false', Bool.not_eq_true, Bool.not_eq_false] at hc4
   refine Run.seq ?_
   refine Run.region ?_
   refine mv1 rfl rfl ?_
   refine asg1 rfl rfl ?_
   refine Ro.nil ?_
   refine Nrm.code ?_
   refine Run.ret ?_
   refine Rt.one rfl rfl ?_
   exact ⟨by rw [chkE, if_neg (show ¬ badF h = true from by rw [show badF h = false from hc1]; simp), if_pos hc4]; rfl, S.bl⟩
  ·
   try simp only [Bool.or_eq_true, Bool.and_eq_true, Bool.or_eq_false_iff, Bool.and_eq_false_iff, decide_eq_true_eq, decide_eq_false_iff_not, Bool.not_eq_true', Bool.not_eq_false', Bool.not_eq_true, Bool.not_eq_false] at hc4
   refine Run.skip ?_
   refine Nrm.code ?_
   refine Run.seq ?_
   refine Run.seq ?_
   refine Run.region ?_
   refine mv1 rfl rfl ?_
   refine lenS rfl (S.slI (i := 0) rfl) Tryd.underlying26 rfl rfl rfl ?_
   refine add1 rfl rfl rfl (w64 (by omega)) ?_
   refine fld (o' := 42) rfl fo28_10 rfl rfl rfl rfl ?_
   refine ld1 rfl T26 S (i := 1) rfl rfl rfl rfl rfl ?_
   refine lenS rfl hd.2 Tryd.underlying26 rfl rfl rfl ?_
   refine add1 rfl rfl rfl (w64 (by omega)) ?_
   refine gtr1 rfl rfl rfl ?_
   refine Ro.nil ?_
   refine Nrm.code ?_
   refine Run.cond rfl (fun hc6 => ?_) (fun hc6 => ?_)
   ·
    try simp only [Bool.or_eq_true, Bool.and_eq_true, Bool.or_eq_false_iff, Bool.and_eq_false_iff, decide_eq_true_eq, decide_eq_false_iff_not, Bool.not_eq_true', Bool.not_eq_false', Bool.not_eq_true, Bool.not_eq_false] at hc6
    refine Run.seq ?_
    refine Run.region ?_
    refine asg1 rfl rfl ?_
    refine Ro.nil ?_
    refine Nrm.code ?_
    refine Run.ret ?_
    refine Rt.one rfl rfl ?_
    exact ⟨by rw [chkE, if_neg (show ¬ badF h = true from by rw [show badF h = false from hc1]; simp), if_neg (by omega), if_pos (by omega)], S.bl⟩
   ·
    try simp only [Bool.or_eq_true, Bool.and_eq_true, Bool.or_eq_false_iff, Bool.and_eq_false_iff, decide_eq_true_eq, decide_eq_false_iff_not, Bool.not_eq_true', Bool.not_eq_false', Bool.not_eq_true, Bool.not_eq_false] at hc6
    refine Run.skip ?_
    refine Nrm.code ?_
    refine Run.seq ?_
    refine Run.region ?_
    have hbo := badF_off (h := h) hc1
    refine fld (o' := 3) rfl fo28_3 rfl rfl rfl rfl ?_
    refine ld1 rfl T4 S (i := 1) rfl rfl rfl rfl rfl ?_
    refine fld (o' := 4) rfl fo28_4 rfl rfl rfl rfl ?_
    refine ld1 rfl T3 S (i := 1) rfl rfl rfl rfl rfl ?_
    refine fld (o' := 42) rfl fo28_10 rfl rfl rfl rfl ?_
    refine ld1 rfl T26 S (i := 1) rfl rfl rfl rfl rfl ?_
    refine lenS rfl hd.2 Tryd.underlying26 rfl rfl rfl ?_
    refine calg (vs := [_, _, _]) rfl ⟨⟨_, _, rfl, rfl⟩, ⟨_, _, rfl, rfl⟩, ⟨_, _, rfl, rfl⟩, trivial⟩ k100 rfl (fun hG => c100 _ _ _ _ (by omega)) ?_
    intro w10 B_; have S := S.call B_
    refine asg1 rfl rfl ?_
    refine Ro.nil ?_
    refine Nrm.code ?_
    refine Run.ret ?_
    refine Rt.one rfl rfl ?_
    exact ⟨by rw [chkE, if_neg (show ¬ badF h = true from by rw [show badF h = false from hc1]; simp), if_neg (by omega), if_neg (by omega)], S.bl⟩
set_option maxHeartbeats 1000000 in
theorem c147 (h : Ip4) (o d : Value) (w : World) (hO : OS [] w o h.opts) (hd : BS [] w d h.data) (hol : h.opts.length ≤ 1099511627776) (hdl : h.data.length ≤ 1099511627776) :
  CallsD Tryd.prog 147 #[.agg (encIp4 h o d).toArray] w (.int .i64 (chkE h)) := by
 refine enter Tryd.func147 rfl Tryd.ntmps147 (l := [(0, [], _)]) rfl rfl ?_
 have S := St.refl [] w
 have hpl := putL_len h.opts
 refine Run.seq ?_
 refine Run.region ?_
 refine boxA rfl S rfl ?_
 intro b1 w1 hb1 S B_
 refine asg1 rfl rfl ?_
 refine Ro.nil ?_
 refine Nrm.code ?_
 refine Run.seq ?_
 refine Run.seq ?_
 refine Run.region ?_
 refine fld (o' := 0) rfl fo28_0 rfl rfl rfl rfl ?_
 refine ld1 rfl T3 S (i := 0) rfl rfl rfl rfl rfl ?_
 refine calg (vs := [_, _]) rfl ⟨⟨_, _, rfl, rfl⟩, ⟨_, _, rfl, rfl⟩, trivial⟩ k155 rfl (fun hG => c155 _ _ _) ?_
 intro w2 B_; have S := S.call B_
 refine mv1 rfl rfl ?_
 refine fld (o' := 1) rfl fo28_1 rfl rfl rfl rfl ?_
 refine ld1 rfl T3 S (i := 0) rfl rfl rfl rfl rfl ?_
 refine calg (vs := [_, _]) rfl ⟨⟨_, _, rfl, rfl⟩, ⟨_, _, rfl, rfl⟩, trivial⟩ k155 rfl (fun hG => c155 _ _ _) ?_
 intro w3 B_; have S := S.call B_
 refine pkO rfl rfl rfl rfl rfl rfl ?_
 refine mv1 rfl rfl ?_
 refine fld (o' := 4) rfl fo28_4 rfl rfl rfl rfl ?_
 refine ld1 rfl T3 S (i := 0) rfl rfl rfl rfl rfl ?_
 refine calg (vs := [_, _]) rfl ⟨⟨_, _, rfl, rfl⟩, ⟨_, _, rfl, rfl⟩, trivial⟩ k155 rfl (fun hG => c155 _ _ _) ?_
 intro w4 B_; have S := S.call B_
 refine pkO rfl rfl rfl rfl rfl rfl ?_
 refine mv1 rfl rfl ?_
 refine fld (o' := 4) rfl fo28_4 rfl rfl rfl rfl ?_
 refine ld1 rfl T3 S (i := 0) rfl rfl rfl rfl rfl ?_
 refine rem rfl rfl rfl rfl rfl rfl (fun hG => by first | exact by decide | (simp [allT] at hG; exact by decide)) (fun hG => by first | exact r64 (by omega) | (simp [allT] at hG; exact r64 (by omega))) ?_
 refine neq rfl rfl rfl rfl rfl rfl ?_
 refine pkO rfl rfl rfl rfl rfl rfl ?_
 refine mv1 rfl rfl ?_
 refine fld (o' := 5) rfl fo28_5 rfl rfl rfl rfl ?_
 refine ld1 rfl T3 S (i := 0) rfl rfl rfl rfl rfl ?_
 refine calg (vs := [_, _]) rfl ⟨⟨_, _, rfl, rfl⟩, ⟨_, _, rfl, rfl⟩, trivial⟩ k155 rfl (fun hG => c155 _ _ _) ?_
 intro w5 B_; have S := S.call B_
 refine pkO rfl rfl rfl rfl rfl rfl ?_
 refine mv1 rfl rfl ?_
 refine fld (o' := 6) rfl fo28_6 rfl rfl rfl rfl ?_
 refine ld1 rfl T3 S (i := 0) rfl rfl rfl rfl rfl ?_
 refine calg (vs := [_, _]) rfl ⟨⟨_, _, rfl, rfl⟩, ⟨_, _, rfl, rfl⟩, trivial⟩ k155 rfl (fun hG => c155 _ _ _) ?_
 intro w6 B_; have S := S.call B_
 refine pkO rfl rfl rfl rfl rfl rfl ?_
 refine mv1 rfl rfl ?_
 refine fld (o' := 7) rfl fo28_7 rfl rfl rfl rfl ?_
 refine ldA rfl T24 S (i := 0) rfl rfl rfl (by decide) rfl rfl rfl ?_
 refine calg (vs := [_]) rfl ⟨⟨_, _, rfl, rfl⟩, trivial⟩ k156 rfl (fun hG => c156 _ _) ?_
 intro w7 B_; have S := S.call B_
 refine nt rfl rfl rfl rfl ?_
 refine pkO rfl rfl rfl rfl rfl rfl ?_
 refine mv1 rfl rfl ?_
 refine fld (o' := 24) rfl fo28_8 rfl rfl rfl rfl ?_
 refine ldA rfl T24 S (i := 0) rfl rfl rfl (by decide) rfl rfl rfl ?_
 refine calg (vs := [_]) rfl ⟨⟨_, _, rfl, rfl⟩, trivial⟩ k156 rfl (fun hG => c156 _ _) ?_
 intro w8 B_; have S := S.call B_
 refine nt rfl rfl rfl rfl ?_
 refine pkO rfl rfl rfl rfl rfl rfl ?_
 refine Ro.nil ?_
 refine Nrm.code ?_
 refine Run.cond rfl (fun hc1 => ?_) (fun hc1 => ?_)
 ·
  refine Run.seq ?_
  refine Run.region ?_
  refine asg1 rfl rfl ?_
  refine Ro.nil ?_
  refine Nrm.code ?_
  refine Run.ret ?_
  refine Rt.one rfl rfl ?_
  exact ⟨by rw [chkE, if_pos (show badF h = true from hc1)], S.bl⟩
 ·
  refine Run.skip ?_
  refine Nrm.code ?_
  refine Run.seq ?_
  refine Run.region ?_
  refine fld (o' := 41) rfl fo28_9 rfl rfl rfl rfl ?_
  refine ld1 rfl T25 S (i := 0) rfl rfl rfl rfl rfl ?_
  refine call (vs := [_]) ⟨⟨_, _, rfl, rfl⟩, trivial⟩ k136 rfl (c136 _ _ _ (hO.now S) (by omega)) ?_
  rintro _ w9 ⟨u, rfl, hF⟩
  have S := S.fb hF
  refine mv1 rfl rfl ?_
  refine extr1 rfl rfl rfl ?_
  refine extr1 rfl rfl rfl ?_
  refine asg1 rfl rfl ?_
  refine asg1 rfl rfl ?_
  refine Ro.nil ?_
  refine Nrm.code ?_
  refine Run.seq ?_
  refine Run.seq ?_
  refine Run.region ?_
  refine mv1 rfl rfl ?_
  refine neq1 rfl rfl rfl ?_
  refine Ro.nil ?_
  refine Nrm.code ?_
  refine Run.cond rfl (fun hc4 => ?_) (fun hc4 => ?_)
  ·
   try simp only [Bool.or_eq_true, Bool.and_eq_true, Bool.or_eq_false_iff, Bool.and_eq_false_iff, decide_eq_true_eq, decide_eq_false_iff_not, Bool.not_eq_true', Bool.not_eq_false', Bool.not_eq_true, Bool.not_eq_false] at hc4
   refine Run.seq ?_
   refine Run.region ?_
   refine mv1 rfl rfl ?_
   refine asg1 rfl rfl ?_
   refine Ro.nil ?_
   refine Nrm.code ?_
   refine Run.ret ?_
   refine Rt.one rfl rfl ?_
   exact ⟨by rw [chkE, if_neg (show ¬ badF h = true from by rw [show badF h = false from hc1]; simp), if_pos hc4]; rfl, S.bl⟩
  ·
   try simp only [Bool.or_eq_true, Bool.and_eq_true, Bool.or_eq_false_iff, Bool.and_eq_false_iff, decide_eq_true_eq, decide_eq_false_iff_not, Bool.not_eq_true', Bool.not_eq_false', Bool.not_eq_true, Bool.not_eq_false] at hc4
   refine Run.skip ?_
   refine Nrm.code ?_
   refine Run.seq ?_
   refine Run.seq ?_
   refine Run.region ?_
   refine mv1 rfl rfl ?_
   refine lenS rfl (S.slI (i := 0) rfl) Tryd.underlying26 rfl rfl rfl ?_
   refine add1 rfl rfl rfl (w64 (by omega)) ?_
   refine fld (o' := 42) rfl fo28_10 rfl rfl rfl rfl ?_
   refine ld1 rfl T26 S (i := 1) rfl rfl rfl rfl rfl ?_
   refine lenS rfl hd.2 Tryd.underlying26 rfl rfl rfl ?_
   refine add1 rfl rfl rfl (w64 (by omega)) ?_
   refine gtr1 rfl rfl rfl ?_
   refine Ro.nil ?_
   refine Nrm.code ?_
   refine Run.cond rfl (fun hc6 => ?_) (fun hc6 => ?_)
   ·
    try simp only [Bool.or_eq_true, Bool.and_eq_true, Bool.or_eq_false_iff, Bool.and_eq_false_iff, decide_eq_true_eq, decide_eq_false_iff_not, Bool.not_eq_true', Bool.not_eq_false', Bool.not_eq_true, Bool.not_eq_false] at hc6
    refine Run.seq ?_
    refine Run.region ?_
    refine asg1 rfl rfl ?_
    refine Ro.nil ?_
    refine Nrm.code ?_
    refine Run.ret ?_
    refine Rt.one rfl rfl ?_
    exact ⟨by rw [chkE, if_neg (show ¬ badF h = true from by rw [show badF h = false from hc1]; simp), if_neg (by omega), if_pos (by omega)], S.bl⟩
   ·
    try simp only [Bool.or_eq_true, Bool.and_eq_true, Bool.or_eq_false_iff, Bool.and_eq_false_iff, decide_eq_true_eq, decide_eq_false_iff_not, Bool.not_eq_true', Bool.not_eq_false', Bool.not_eq_true, Bool.not_eq_false] at hc6
    refine Run.skip ?_
    refine Nrm.code ?_
    refine Run.seq ?_
    refine Run.seq ?_
    refine Run.region ?_
    have hbo := badF_off (h := h) hc1
    refine fld (o' := 3) rfl fo28_3 rfl rfl rfl rfl ?_
    refine ld1 rfl T4 S (i := 1) rfl rfl rfl rfl rfl ?_
    refine fld (o' := 4) rfl fo28_4 rfl rfl rfl rfl ?_
    refine ld1 rfl T3 S (i := 1) rfl rfl rfl rfl rfl ?_
    refine fld (o' := 42) rfl fo28_10 rfl rfl rfl rfl ?_
    refine ld1 rfl T26 S (i := 1) rfl rfl rfl rfl rfl ?_
    refine lenS rfl hd.2 Tryd.underlying26 rfl rfl rfl ?_
    refine calg (vs := [_, _, _]) rfl ⟨⟨_, _, rfl, rfl⟩, ⟨_, _, rfl, rfl⟩, ⟨_, _, rfl, rfl⟩, trivial⟩ k114 rfl (fun hG => c114 _ _ _ _ (by omega)) ?_
    intro w10 B_; have S := S.call B_
    refine Ro.nil ?_
    refine Nrm.code ?_
    refine Run.cond rfl (fun hc8 => ?_) (fun hc8 => ?_)
    ·
     try simp only [Bool.or_eq_true, Bool.and_eq_true, Bool.or_eq_false_iff, Bool.and_eq_false_iff, decide_eq_true_eq, decide_eq_false_iff_not, Bool.not_eq_true', Bool.not_eq_false', Bool.not_eq_true, Bool.not_eq_false] at hc8
     refine Run.seq ?_
     refine Run.region ?_
     refine asg1 rfl rfl ?_
     refine Ro.nil ?_
     refine Nrm.code ?_
     refine Run.ret ?_
     refine Rt.one rfl rfl ?_
     have hfr := fragE_or h.mf h.off h.data.length
     exact ⟨by rw [chkE, if_neg (show ¬ badF h = true from by rw [show badF h = false from hc1]; simp), if_neg (by omega), if_neg (by omega)]; rw [show fragE h.mf h.off h.data.length = 66 from by omega], S.bl⟩
    ·
     try simp only [Bool.or_eq_true, Bool.and_eq_true, Bool.or_eq_false_iff, Bool.and_eq_false_iff, decide_eq_true_eq, decide_eq_false_iff_not, Bool.not_eq_true', Bool.not_eq_false', Bool.not_eq_true, Bool.not_eq_false] at hc8
     refine Run.skip ?_
     refine Nrm.code ?_
     refine Run.seq ?_
     refine Run.region ?_
     refine asg1 rfl rfl ?_
     refine Ro.nil ?_
     refine Nrm.code ?_
     refine Run.ret ?_
     refine Rt.one rfl rfl ?_
     have hfr := fragE_or h.mf h.off h.data.length
     exact ⟨by rw [chkE, if_neg (show ¬ badF h = true from by rw [show badF h = false from hc1]; simp), if_neg (by omega), if_neg (by omega)]; rw [show fragE h.mf h.off h.data.length = 0 from by omega], S.bl⟩
end Go.Proofs.YtkahmepenjhcpaaDoor.W
/- The base of this seat's proofs, fourteenth part: the package's own tables. No statement of the seat is proved here. -/
namespace Go.Proofs.YtkahmepenjhcpaaDoor.W
open Go
set_option linter.unusedVariables false
set_option linter.unusedSimpArgs false
/-- a package's table, as it was laid -/
def GV (N : List Nat) (w : World) (g : Nat) (T : TypeId) (c : List Value) : Prop := Rd N w (some ⟨g, 0, none⟩) c
theorem GV.st {N0 : List Nat} {w0 w : World} {L : List Own} {g : Nat} {T : TypeId} {c : List Value} (h : GV N0 w0 g T c) (S : St N0 w0 L w) : GV (idsL L) w g T c := Rd.st h S
theorem GV.now {N0 : List Nat} {w0 w : World} {L : List Own} {g : Nat} {T : TypeId} {c : List Value} (h : GV N0 w0 g T c) (S : St N0 w0 L w) : GV [] w g T c := Rd.now h S
theorem GV.bl {N : List Nat} {w w' : World} {g : Nat} {T : TypeId} {c : List Value} (h : GV N w g T c) (B : Bl w w') : GV N w' g T c := Rd.bl h B
theorem ldG {P : Program} {R : Qp} {ds : List Deferred} {n : Nat} {l : Env} {k : List KI} {w w0 : World} {ops : Array Oper} {os : List Oper} {d : Nat} {ty : TypeId} {ps : String} {af : Array Edge} {N0 : List Nat} {L : List Own}
    {T : TypeId} {sz : Nat} {zc : List Value} {g : Nat} {c : List Value} (hg : GV N0 w0 g T c) (S : St N0 w0 L w) (hT : TyI P T sz true zc) (hl : c.length = sz) (hn : Nat.blt d n = true)
    (h : Ro P R ds n ops ((d, [], .agg c.toArray) :: l) os k w) :
    Ro P R ds n ops l ({ dst := some d, op := .load T (.global g), type := ty, pos := ps, after := af, guard := none } :: os) k w := by
  obtain ⟨i, z, dd, h1, h2, h3, h4, h5, h6⟩ := hT.get
  refine opw rfl rfl hn ?_ h
  intro a ha
  subst hl
  have hv : Rd [] w (some ⟨g, 0, none⟩) c := hg.now S
  have hl := run_loadCells_list (P := P) (w := w) ⟨g, 0, none⟩ c (hv.cells)
  have he : a.eval (.global g) = .pointer (some ⟨g, 0, none⟩) := rfl
  simp only [execOp, he, Instr.loadAt, Instr.sureAddr, loadVar, isAgg]
  cases dd <;> simp [aggD] at h6 <;> simp [run_underlying h5, sizeOf, typeInfo, h1, h2, hl]
/-- an element of a row of one's own, in every world of a class -/
theorem qldR {P : Program} {R : Qp} {ds : List Deferred} {n : Nat} {l : Env} {k : List KI} {w0 : World} {C : World → Prop} {ops : Array Oper} {os : List Oper} {d : Nat} {G gx ex : Gs} {ty : TypeId} {ps : String} {af : Array Edge} {gu : Option (Nat × Bool)} {x : Operand} {N0 : List Nat} {L : List Own}
    {T T' : TypeId} {sz tsz m j i : Nat} {zc : List Value} {v u : Value} {cs : List Value} (hx : ev l x = some (gx, eP v j)) (S : ∀ w, C w → St N0 w0 L w) (hk : getN L i = some (.row v T' sz m cs)) (hT : TyI P T tsz false zc) (hG : gd ops l gu = some G) (hpx : G = gx ++ ex) (hn : Nat.blt d n = true)
    (hv : allT G → cs[j]? = some u) (h : Qo P R ds n ops C ((d, G, u) :: l) os k) :
    Qo P R ds n ops C l ({ dst := some d, op := .load T x, type := ty, pos := ps, after := af, guard := gu } :: os) k := by
  obtain ⟨i, z, dd, h1, h2, h3, h4, h5, h6⟩ := hT.get
  refine qopv hG rfl hn ?_ h
  intro hT' w hw a ha
  have hu := hv hT'
  have hj : j < cs.length := by
    rcases Nat.lt_or_ge j cs.length with h | h
    · exact h
    · rw [List.getElem?_eq_none h] at hu; cases hu
  obtain ⟨A, cap, rfl, hsp, he, hc, hb⟩ := ((S w hw).slI hk).some hj
  have hc' : w.cell? ⟨A.block, A.off + j, none⟩ = some u := by
    rw [hc, ← hu, List.getElem?_eq_getElem hj]
  simp only [execOp, ha.eval hx (pre_T hpx hT'), he, Instr.loadAt, Instr.sureAddr, loadVar, isAgg]
  cases dd <;> simp [aggD] at h6 <;> simp [run_underlying h5, hc']
end Go.Proofs.YtkahmepenjhcpaaDoor.W
/- Plain facts on headers: the bits and the bytes of a datagram's first twelve. No program walked here; no statement of the seat is proved here. -/
namespace Go.Proofs.YtkahmepenjhcpaaDoor.W
set_option linter.unusedVariables false
set_option linter.unusedSimpArgs false
/-- all bits of bytes -/
def bitsB : List Int → List Int
  | [] => []
  | b :: r => bitsOf b 8 ++ bitsB r
theorem bitsB_app : ∀ a b : List Int, bitsB (a ++ b) = bitsB a ++ bitsB b
  | [], b => rfl
  | x :: a, b => by simp [bitsB, bitsB_app a b]
theorem bitsB_at : ∀ (l : List Int) (k : Nat), k < 8 * l.length → (bitsB l).getD k 0 = bitAt l k
  | [], k, h => by simp at h
  | b :: r, k, h => by
    unfold bitsB
    rcases Nat.lt_or_ge k 8 with h8 | h8
    · have e : (bitsOf b 8 ++ bitsB r).getD k 0 = (bitsOf b 8).getD k 0 := by
        rw [List.getD_eq_getElem?_getD, List.getElem?_append_left (by rw [bitsOf_len]; exact h8), List.getD_eq_getElem?_getD]
      rw [e, bitsOf_at b 8 k h8]
      unfold bitAt
      rw [Nat.div_eq_of_lt h8, Nat.mod_eq_of_lt h8]
      rfl
    · have e : (bitsOf b 8 ++ bitsB r).getD k 0 = (bitsB r).getD (k - 8) 0 := by
        rw [List.getD_eq_getElem?_getD, List.getElem?_append_right (by rw [bitsOf_len]; exact h8), bitsOf_len, List.getD_eq_getElem?_getD]
      rw [e, bitsB_at r (k - 8) (by simp only [List.length_cons] at h; omega)]
      unfold bitAt
      obtain ⟨q, rfl⟩ : ∃ q, k = q + 8 := ⟨k - 8, by omega⟩
      have e1 : (q + 8) / 8 = q / 8 + 1 := by omega
      have e2 : (q + 8) % 8 = q % 8 := by omega
      rw [Nat.add_sub_cancel, e1, e2]
      rfl
theorem bits_of_eq {out l P : List Int} {nb : Nat} (h1 : out.length = nb) (h2 : ∀ x ∈ out, 0 ≤ x ∧ x < 256) (h4 : ∀ k, k < 8 * nb → bitAt out k = P.getD k 0) (hl : l.length = nb) (hb : ∀ x ∈ l, 0 ≤ x ∧ x < 256) (hP : bitsB l = P) : out = l := by
  refine bits_ext (by omega) h2 hb (fun k hk => ?_)
  rw [h4 k (by omega), ← hP, bitsB_at l k (by omega)]
theorem bitsOf_16 {v : Int} (h : 0 ≤ v ∧ v < 65536) : bitsOf v 16 = bitsB [v / 256, v % 256] := by
  simp only [bitsB, bitsOf, List.append_nil, List.nil_append, List.cons_append, List.cons.injEq, and_true]
  refine ⟨?_, ?_, ?_, ?_, ?_, ?_, ?_, ?_, ?_, ?_, ?_, ?_, ?_, ?_, ?_, ?_⟩ <;> omega
theorem bitsOf_8 {v : Int} : bitsOf v 8 = bitsB [v] := by simp [bitsB]
theorem bitsOf_44 {a b : Int} (ha : 0 ≤ a ∧ a < 16) (hb : 0 ≤ b ∧ b < 16) : bitsOf a 4 ++ bitsOf b 4 = bitsB [a * 16 + b] := by
  simp only [bitsB, bitsOf, List.append_nil, List.nil_append, List.cons_append, List.cons.injEq, and_true]
  refine ⟨?_, ?_, ?_, ?_, ?_, ?_, ?_, ?_⟩ <;> omega
theorem bitsOf_flags {r a b c : Int} (hr : r = 0) (ha : 0 ≤ a ∧ a ≤ 1) (hb : 0 ≤ b ∧ b ≤ 1) (hc : 0 ≤ c ∧ c < 8192) : bitsOf r 1 ++ (bitsOf a 1 ++ (bitsOf b 1 ++ bitsOf c 13)) = bitsB [a * 64 + b * 32 + c / 256, c % 256] := by
  subst hr
  simp only [bitsB, bitsOf, List.append_nil, List.nil_append, List.cons_append, List.cons.injEq, and_true]
  refine ⟨?_, ?_, ?_, ?_, ?_, ?_, ?_, ?_, ?_, ?_, ?_, ?_, ?_, ?_, ?_, ?_⟩ <;> omega
/-- the first twelve bytes, the sum's place empty -/
def hdr12 (head tos total id : Int) (df mf : Int) (off ttl proto : Int) : List Int :=
  [4 * 16 + head, tos, total / 256, total % 256, id / 256, id % 256, df * 64 + mf * 32 + off / 256, off % 256, ttl, proto, 0, 0]
theorem hdr12_bits {head tos total id df mf off ttl proto : Int} (h1 : 0 ≤ head ∧ head < 16) (h3 : 0 ≤ total ∧ total < 65536) (h4 : 0 ≤ id ∧ id < 65536) (h5 : 0 ≤ df ∧ df ≤ 1) (h6 : 0 ≤ mf ∧ mf ≤ 1) (h7 : 0 ≤ off ∧ off < 8192) :
    bitsB (hdr12 head tos total id df mf off ttl proto) = strm [4, 4, 8, 16, 16, 1, 1, 1, 13, 8, 8, 16] [4, head, tos, total, id, 0, df, mf, off, ttl, proto, 0] := by
  have e : strm [4, 4, 8, 16, 16, 1, 1, 1, 13, 8, 8, 16] [4, head, tos, total, id, 0, df, mf, off, ttl, proto, 0] =
      (bitsOf 4 4 ++ bitsOf head 4) ++ (bitsOf tos 8 ++ (bitsOf total 16 ++ (bitsOf id 16 ++ ((bitsOf 0 1 ++ (bitsOf df 1 ++ (bitsOf mf 1 ++ bitsOf off 13))) ++ (bitsOf ttl 8 ++ (bitsOf proto 8 ++ bitsOf 0 16)))))) := by
    simp [strm, List.append_assoc]
  rw [e, bitsOf_44 (by omega) h1, bitsOf_8, bitsOf_16 h3, bitsOf_16 h4, bitsOf_flags rfl h5 h6 h7, bitsOf_8, bitsOf_8, bitsOf_16 (by omega)]
  simp only [← bitsB_app]
  rfl
end Go.Proofs.YtkahmepenjhcpaaDoor.W
/- Contracts: a datagram is written. No statement of the seat is proved here. -/
namespace Go.Proofs.YtkahmepenjhcpaaDoor.W
open Go
set_option linter.unusedSimpArgs false
set_option linter.unusedVariables false
abbrev W4 : List Int := [4, 4, 8, 16, 16, 1, 1, 1, 13, 8, 8, 16]
def four4 (x : IP) : List Int := [x.a 0, x.a 1, x.a 2, x.a 3]
def bI (b : Bool) : Int := if b then 1 else 0
def top10 (h : Ip4) : List Int := hdr12 ((20 + ((putL h.opts).length : Int)) / 4) h.tos (20 + ((putL h.opts).length : Int) + (h.data.length : Int)) h.id (bI h.df) (bI h.mf) (h.off / 8) h.ttl h.proto
def headB (h : Ip4) : List Int := top10 h ++ four4 h.src ++ four4 h.dst ++ putL h.opts
def sumC (h : Ip4) : Int := 65535 - sumS (headB h)
def serB (h : Ip4) : List Int := ((headB h).set 10 (sumC h / 256)).set 11 (sumC h % 256) ++ h.data
def serL (h : Ip4) : List Int := if chkE h = 0 then serB h else []
theorem four4_byt {x : IP} (h : x.ok) : byt (four4 x) := by
  intro b hb
  simp only [four4, List.mem_cons, List.not_mem_nil, or_false] at hb
  rcases hb with rfl | rfl | rfl | rfl
  · exact h.1 0 (by omega)
  · exact h.1 1 (by omega)
  · exact h.1 2 (by omega)
  · exact h.1 3 (by omega)
theorem BSs.byts {N : List Nat} {w : World} : ∀ {vs : List Value} {ls : List (List Int)}, BSs N w vs ls → ∀ l ∈ ls, W.byt l
  | [], [], _, l, hl => by simp at hl
  | [], _ :: _, h, _, _ => h.elim
  | _ :: _, [], h, _, _ => h.elim
  | v :: vs, a :: ls, h, l, hl => by
    rcases List.mem_cons.1 hl with e | e
    · rw [e]; exact h.1.1
    · exact BSs.byts h.2 l e
theorem OS.byt {N : List Nat} {w : World} {v : Value} {os : List Opt} (h : OS N w v os) : ∀ o ∈ os, W.byt o.data := by
  obtain ⟨ds, _, hB⟩ := h
  intro o ho
  exact BSs.byts hB _ (List.mem_map_of_mem ho)
theorem optsB_byt {os : List Opt} (hk : os.all okO = true) (hd : ∀ o ∈ os, W.byt o.data) : W.byt (optsB os) := by
  intro x hx
  unfold optsB at hx
  obtain ⟨l, hl, hxl⟩ := List.mem_flatten.1 hx
  obtain ⟨o, ho, rfl⟩ := List.mem_map.1 hl
  have h1 := okO_iff.1 (List.all_eq_true.1 hk o ho)
  simp only [optB, List.mem_cons] at hxl
  rcases hxl with rfl | rfl | h
  · omega
  · omega
  · exact hd o ho x h
theorem putL_byt {os : List Opt} (hd : ∀ o ∈ os, W.byt o.data) : W.byt (putL os) := by
  unfold putL
  split
  · rename_i h
    have hk : os.all okO = true := by simp only [putOk, Bool.and_eq_true] at h; exact h.1
    refine byt_app (optsB_byt hk hd) ?_
    intro x hx; rw [(List.mem_replicate.1 hx).2]; omega
  · intro x hx; simp at hx
theorem flat1 (l : List Int) : [l].flatten = l := by simp
theorem chkE_zero {h : Ip4} (hc : chkE h = 0) : badF h = false ∧ putE h.opts = 0 ∧ 20 + ((putL h.opts).length : Int) + h.data.length ≤ 65535 ∧ fragE h.mf h.off h.data.length = 0 := by
  unfold chkE at hc
  cases hb : badF h with
  | true => rw [hb] at hc; simp at hc
  | false =>
    rw [hb] at hc
    simp only [Bool.false_eq_true, if_false] at hc
    by_cases h2 : putE h.opts = 0
    · rw [if_neg (by omega)] at hc
      by_cases h3 : 65535 < 20 + ((putL h.opts).length : Int) + h.data.length
      · rw [if_pos h3] at hc; omega
      · rw [if_neg h3] at hc; exact ⟨rfl, h2, by omega, hc⟩
    · rw [if_pos h2] at hc; omega
theorem bI_bd (b : Bool) : 0 ≤ bI b ∧ bI b ≤ 1 := by cases b <;> decide
theorem hdr12_byt {head tos total id df mf off ttl proto : Int} (h1 : 0 ≤ head ∧ head < 16) (h2 : 0 ≤ tos ∧ tos < 256) (h3 : 0 ≤ total ∧ total < 65536) (h4 : 0 ≤ id ∧ id < 65536) (h5 : 0 ≤ df ∧ df ≤ 1) (h6 : 0 ≤ mf ∧ mf ≤ 1) (h7 : 0 ≤ off ∧ off < 8192) (h8 : 0 ≤ ttl ∧ ttl < 256) (h9 : 0 ≤ proto ∧ proto < 256) :
    byt (hdr12 head tos total id df mf off ttl proto) := by
  intro x hx
  simp only [hdr12, List.mem_cons, List.not_mem_nil, or_false] at hx
  rcases hx with rfl | rfl | rfl | rfl | rfl | rfl | rfl | rfl | rfl | rfl | rfl | rfl <;> omega
theorem top10_byt {h : Ip4} (hc : chkE h = 0) : byt (top10 h) := by
  obtain ⟨h1, h2, h3, h4⟩ := chkE_zero hc
  have hb := badF_off h1
  have hl := putL_len h.opts
  have hdf := bI_bd h.df
  have hmf := bI_bd h.mf
  exact hdr12_byt (by omega) (by omega) (by omega) (by omega) hdf hmf (by omega) (by omega) (by omega)
theorem top10_bits {h : Ip4} (hc : chkE h = 0) : bitsB (top10 h) = strm W4 [4, (20 + ((putL h.opts).length : Int)) / 4, h.tos, 20 + ((putL h.opts).length : Int) + (h.data.length : Int), h.id, 0, bI h.df, bI h.mf, h.off / 8, h.ttl, h.proto, 0] := by
  obtain ⟨h1, h2, h3, h4⟩ := chkE_zero hc
  have hb := badF_off h1
  have hl := putL_len h.opts
  exact hdr12_bits (by omega) (by omega) (by omega) (bI_bd _) (bI_bd _) (by omega)
theorem top10_pack {h : Ip4} (hc : chkE h = 0) : ∀ i, i < W4.length → 0 ≤ [4, (20 + ((putL h.opts).length : Int)) / 4, h.tos, 20 + ((putL h.opts).length : Int) + (h.data.length : Int), h.id, 0, bI h.df, bI h.mf, h.off / 8, h.ttl, h.proto, 0].getD i 0 ∧ [4, (20 + ((putL h.opts).length : Int)) / 4, h.tos, 20 + ((putL h.opts).length : Int) + (h.data.length : Int), h.id, 0, bI h.df, bI h.mf, h.off / 8, h.ttl, h.proto, 0].getD i 0 < 2 ^ (W4.getD i 0).toNat := by
  obtain ⟨h1, h2, h3, h4⟩ := chkE_zero hc
  have hb := badF_off h1
  have hl := putL_len h.opts
  have hdf := bI_bd h.df
  have hmf := bI_bd h.mf
  intro i hi
  rcases i with _ | _ | _ | _ | _ | _ | _ | _ | _ | _ | _ | _ | i
  all_goals first
    | (simp only [W4, List.getD_cons_zero, List.getD_cons_succ, Int.toNat_one, Int.reducePow, Int.reduceToNat]; omega)
    | (exfalso; simp at hi; omega)
theorem headB_len (h : Ip4) : (headB h).length = 20 + (putL h.opts).length := by simp [headB, top10, hdr12, four4]; omega
theorem headB_byt {h : Ip4} (hc : chkE h = 0) (h1 : h.src.ok) (h2 : h.dst.ok) (hd : ∀ o ∈ h.opts, W.byt o.data) : byt (headB h) :=
  byt_app (byt_app (byt_app (top10_byt hc) (four4_byt h1)) (four4_byt h2)) (putL_byt hd)
theorem sumC_bd {h : Ip4} (hb : byt (headB h)) : 0 ≤ sumC h ∧ sumC h ≤ 65535 := by
  have hw := wsum_bd (headB h) true hb
  have hf := foldS_bd hw.1
  have e : sumS (headB h) = foldS (wsum true (headB h)) := rfl
  unfold sumC; omega
set_option maxHeartbeats 1000000 in
theorem c30 (h : Ip4) (o d : Value) (w : World) (hO : OS [] w o h.opts) (hd : BS [] w d h.data) (hol : h.opts.length ≤ 1099511627776) (hdl : h.data.length ≤ 1099511627776) (hs : h.src.ok) (ht : h.dst.ok) (hg : GV [] w 0 130 (W4.map i64)) :
  CallsV Tryd.prog 30 #[.agg (encIp4 h o d).toArray] w (fun r w' => ∃ u, r = .tuple #[u, .int .i64 (chkE h)] ∧ FB w w' u (serL h)) := by
 refine enter Tryd.func30 rfl Tryd.ntmps30 (l := [(0, [], _)]) rfl rfl ?_
 have S := St.refl [] w
 have hpl := putL_len h.opts
 have hpb := putL_byt hO.byt
 refine Run.seq ?_
 refine Run.region ?_
 refine boxA rfl S rfl ?_
 intro b1 w1 hb1 S B_
 refine asg1 rfl rfl ?_
 refine asg1 rfl rfl ?_
 refine Ro.nil ?_
 refine Nrm.code ?_
 refine Run.seq ?_
 refine Run.seq ?_
 refine Run.region ?_
 refine ldW rfl T28 S (i := 0) rfl rfl rfl rfl rfl ?_
 refine calg (vs := [_]) rfl ⟨⟨_, _, rfl, rfl⟩, trivial⟩ k32 rfl (fun hG => c32 _ _ _ _ (hO.now S) (hd.now S) hol hdl) ?_
 intro w2 B_; have S := S.call B_
 refine asg1 rfl rfl ?_
 refine Ro.nil ?_
 refine Nrm.code ?_
 refine Run.seq ?_
 refine Run.region ?_
 refine mv1 rfl rfl ?_
 refine neq1 rfl rfl rfl ?_
 refine Ro.nil ?_
 refine Nrm.code ?_
 refine Run.cond rfl (fun hc2 => ?_) (fun hc2 => ?_)
 ·
  try simp only [Bool.or_eq_true, Bool.and_eq_true, Bool.or_eq_false_iff, Bool.and_eq_false_iff, decide_eq_true_eq, decide_eq_false_iff_not, Bool.not_eq_true', Bool.not_eq_false', Bool.not_eq_true, Bool.not_eq_false] at hc2
  refine Run.seq ?_
  refine Run.region ?_
  refine mv1 rfl rfl ?_
  refine asg1 rfl rfl ?_
  refine asg1 rfl rfl ?_
  refine Ro.nil ?_
  refine Nrm.code ?_
  refine Run.ret ?_
  refine Rt.two rfl rfl rfl ?_
  exact ⟨.slice none 0 0, rfl, by rw [serL, if_neg hc2]; exact (S.nilB).toFB (i := 0) rfl⟩
 ·
  try simp only [Bool.or_eq_true, Bool.and_eq_true, Bool.or_eq_false_iff, Bool.and_eq_false_iff, decide_eq_true_eq, decide_eq_false_iff_not, Bool.not_eq_true', Bool.not_eq_false', Bool.not_eq_true, Bool.not_eq_false] at hc2
  replace hc2 : chkE h = 0 := by omega
  have hcz := chkE_zero hc2
  have hbo := badF_off hcz.1
  have hXb := headB_byt hc2 hs ht hO.byt
  have hXl := headB_len h
  have hcb := sumC_bd hXb
  have hXl2 : (top10 h ++ four4 h.src ++ four4 h.dst ++ putL h.opts).length = 20 + (putL h.opts).length := hXl
  have hXl3 : ((top10 h ++ four4 h.src ++ four4 h.dst ++ putL h.opts).set (Int.toNat 10) (sumC h / 256)).length = 20 + (putL h.opts).length := by rw [List.length_set]; exact hXl
  have hXl4 : (((top10 h ++ four4 h.src ++ four4 h.dst ++ putL h.opts).set (Int.toNat 10) (sumC h / 256)).set (Int.toNat 11) (sumC h % 256)).length = 20 + (putL h.opts).length := by rw [List.length_set]; exact hXl3
  have h4s : (four4 h.src).length = 4 := rfl
  have h4d : (four4 h.dst).length = 4 := rfl
  have ht10 : (top10 h).length = 12 := rfl
  refine Run.skip ?_
  refine Nrm.code ?_
  refine Run.seq ?_
  refine Run.region ?_
  refine fld (o' := 41) rfl fo28_9 rfl rfl rfl rfl ?_
  refine ld1 rfl T25 S (i := 0) rfl rfl rfl rfl rfl ?_
  refine call (vs := [_]) ⟨⟨_, _, rfl, rfl⟩, trivial⟩ k94 rfl (c94 _ _ _ (hO.now S) (by omega)) ?_
  rintro _ w3 ⟨u5, rfl, hF⟩
  have S := S.fb hF
  refine mv1 rfl rfl ?_
  refine extr1 rfl rfl rfl ?_
  refine extr1 rfl rfl rfl ?_
  refine asg1 rfl rfl ?_
  refine asg1 rfl rfl ?_
  refine Ro.nil ?_
  refine Nrm.code ?_
  refine Run.seq ?_
  refine Run.region ?_
  refine mv1 rfl rfl ?_
  refine lenS rfl (S.slI (i := 0) rfl) Tryd.underlying26 rfl rfl rfl ?_
  refine add1 rfl rfl rfl (w64 (by omega)) ?_
  refine asg1 rfl rfl ?_
  refine Ro.nil ?_
  refine Nrm.code ?_
  refine Run.seq ?_
  refine Run.region ?_
  refine ldG hg S T130 rfl rfl ?_
  refine alc T130 S rfl ?_
  intro b8 w4 hb8 S B_
  refine stW rfl rfl T130 rfl rfl (by simp [Value.oneCell']) S (i := 0) rfl rfl ?_
  intro w5 S
  refine Ro.nil ?_
  refine Nrm.code ?_
  refine Run.seq ?_
  refine Run.held (by kernel_rfl) S [true, true, true] rfl rfl rfl ?_
  intro w6 BD S SC
  refine Ho.take (i := 0) SC Pp.body rfl (by kernel_rfl) (by kernel_rfl) (by kernel_rfl) rfl rfl ?_
  refine qslAT rfl Tryd.underlying130 T3 rfl rfl rfl (i2 := none) trivial rfl (by decide) (by decide) ?_
  refine Ho.back ?_
  refine Ho.take (i := 1) SC Pp.body rfl (by kernel_rfl) (by kernel_rfl) (by kernel_rfl) rfl rfl ?_
  refine qmv rfl rfl rfl rfl ?_
  refine Ho.back ?_
  refine Ho.take (i := 2) SC Pp.body rfl (by kernel_rfl) (by kernel_rfl) (by kernel_rfl) rfl rfl ?_
  refine qquo rfl rfl rfl rfl rfl rfl (fun _ => by decide) (fun _ => q64 (by omega)) ?_
  refine Ho.back ?_
  refine Ho.take (i := 3) SC Pp.body rfl (by kernel_rfl) (by kernel_rfl) (by kernel_rfl) rfl rfl ?_
  refine qfld (o' := 0) rfl fo28_0 rfl rfl rfl rfl ?_
  refine Ho.back ?_
  refine Ho.take (i := 4) SC Pp.body rfl (by kernel_rfl) (by kernel_rfl) (by kernel_rfl) rfl rfl ?_
  refine qld1 rfl T3 (fun _ S => S) (i := 2) rfl rfl rfl rfl rfl ?_
  refine Ho.back ?_
  refine Ho.take (i := 5) SC Pp.body rfl (by kernel_rfl) (by kernel_rfl) (by kernel_rfl) rfl rfl ?_
  refine qmv rfl rfl rfl rfl ?_
  refine Ho.back ?_
  refine Ho.take (i := 6) SC Pp.body rfl (by kernel_rfl) (by kernel_rfl) (by kernel_rfl) rfl rfl ?_
  refine qfld (o' := 42) rfl fo28_10 rfl rfl rfl rfl ?_
  refine Ho.back ?_
  refine Ho.take (i := 7) SC Pp.body rfl (by kernel_rfl) (by kernel_rfl) (by kernel_rfl) rfl rfl ?_
  refine qld1 rfl T26 (fun _ S => S) (i := 2) rfl rfl rfl rfl rfl ?_
  refine Ho.back ?_
  refine Ho.take (i := 8) SC Pp.body rfl (by kernel_rfl) (by kernel_rfl) (by kernel_rfl) rfl rfl ?_
  refine qlenS rfl hd.2 Tryd.underlying26 rfl rfl rfl ?_
  refine Ho.back ?_
  refine Ho.take (i := 9) SC Pp.body rfl (by kernel_rfl) (by kernel_rfl) (by kernel_rfl) rfl rfl ?_
  refine qadd rfl rfl rfl rfl rfl rfl (fun _ => w64 (by omega)) ?_
  refine Ho.back ?_
  refine Ho.take (i := 10) SC Pp.body rfl (by kernel_rfl) (by kernel_rfl) (by kernel_rfl) rfl rfl ?_
  refine qfld (o' := 1) rfl fo28_1 rfl rfl rfl rfl ?_
  refine Ho.back ?_
  refine Ho.take (i := 11) SC Pp.body rfl (by kernel_rfl) (by kernel_rfl) (by kernel_rfl) rfl rfl ?_
  refine qld1 rfl T3 (fun _ S => S) (i := 2) rfl rfl rfl rfl rfl ?_
  refine Ho.back ?_
  refine Ho.take (i := 12) SC Pp.body rfl (by kernel_rfl) (by kernel_rfl) (by kernel_rfl) rfl rfl ?_
  refine qfld (o' := 2) rfl fo28_2 rfl rfl rfl rfl ?_
  refine Ho.back ?_
  refine Ho.take (i := 13) SC Pp.body rfl (by kernel_rfl) (by kernel_rfl) (by kernel_rfl) rfl rfl ?_
  refine qld1 rfl T4 (fun _ S => S) (i := 2) rfl rfl rfl rfl rfl ?_
  refine Ho.back ?_
  refine Ho.take (i := 15) SC Pp.body rfl (by kernel_rfl) (by kernel_rfl) (by kernel_rfl) rfl rfl ?_
  refine qfld (o' := 3) rfl fo28_3 rfl rfl rfl rfl ?_
  refine Ho.back ?_
  refine Ho.take (i := 16) SC Pp.body rfl (by kernel_rfl) (by kernel_rfl) (by kernel_rfl) rfl rfl ?_
  refine qld1 rfl T4 (fun _ S => S) (i := 2) rfl rfl rfl rfl rfl ?_
  refine Ho.back ?_
  refine Ho.take (i := 18) SC Pp.body rfl (by kernel_rfl) (by kernel_rfl) (by kernel_rfl) rfl rfl ?_
  refine qfld (o' := 4) rfl fo28_4 rfl rfl rfl rfl ?_
  refine Ho.back ?_
  refine Ho.take (i := 19) SC Pp.body rfl (by kernel_rfl) (by kernel_rfl) (by kernel_rfl) rfl rfl ?_
  refine qld1 rfl T3 (fun _ S => S) (i := 2) rfl rfl rfl rfl rfl ?_
  refine Ho.back ?_
  refine Ho.take (i := 20) SC Pp.body rfl (by kernel_rfl) (by kernel_rfl) (by kernel_rfl) rfl rfl ?_
  refine qquo rfl rfl rfl rfl rfl rfl (fun _ => by decide) (fun _ => q64 (by omega)) ?_
  refine Ho.back ?_
  refine Ho.take (i := 21) SC Pp.body rfl (by kernel_rfl) (by kernel_rfl) (by kernel_rfl) rfl rfl ?_
  refine qfld (o' := 5) rfl fo28_5 rfl rfl rfl rfl ?_
  refine Ho.back ?_
  refine Ho.take (i := 22) SC Pp.body rfl (by kernel_rfl) (by kernel_rfl) (by kernel_rfl) rfl rfl ?_
  refine qld1 rfl T3 (fun _ S => S) (i := 2) rfl rfl rfl rfl rfl ?_
  refine Ho.back ?_
  refine Ho.take (i := 23) SC Pp.body rfl (by kernel_rfl) (by kernel_rfl) (by kernel_rfl) rfl rfl ?_
  refine qfld (o' := 6) rfl fo28_6 rfl rfl rfl rfl ?_
  refine Ho.back ?_
  refine Ho.take (i := 24) SC Pp.body rfl (by kernel_rfl) (by kernel_rfl) (by kernel_rfl) rfl rfl ?_
  refine qld1 rfl T3 (fun _ S => S) (i := 2) rfl rfl rfl rfl rfl ?_
  refine Ho.back ?_
  refine Ho.one (i := 14) (by kernel_rfl) rfl rfl ?_
  refine calg (vs := [_]) rfl ⟨⟨_, _, rfl, rfl⟩, trivial⟩ k96 rfl (fun hG => c96 _ _) ?_
  intro w7 B_; have S := S.call B_
  have SC := S.pick [true, true, true] rfl
  refine Ho.on SC ?_
  refine Ho.one (i := 17) (by kernel_rfl) rfl rfl ?_
  refine calg (vs := [_]) rfl ⟨⟨_, _, rfl, rfl⟩, trivial⟩ k96 rfl (fun hG => c96 _ _) ?_
  intro w8 B_; have S := S.call B_
  have SC := S.pick [true, true, true] rfl
  refine Ho.on SC ?_
  refine Ho.one (i := 25) (by kernel_rfl) rfl rfl ?_
  refine bsl e132 (qs := [(_, _), (_, _), (_, _), (_, _), (_, _), (_, _), (_, _), (_, _), (_, _), (_, _), (_, _), (_, _)]) ⟨⟨_, _, _, rfl, rfl, rfl, rfl, by simp [Value.cells]⟩, ⟨_, _, _, rfl, rfl, rfl, rfl, by simp [Value.cells]⟩, ⟨_, _, _, rfl, rfl, rfl, rfl, by simp [Value.cells]⟩, ⟨_, _, _, rfl, rfl, rfl, rfl, by simp [Value.cells]⟩, ⟨_, _, _, rfl, rfl, rfl, rfl, by simp [Value.cells]⟩, ⟨_, _, _, rfl, rfl, rfl, rfl, by simp [Value.cells]⟩, ⟨_, _, _, rfl, rfl, rfl, rfl, by simp [Value.cells]⟩, ⟨_, _, _, rfl, rfl, rfl, rfl, by simp [Value.cells]⟩, ⟨_, _, _, rfl, rfl, rfl, rfl, by simp [Value.cells]⟩, ⟨_, _, _, rfl, rfl, rfl, rfl, by simp [Value.cells]⟩, ⟨_, _, _, rfl, rfl, rfl, rfl, by simp [Value.cells]⟩, ⟨_, _, _, rfl, rfl, rfl, rfl, by simp [Value.cells]⟩, trivial⟩ rfl rfl rfl rfl S ?_
  intro u53 w9 S B_
  have SC := S.pick [false, true, true, true] rfl
  refine Ho.on SC ?_
  refine Ho.one (i := 26) (by kernel_rfl) rfl rfl ?_
  refine call (vs := [_, _]) ⟨⟨_, _, rfl, rfl⟩, ⟨_, _, rfl, rfl⟩, trivial⟩ k95 rfl (c95 _ _ W4 [4, (20 + ((putL h.opts).length : Int)) / 4, h.tos, 20 + ((putL h.opts).length : Int) + (h.data.length : Int), h.id, 0, bI h.df, bI h.mf, h.off / 8, h.ttl, h.proto, 0] _ (S.varSl (i := 1) (m := 12) (sz := 1) rfl rfl rfl (by decide)) (S.isI (l := [4, (20 + ((putL h.opts).length : Int)) / 4, h.tos, 20 + ((putL h.opts).length : Int) + (h.data.length : Int), h.id, 0, bI h.df, bI h.mf, h.off / 8, h.ttl, h.proto, 0]) (i := 0) rfl) (by decide) (by decide) (by decide) rfl (top10_pack hc2)) ?_
  rintro _ w10 ⟨u9, out, rfl, hF, hpk⟩
  have hout : out = top10 h := bits_of_eq hpk.1 hpk.2.1 hpk.2.2.2 rfl (top10_byt hc2) (top10_bits hc2)
  subst hout
  have S := S.fb hF
  have SC := S.pick [false, false, true, true, true] rfl
  refine Ho.on SC ?_
  refine Ho.take (i := 27) SC Pp.body rfl (by kernel_rfl) (by kernel_rfl) (by kernel_rfl) rfl rfl ?_
  refine qmv rfl rfl rfl rfl ?_
  refine Ho.back ?_
  refine Ho.take (i := 28) SC Pp.body rfl (by kernel_rfl) (by kernel_rfl) (by kernel_rfl) rfl rfl ?_
  refine qextr rfl rfl rfl rfl rfl ?_
  refine Ho.back ?_
  refine Ho.take (i := 29) SC Pp.body rfl (by kernel_rfl) (by kernel_rfl) (by kernel_rfl) rfl rfl ?_
  refine qextr rfl rfl rfl rfl rfl ?_
  refine Ho.back ?_
  refine Ho.take (i := 30) SC Pp.body rfl (by kernel_rfl) (by kernel_rfl) (by kernel_rfl) rfl rfl ?_
  refine qasg rfl rfl rfl rfl ?_
  refine Ho.back ?_
  refine Ho.take (i := 31) SC Pp.body rfl (by kernel_rfl) (by kernel_rfl) (by kernel_rfl) rfl rfl ?_
  refine qasg rfl rfl rfl rfl ?_
  refine Ho.back ?_
  refine Ho.done (by kernel_rfl) ?_
  refine Nrm.code ?_
  refine Run.seq ?_
  refine Run.seq ?_
  refine Run.region ?_
  refine mv1 rfl rfl ?_
  refine neq1 rfl rfl rfl ?_
  refine Ro.nil ?_
  refine Nrm.code ?_
  refine Run.cond rfl (fun hc8 => ?_) (fun hc8 => ?_)
  ·
   try simp only [Bool.or_eq_true, Bool.and_eq_true, Bool.or_eq_false_iff, Bool.and_eq_false_iff, decide_eq_true_eq, decide_eq_false_iff_not, Bool.not_eq_true', Bool.not_eq_false', Bool.not_eq_true, Bool.not_eq_false] at hc8
   exfalso; exact hc8 rfl
  ·
   try simp only [Bool.or_eq_true, Bool.and_eq_true, Bool.or_eq_false_iff, Bool.and_eq_false_iff, decide_eq_true_eq, decide_eq_false_iff_not, Bool.not_eq_true', Bool.not_eq_false', Bool.not_eq_true, Bool.not_eq_false] at hc8
   refine Run.skip ?_
   refine Nrm.code ?_
   refine Run.seq ?_
   refine Run.region ?_
   refine mv1 rfl rfl ?_
   refine fld (o' := 7) rfl fo28_7 rfl rfl rfl rfl ?_
   refine fld (o' := 8) rfl fo24_1 rfl rfl rfl rfl ?_
   refine slAT rfl Tryd.underlying22 T5 rfl rfl rfl (i2 := some 4) ⟨_, _, _, rfl, rfl⟩ rfl (by decide) (by decide) ?_
   refine apB rfl rfl e26 (b := four4 h.src) ⟨four4_byt hs, S.varSl (i := 4) (m := 4) (sz := 1) rfl rfl rfl (by decide)⟩ S (i := 0) rfl rfl (fun _ => rfl) (by first | omega | (simp only [List.length_nil, List.length_append, List.length_cons]; omega)) ?_
   intro v64 w11 S B_
   refine asg1 rfl rfl ?_
   refine Ro.nil ?_
   refine Nrm.code ?_
   refine Run.seq ?_
   refine Run.region ?_
   refine mv1 rfl rfl ?_
   refine fld (o' := 24) rfl fo28_8 rfl rfl rfl rfl ?_
   refine fld (o' := 25) rfl fo24_1 rfl rfl rfl rfl ?_
   refine slAT rfl Tryd.underlying22 T5 rfl rfl rfl (i2 := some 4) ⟨_, _, _, rfl, rfl⟩ rfl (by decide) (by decide) ?_
   refine apB rfl rfl e26 (b := four4 h.dst) ⟨four4_byt ht, S.varSl (i := 4) (m := 4) (sz := 1) rfl rfl rfl (by decide)⟩ S (i := 0) rfl rfl (fun _ => rfl) (by first | omega | (simp only [List.length_nil, List.length_append, List.length_cons]; omega)) ?_
   intro v69 w12 S B_
   refine asg1 rfl rfl ?_
   refine Ro.nil ?_
   refine Nrm.code ?_
   refine Run.seq ?_
   refine Run.region ?_
   refine mv1 rfl rfl ?_
   refine mv1 rfl rfl ?_
   refine apB rfl rfl e26 (S.bsI (i := 3) rfl hpb) S (i := 0) rfl rfl (fun _ => rfl) (by first | omega | (simp only [List.length_nil, List.length_append, List.length_cons]; omega)) ?_
   intro v72 w13 S B_
   refine asg1 rfl rfl ?_
   refine Ro.nil ?_
   refine Nrm.code ?_
   refine Run.seq ?_
   refine Run.region ?_
   refine mv1 rfl rfl ?_
   refine bsl e102 (qs := [(_, _)]) ⟨⟨_, _, _, rfl, rfl, cells1 (S.slI (i := 0) rfl).one, rfl, List.cons_ne_nil _ _⟩, trivial⟩ rfl rfl rfl rfl S ?_
   intro u74 w14 S B_
   have hck : CallsD Tryd.prog 97 #[u74] w14 (.int .i64 (sumC h)) := by
    have := c97 u74 [headB h] w14 ⟨[v72], S.slI (i := 0) rfl, S.bsI (i := 1) rfl hXb, trivial⟩ (by rw [flat1]; omega) (by simp)
    rw [flat1] at this
    exact this
   refine calg (vs := [_]) rfl ⟨⟨_, _, rfl, rfl⟩, trivial⟩ k97 rfl (fun hG => hck) ?_
   intro w15 B_; have S := S.call B_
   refine asg1 rfl rfl ?_
   refine Ro.nil ?_
   refine Nrm.code ?_
   refine Run.seq ?_
   refine Run.region ?_
   refine mv1 rfl rfl ?_
   refine mv1 rfl rfl ?_
   refine mv1 rfl rfl ?_
   refine shr rfl rfl rfl rfl rfl rfl (fun _ => by decide) (fun _ => sh8 _) ?_
   refine cvi1 rfl rfl Tryd.underlying3 Tryd.underlying5 (w8of (y := sumC h / 256) rfl (by omega)) ?_
   refine mv1 rfl rfl ?_
   refine cvi1 rfl rfl Tryd.underlying3 Tryd.underlying5 (w8m (sumC h)) ?_
   refine ixa rfl rfl (S.slI (i := 1) rfl) e26 rfl rfl rfl rfl (fun _ => by omega) ?_
   refine stB rfl rfl T5 S (i := 1) rfl (by omega) rfl ?_
   intro w16 S
   refine ixa rfl rfl (S.slI (i := 1) rfl) e26 rfl rfl rfl rfl (fun _ => by omega) ?_
   refine stB rfl rfl T5 S (i := 1) rfl (by omega) rfl ?_
   intro w17 S
   refine Ro.nil ?_
   refine Nrm.code ?_
   refine Run.seq ?_
   refine Run.region ?_
   refine mv1 rfl rfl ?_
   refine fld (o' := 42) rfl fo28_10 rfl rfl rfl rfl ?_
   refine ld1 rfl T26 S (i := 5) rfl rfl rfl rfl rfl ?_
   refine apB rfl rfl e26 (hd.now S) S (i := 1) rfl rfl (fun _ => rfl) (by first | omega | (simp only [List.length_nil, List.length_append, List.length_cons]; omega)) ?_
   intro v88 w18 S B_
   refine asg1 rfl rfl ?_
   refine asg1 rfl rfl ?_
   refine Ro.nil ?_
   refine Nrm.code ?_
   refine Run.ret ?_
   refine Rt.two rfl rfl rfl ?_
   exact ⟨_, by rw [hc2], by rw [serL, if_pos hc2]; exact S.toFB (i := 1) rfl⟩
end Go.Proofs.YtkahmepenjhcpaaDoor.W
/- The base: what a callee may turn of its caller's; regions that draw their order, with calls that only read taken first; functions that hold variables. No statement of the seat is proved here. -/
namespace Go.Proofs.YtkahmepenjhcpaaDoor.W
open Go
set_option linter.unusedVariables false
set_option linter.unusedSimpArgs false
/-! ### what a callee turns -/
structure Tn (w w' : World) (o o' : Own) : Prop where
  os : w'.os = w.os
  tape : w'.tape = w.tape
  output : w'.output = w.output
  size : w.heap.size ≤ w'.heap.size
  keep : ∀ i, i < w.heap.size → i ∉ o.ids → w'.heap[i]? = w.heap[i]?
  hold : o'.holds w'
  ids : ∀ i ∈ o'.ids, i ∈ o.ids ∨ w.heap.size ≤ i
section
variable {N0 N1 N : List Nat} {w0 w w' : World} {L L' : List Own} {o o' : Own} {i j : Nat}
theorem St.tn (S : St N0 w0 L w) (hk : getN L i = some o) (hL : setN L i o' = some L') (T : Tn w w' o o') : St N0 w0 L' w' := by
  obtain ⟨A, B, rfl, rfl⟩ := setN_get hL hk
  exact S.turn T.os T.tape T.output T.size T.keep T.hold T.ids
theorem St.own0 (h : o.holds w) : St o.ids w [o] w :=
  ⟨rfl, rfl, rfl, Nat.le_refl _, fun _ _ _ => rfl, fun i _ h => by simpa [idsL] using h, fun p hp => by rw [List.mem_singleton.1 hp]; exact h, by simpa [idsL] using Own.ids_nodup o⟩
theorem St.toTn (S : St o.ids w L w') (hk : getN L i = some o') : Tn w w' o o' := by
  rw [getN_eq] at hk
  have hm := List.mem_of_getElem? hk
  refine ⟨S.os, S.tape, S.output, S.size, S.keep, S.hold _ hm, fun j hj => ?_⟩
  rcases Nat.lt_or_ge j w.heap.size with h | h
  · left
    rcases Classical.em (j ∈ o.ids) with h2 | h2
    · exact h2
    · exact absurd (List.mem_flatMap.2 ⟨_, hm, hj⟩) (S.off j h h2)
  · exact .inr h
theorem idsL_disj : ∀ {L : List Own} {i j : Nat} {o o' : Own}, (idsL L).Nodup → getN L i = some o → getN L j = some o' → i ≠ j → ∀ x ∈ o.ids, x ∉ o'.ids
  | [], _, _, _, _, _, h, _, _ => by simp [getN] at h
  | p :: L, 0, 0, _, _, _, _, _, hn => absurd rfl hn
  | p :: L, 0, j + 1, o, o', hd, h1, h2, _ => fun x hx hx' => by
    simp only [getN, Option.some.injEq] at h1 h2
    subst h1
    rw [getN_eq] at h2
    simp only [idsL, List.flatMap_cons] at hd
    exact (List.nodup_append.1 hd).2.2 x hx x (List.mem_flatMap.2 ⟨_, List.mem_of_getElem? h2, hx'⟩) rfl
  | p :: L, i + 1, 0, o, o', hd, h1, h2, _ => fun x hx hx' => by
    simp only [getN, Option.some.injEq] at h1 h2
    subst h2
    rw [getN_eq] at h1
    simp only [idsL, List.flatMap_cons] at hd
    exact (List.nodup_append.1 hd).2.2 x hx' x (List.mem_flatMap.2 ⟨_, List.mem_of_getElem? h1, hx⟩) rfl
  | p :: L, i + 1, j + 1, o, o', hd, h1, h2, hn => by
    simp only [getN] at h1 h2
    simp only [idsL, List.flatMap_cons] at hd
    exact idsL_disj (L := L) (List.nodup_append.1 hd).2.1 h1 h2 (by omega)
theorem St.hold_at (S : St N0 w0 L w) (hk : getN L i = some o) : o.holds w := by
  rw [getN_eq] at hk; exact S.hold _ (List.mem_of_getElem? hk)
theorem ids_sub (hk : getN L i = some o) : ∀ x ∈ o.ids, x ∈ idsL L := fun x hx => by
  rw [getN_eq] at hk; exact List.mem_flatMap.2 ⟨_, List.mem_of_getElem? hk, hx⟩
/-- bytes of one's own, beside another row -/
theorem St.bsN {v : Value} {l : List Int} (S : St N0 w0 L w) (hk : getN L i = some (oB v l)) (hj : getN L j = some o) (hn : i ≠ j) (hb : byt l) : BS o.ids w v l :=
  ⟨hb, Own.sl (S.hold_at hk) _ (idsL_disj S.nodup hk hj hn)⟩
/-- begin anew, the base by a name -/
theorem St.reb (S : St N0 w0 L w) : ∃ N, idsL L = N ∧ St N w L w := ⟨_, rfl, S.rebase⟩
theorem St.tran (S : St N0 w0 L w) (e : idsL L = N) (S' : St N w L' w') : St N0 w0 L' w' := by
  subst e; exact S.trans S'
end
/-! ### drawn regions in which calls that only read are taken first -/
section
variable {P : Program} {ops : Array Oper} {Q : Exit → Act → World → Prop} {md : Region.Mode} {C : World → Prop}
def RunsTo (P : Program) (x : Sem Next) (w : World) (v : Value) : Prop :=
  match x.run P w with
  | .ok (.value u) w' => u = v ∧ Bl w w'
  | .ok (.enter f args) w' => w' = w ∧ CallsD P f args w v
  | _ => False
def YR (P : Program) (ops : Array Oper) (C : World → Prop) (o : Oper) (v : Value) (a : Act) : Prop :=
  (Region.wanted o (yielded ops a.tmps) = true ∧ ∀ w, C w → RunsTo P (execOp a.eval o) w v) ∨ (Region.wanted o (yielded ops a.tmps) = false ∧ v = undef)
theorem YR.wpOp {i : Nat} {o : Oper} {v : Value} {a : Act} (hi : ops[i]? = some o) (hy : YR P ops C o v a) {K : Act → World → Prop} {w : World} (hS : C w) (h : ∀ w', Bl w w' → K (a.put o.dst v) w') : wpOp P ops Q i K a w := by
  unfold Go.wpOp
  simp only [hi]
  rcases hy with ⟨hw, hv⟩ | ⟨hw, rfl⟩
  · simp only [hw, if_true]
    left
    have := hv w hS
    unfold RunsTo at this
    unfold Oper.wp
    generalize (execOp a.eval o).run P w = r at *
    cases r with
    | ok n w' =>
      cases n <;> simp only [Oper.upon] at this ⊢ <;> try exact this.elim
      case value u => obtain ⟨rfl, B⟩ := this; exact h _ B
      case enter f args =>
        obtain ⟨rfl, hc⟩ := this
        refine Calls.mono hc fun e w'' he => ?_
        cases e with
        | returned u => obtain ⟨rfl, B⟩ := he; exact h _ B
        | panicked c => exact he.elim
        | outgrown => exact he.elim
    | halt x w' => cases x <;> exact this.elim
  · simp only [hw, Bool.false_eq_true, if_false]; exact h _ (Bl.refl w)
theorem YR.of_same {o : Oper} {v : Value} {a a' : Act} (hy : YR P ops C o v a) (he : execOp a'.eval o = execOp a.eval o) (hw : Region.wanted o (yielded ops a'.tmps) = Region.wanted o (yielded ops a.tmps)) : YR P ops C o v a' := by
  unfold YR at *; rw [he, hw]; exact hy
theorem wpOp_putR {j : Nat} {oi oj : Oper} {v : Value} (hj : ops[j]? = some oj) (hap : oi.apart ops oj = true)
    (hsi : ∀ cs b, oi.op ≠ .select cs b) (hsj : ∀ cs b, oj.op ≠ .select cs b)
    (hQ : ∀ c a w, Q (.panic c) (a.put oi.dst v) w → Q (.panic c) a w) {K : Act → World → Prop} {a : Act} {w : World}
    (hy : YR P ops C oi v a) (h : wpOp P ops Q j K (a.put oi.dst v) w) :
    wpOp P ops Q j (fun a' w' => YR P ops C oi v a' ∧ K (a'.put oi.dst v) w') a w := by
  obtain ⟨h1, h2, h3⟩ := Oper.apart_spec hap
  have keep : ∀ (a : Act), YR P ops C oi v a → ∀ u, YR P ops C oi v (a.put oj.dst u) := fun a hy u =>
    hy.of_same (execOp_put oi hsi a oj.dst u h3) (wanted_put oi a oj.dst u h3)
  have keepD : ∀ d, YR P ops C oi v { a with defers := d :: a.defers } := fun d => hy.of_same rfl rfl
  unfold wpOp at *
  simp only [hj] at *
  rw [wanted_put oj a oi.dst v h1] at h
  split
  · rename_i hw
    simp only [hw, if_true] at h
    rcases h with h | ⟨hasks, hlets⟩
    case inr => exact .inr ⟨by unfold Oper.asks at *; rw [execOp_put oj hsj a oi.dst v h1] at hasks; exact hasks, hlets⟩
    refine .inl ?_
    unfold Oper.wp at *
    rw [execOp_put oj hsj a oi.dst v h1] at h
    generalize (execOp a.eval oj).run P w = r at *
    cases r with
    | ok n w' =>
      cases n <;> simp only [Oper.upon] at h ⊢
      case value u => exact ⟨keep a hy u, by rw [← Act.put_comm a v u h2]; exact h⟩
      case skip => exact ⟨keep a hy _, by rw [← Act.put_comm a v undef h2]; exact h⟩
      case defer d =>
        refine ⟨keep _ (keepD d) _, ?_⟩
        rw [← Act.put_comm _ v undef h2, ← Act.put_defers]
        exact h
      case enter f args =>
        refine Calls.mono h fun e w'' he => ?_
        cases e with
        | returned u => exact ⟨keep a hy u, by rw [← Act.put_comm a v u h2]; exact he⟩
        | panicked c => exact hQ _ _ _ he
        | outgrown => exact he
      case row row args => exact Rows.mono h fun u w'' he => ⟨keep a hy u, by rw [← Act.put_comm a v u h2]; exact he⟩
    | halt x w' =>
      cases x <;> simp only [Oper.upon] at h ⊢
      case panic u => exact hQ _ _ _ h
  · rename_i hw
    simp only [hw] at h
    exact ⟨keep a hy _, by rw [← Act.put_comm a v undef h2]; exact h⟩
/-- whatever order is picked; between two operations the memory may grow -/
def wpB (P : Program) (ops : Array Oper) (Q : Exit → Act → World → Prop) (C : World → Prop) : Nat → Array Bool → Act → World → Prop
  | 0, listed, a, w => ∀ w', Bl w w' → Region.ready .any ops listed = [] ∧ Q .normal a w'
  | fuel + 1, listed, a, w => ∀ w', Bl w w' → (Region.ready .any ops listed = [] → Q .normal a w') ∧
    ∀ i ∈ Region.ready .any ops listed, wpOp P ops Q i (fun a' w'' => C w'' ∧ wpB P ops Q C fuel (listed.setIfInBounds i true) a' w'') a w'
theorem wpB_bl : ∀ {fuel : Nat} {listed : Array Bool} {a : Act} {w w' : World}, wpB P ops Q C fuel listed a w → Bl w w' → wpB P ops Q C fuel listed a w'
  | 0, _, _, _, _, h, B => fun w2 B2 => h w2 (B.trans B2)
  | _ + 1, _, _, _, _, h, B => fun w2 B2 => h w2 (B.trans B2)
theorem wpB_any : ∀ (fuel : Nat) (listed : Array Bool) (a : Act) (w : World), wpB P ops Q C fuel listed a w → wpAny P .any ops Q fuel listed a w
  | 0, _, _, w, h => h w (Bl.refl w)
  | fuel + 1, _, _, w, h => ⟨(h w (Bl.refl w)).1, fun i hi => wpOp_mono (fun a' w' h' => wpB_any fuel _ a' w' h'.2) ((h w (Bl.refl w)).2 i hi)⟩
theorem wpB_first {i : Nat} {oi : Oper} {v : Value} (hi : ops[i]? = some oi) (hsel : ∀ (j : Nat) (o : Oper) cs b, ops[j]? = some o → o.op ≠ .select cs b)
    (hQ : ∀ c a w, Q (.panic c) (a.put oi.dst v) w → Q (.panic c) a w) (hC : ∀ w w', C w → Bl w w' → C w') :
    ∀ (fuel : Nat) (listed : Array Bool) (a : Act) (w : World),
      (∀ j oj, ops[j]? = some oj → j ≠ i → listed.getD j true = false → (∀ e ∈ oj.after, Region.binds .any e = true → e.on ≠ i) → oi.apart ops oj = true) →
      i ∈ Region.ready .any ops listed → YR P ops C oi v a → C w →
      wpB P ops Q C fuel (listed.setIfInBounds i true) (a.put oi.dst v) w → wpB P ops Q C (fuel + 1) listed a w := by
  intro fuel
  induction fuel with
  | zero =>
    intro listed a w _ hr hy hS H w' B
    refine ⟨fun h => (by rw [h] at hr; cases hr), fun j hj => ?_⟩
    by_cases hji : j = i
    · subst hji; exact hy.wpOp hi (hC _ _ hS B) (fun w2 B2 => ⟨hC _ _ (hC _ _ hS B) B2, wpB_bl H (B.trans B2)⟩)
    · have := ready_mono hj hji
      rw [(H w' B).1] at this
      cases this
  | succ fuel ih =>
    intro listed a w hfree hr hy hS H w' B
    refine ⟨fun h => (by rw [h] at hr; cases hr), fun j hj => ?_⟩
    by_cases hji : j = i
    · subst hji; exact hy.wpOp hi (hC _ _ hS B) (fun w2 B2 => ⟨hC _ _ (hC _ _ hS B) B2, wpB_bl H (B.trans B2)⟩)
    · have h1 := (H w' B).2 j (ready_mono hj hji)
      obtain ⟨hjun, oj, hoj, hall⟩ := mem_ready.1 hj
      have hnot : ∀ e ∈ oj.after, Region.binds .any e = true → e.on ≠ i := fun e he hb heq => by
        have h1 := hall e he hb
        have h0 := (mem_ready.1 hr).1
        rw [heq] at h1
        rcases Nat.lt_or_ge i listed.size with h' | h'
        · simp [h'] at h0 h1; rw [h0] at h1; cases h1
        · simp [Array.getElem?_eq_none h'] at h1
      have h2 := wpOp_putR hoj (hfree j oj hoj hji hjun hnot) (fun cs b => hsel i oi cs b hi) (fun cs b => hsel j oj cs b hoj) hQ hy h1
      have hfree' : ∀ k ok, ops[k]? = some ok → k ≠ i → (listed.setIfInBounds j true).getD k true = false →
          (∀ e ∈ ok.after, Region.binds .any e = true → e.on ≠ i) → oi.apart ops ok = true := fun k ok hk hki hun hno => by
        refine hfree k ok hk hki ?_ hno
        by_cases hjk : j = k
        · subst hjk; exact hjun
        · rw [getD_set_ne true hjk] at hun; exact hun
      refine wpOp_mono (fun a' w' h3 => ⟨h3.2.1, ih (listed.setIfInBounds j true) a' w' hfree' (ready_mono hr (Ne.symm hji)) h3.1 h3.2.1 ?_⟩) h2
      rw [Array.setIfInBounds_comm _ _ hji]
      exact h3.2.2
end
def Hb (P : Program) (R : Qp) (ds : List Deferred) (n : Nat) (ops : Array Oper) (C : World → Prop) (listed : Array Bool) (l : Env) (k : List KI) (fuel : Nat) (w : World) : Prop :=
  ∀ a, En ds n l a → wpB P ops (kont P R k) C fuel listed a w
def hRb (P : Program) (R : Qp) (ops : Array Oper) (C : World → Prop) (listed : Array Bool) (k : List KI) (fuel : Nat) (w : World) : Qp := fun e a' w' =>
  match e with
  | .normal => w' = w → wpB P ops (kont P R k) C fuel listed a' w
  | _ => True
def hEb (P : Program) (R : Qp) (ops : Array Oper) (C : World → Prop) (listed : Array Bool) (k : List KI) (fuel : Nat) : Qp := fun e a' w' =>
  match e with
  | .normal => C w' ∧ wpB P ops (kont P R k) C fuel listed a' w'
  | e => kont P R k e a' w'
section
variable {P : Program} {R : Qp} {ds : List Deferred} {n : Nat} {l : Env} {k : List KI} {w w0 : World} {C : World → Prop} {ops : Array Oper} {listed : Array Bool} {fuel : Nat} {N0 : List Nat} {L : List Own}
theorem Run.heldB {id : Nat} {Lq : List Own} (hm : P.follows .mixedOrders = true) (S : St N0 w0 L w) (ks : List Bool) (hq : pickB L ks = Lq) {m : Nat} {ls : Array Bool} (hs : ops.size = m) (hl : Array.replicate m false = ls)
    (h : ∀ w', Bl w w' → St N0 w0 L w' → St N0 w0 Lq w' → Hb P R ds n ops (fun w => St N0 w0 Lq w) ls l k m w') : Run P R ds n l (.region id ops true) k w := by
  subst hs; subst hl
  exact fun a ha => wp_region_any hm (wpB_any _ _ _ _ (h _ ((St.refl [] w).drew _).bl (S.drew _) ((S.drew _).pick ks hq) a ha))
theorem Hb.take {i : Nat} {o : Oper} {ls : Array Bool} (hC : C w) (hCB : ∀ w w', C w → Bl w w' → C w') (hp : Pp R) (hi : ops[i]? = some o) (hs : Region.noSelect ops = true) (hf : Region.free .any ops listed i = true) (hr : (Region.ready .any ops listed).contains i = true) (hv : valB o.op = true) (hl : listed.setIfInBounds i true = ls)
    (h : Qo P (hRb P R ops C ls k fuel w) ds n ops C l [o] []) : Hb P R ds n ops C listed l k (fuel + 1) w := by
  subst hl
  intro a ha
  have q := h a ha
  simp only [wpQuiet] at q
  cases hw : Region.wanted o (yielded ops a.tmps) with
  | true =>
    rw [hw] at q
    simp only [if_true] at q
    obtain ⟨v, h1, h2⟩ := q
    have q2 := h2 w hC
    refine wpB_first (v := v) hi (Region.noSelect_spec hs) (fun c a w hh => (hp.kont k) c a _ _ w hh) hCB fuel listed a w (Region.free_spec hi hf) (by simpa using hr) (Or.inl ⟨hw, fun w1 hC1 => ?_⟩) hC (q2 rfl)
    have h3 := h1 w1 hC1
    unfold Oper.quietAt at h3
    unfold RunsTo
    cases hx : (execOp a.eval o).run P w1 with
    | ok nx w' =>
      obtain ⟨u, rfl⟩ := val_op hv hx
      rw [hx] at h3
      simp only [Oper.quietUpon] at h3
      exact ⟨h3.2, by rw [h3.1]; exact Bl.refl _⟩
    | halt x w' => rw [hx] at h3; exact h3.elim
  | false =>
    rw [hw] at q
    simp only [Bool.false_eq_true, if_false] at q
    exact wpB_first (v := undef) hi (Region.noSelect_spec hs) (fun c a w hh => (hp.kont k) c a _ _ w hh) hCB fuel listed a w (Region.free_spec hi hf) (by simpa using hr) (Or.inr ⟨hw, rfl⟩) hC (q w hC rfl)
theorem Hb.back {l' : Env} (h : Hb P R ds n ops C listed l' k fuel w) : Qo P (hRb P R ops C listed k fuel w) ds n ops C l' [] [] :=
  fun a ha w' hw e => h a ha
/-- a call that only reads -/
theorem Hb.call {i d : Nat} {G : Gs} {ls : Array Bool} {f : FuncId} {xs : List Operand} {vs : List Value} {at_ : Array TypeId} {v : Value} {ty : TypeId} {ps : String} {af : Array Edge} {gu : Option (Nat × Bool)} (hC : C w) (hCB : ∀ w w', C w → Bl w w' → C w') (hp : Pp R)
    (hi : ops[i]? = some { dst := some d, op := .call { callee := .value (.func f), args := xs.toArray, argTypes := at_ }, type := ty, pos := ps, after := af, guard := gu })
    (hs : Region.noSelect ops = true) (hf : Region.free .any ops listed i = true) (hr : (Region.ready .any ops listed).contains i = true) (hl : listed.setIfInBounds i true = ls)
    (hG : gd ops l gu = some G) (hx : Evs l G xs vs) (hk : Callable P f) (hn : Nat.blt d n = true) (hc : allT G → ∀ w, C w → CallsD P f vs.toArray w v)
    (h : Hb P R ds n ops C ls ((d, G, v) :: l) k fuel w) : Hb P R ds n ops C listed l k (fuel + 1) w := by
  subst hl
  intro a ha
  have hn' : d < n := by simpa [Nat.blt_eq] using hn
  cases hw : Region.wanted { dst := some d, op := .call { callee := .value (.func f), args := xs.toArray, argTypes := at_ }, type := ty, pos := ps, after := af, guard := gu } (yielded ops a.tmps) with
  | true =>
    have hw' := hw
    rw [gd_wanted ha hG] at hw'
    have hT := (allB_iff G).1 hw'
    refine wpB_first (v := v) hi (Region.noSelect_spec hs) (fun c a w hh => (hp.kont k) c a _ _ w hh) hCB fuel listed a w (Region.free_spec hi hf) (by simpa using hr) (Or.inl ⟨hw, fun w1 hC1 => ?_⟩) hC (h _ (ha.put_true hn' hT v))
    have hr := call_run (P := P) (w := w1) (d := d) (ty := ty) (ps := ps) (af := af) (gu := gu) (at_ := at_) hk (Evs.eval ha hT hx)
    unfold RunsTo
    rw [hr]
    exact ⟨rfl, hc hT w1 hC1⟩
  | false =>
    have hw' := hw
    rw [gd_wanted ha hG] at hw'
    have hT : ¬ allT G := fun hT => by rw [(allB_iff G).2 hT] at hw'; cases hw'
    exact wpB_first (v := undef) hi (Region.noSelect_spec hs) (fun c a w hh => (hp.kont k) c a _ _ w hh) hCB fuel listed a w (Region.free_spec hi hf) (by simpa using hr) (Or.inr ⟨hw, rfl⟩) hC (h _ (ha.put_false hn' hT v))
theorem Hb.on {l' : Env} (hC : C w) (h : Hb P R ds n ops C listed l' k fuel w) : Ro P (hEb P R ops C listed k fuel) ds n ops l' [] [] w :=
  fun a ha => ⟨hC, h a ha⟩
theorem Hb.done (hr : Region.ready .any ops listed = []) (h : ∀ w', Bl w w' → Nrm P R ds n l k w') : Hb P R ds n ops C listed l k fuel w := by
  intro a ha
  cases fuel with
  | zero => exact fun w' B => ⟨hr, h w' B a ha⟩
  | succ m => exact fun w' B => ⟨fun _ => h w' B a ha, by rw [hr]; simp⟩
theorem wp_hEb {o : Oper} {a : Act} {K : Act → World → Prop} (h : o.wp P a w K (hEb P R ops C listed k fuel)) : o.wp P a w K (kont P R k) := by
  unfold Oper.wp at *
  generalize (execOp a.eval o).run P w = r at *
  cases r with
  | ok n w' =>
    cases n <;> simp only [Oper.upon] at h ⊢ <;> try exact h
  | halt x w' => cases x <;> simp only [Oper.upon] at h ⊢ <;> exact h
theorem Hb.eff {i : Nat} {o : Oper} {ls : Array Bool} (hi : ops[i]? = some o) (hl : listed.setIfInBounds i true = ls) (h : Ro P (hEb P R ops C ls k fuel) ds n ops l [o] [] w) :
    ∀ a, En ds n l a → wpOp P ops (kont P R k) i (fun a' w' => C w' ∧ wpB P ops (kont P R k) C fuel (listed.setIfInBounds i true) a' w') a w := by
  subst hl
  intro a ha
  have q := h a ha
  unfold wpOp
  simp only [hi]
  simp only [wpList] at q
  split
  · rename_i hw
    rw [if_pos hw] at q
    rcases q with q | q
    · exact Or.inl (wp_hEb q)
    · exact Or.inr ⟨q.1, q.2⟩
  · rename_i hw
    rw [if_neg hw] at q
    exact q
theorem Hb.one {i : Nat} {o : Oper} {ls : Array Bool} (hr : Region.ready .any ops listed = [i]) (hi : ops[i]? = some o) (hl : listed.setIfInBounds i true = ls) (h : ∀ w', Bl w w' → Ro P (hEb P R ops C ls k fuel) ds n ops l [o] [] w') :
    Hb P R ds n ops C listed l k (fuel + 1) w :=
  fun a ha w' B => ⟨fun e => by rw [hr] at e; simp at e, fun j hj => by
    rw [hr, List.mem_singleton] at hj; rw [hj]; exact Hb.eff hi hl (h w' B) a ha⟩
theorem Hb.two {i i' : Nat} {o o' : Oper} {ls ls' : Array Bool} (hr : Region.ready .any ops listed = [i, i']) (hi : ops[i]? = some o) (hi' : ops[i']? = some o') (hl : listed.setIfInBounds i true = ls) (hl' : listed.setIfInBounds i' true = ls')
    (h : ∀ w', Bl w w' → Ro P (hEb P R ops C ls k fuel) ds n ops l [o] [] w') (h' : ∀ w', Bl w w' → Ro P (hEb P R ops C ls' k fuel) ds n ops l [o'] [] w') :
    Hb P R ds n ops C listed l k (fuel + 1) w :=
  fun a ha w' B => ⟨fun e => by rw [hr] at e; simp at e, fun j hj => by
    rw [hr] at hj
    simp only [List.mem_cons, List.not_mem_nil, or_false] at hj
    rcases hj with e | e
    · rw [e]; exact Hb.eff hi hl (h w' B) a ha
    · rw [e]; exact Hb.eff hi' hl' (h' w' B) a ha⟩
/-! ### calling a function that holds variables -/
theorem callC {f : FuncId} {xs : List Operand} {vs caps : List Value} {at_ : Array TypeId} {Rr : Value → World → Prop} {d : Nat} {ty : TypeId} {ps : String} {af : Array Edge} {c : Operand} {os : List Oper}
    (hf : ev l c = some ([], .func (.func f) #[] caps.toArray)) (hx : Evs l [] xs vs) (hk : Callable P f) (hn : Nat.blt d n = true) (hc : CallsV P f (vs ++ caps).toArray w Rr)
    (h : ∀ v w', Rr v w' → Ro P R ds n ops ((d, [], v) :: l) os k w') :
    Ro P R ds n ops l ({ dst := some d, op := .call { callee := .value c, args := xs.toArray, argTypes := at_ }, type := ty, pos := ps, after := af, guard := none } :: os) k w := by
  intro a ha
  have hn' : d < n := by simpa [Nat.blt_eq] using hn
  refine wpList_of (fun _ => ?_) (fun hw => by simp [Region.wanted] at hw)
  have hr : (execOp a.eval { dst := some d, op := .call { callee := .value c, args := xs.toArray, argTypes := at_ }, type := ty, pos := ps, after := af, guard := none }).run P w = .ok (.enter f (vs ++ caps).toArray) w := by
    obtain ⟨fn, h1, h2, h3⟩ := hk.ex
    have h4 : xs.toArray.map a.eval = vs.toArray := by rw [← Evs.eval ha (show allT [] from trivial) hx]; simp
    have h2' : ¬ fn.name = "runtime.NumGoroutine" := by simpa using h2
    have h3' : ¬ fn.body = none := by intro e; rw [e] at h3; cases h3
    simp only [execOp, resolve, ha.eval hf trivial, Deferred.ofValue]
    simp [invoke, callFunc, program, h1, h2', h3', bind, Sem.bind, pure, Sem.run, h4]
  simp only [Oper.wp, hr, Oper.upon]
  refine Calls.mono hc ?_
  intro e w' r
  cases e with
  | returned v => exact h v w' r _ (ha.put_nil hn' v)
  | panicked ch => exact r.elim
  | outgrown => exact r.elim
end
end Go.Proofs.YtkahmepenjhcpaaDoor.W
