/- Contracts: addresses. No statement of the seat is proved here. -/
import Derived.Test.YtkahmepenjhcpaaDoorCe
import Derived.Test.YtkahmepenjhcpaaDoorFi
namespace Go.Proofs.YtkahmepenjhcpaaDoor.W
open Go
set_option linter.unusedSimpArgs false
set_option linter.unusedVariables false


theorem slAT {P : Program} {R : Qp} {ds : List Deferred} {n : Nat} {l : Env} {k : List KI} {w : World} {ops : Array Oper} {os : List Oper} {d : Nat} {G gx ex : Gs} {ty : TypeId} {ps : String} {af : Array Edge} {gu : Option (Nat × Bool)} {x : Operand}
    {T E : TypeId} {m hi b off sz : Nat} {ag : Bool} {zc : List Value} {o2 : Option Operand} {i2 : Option Nat} (hx : ev l x = some (gx, .pointer (some ⟨b, off, none⟩))) (hu : P.underlying T = some (.array m E)) (hi' : TyI P E sz ag zc)
    (hG : gd ops l gu = some G) (hpx : G = gx ++ ex) (hn : Nat.blt d n = true) (h2 : bnd l G o2 i2) (e2 : i2.getD m = hi) (hb : Nat.ble hi m = true) (h0 : m ≠ 0)
    (h : Ro P R ds n ops ((d, G, .slice (some ⟨b, off, none⟩) hi m) :: l) os k w) :
    Ro P R ds n ops l ({ dst := some d, op := .slice T x none o2 none, type := ty, pos := ps, after := af, guard := gu } :: os) k w := by
  obtain ⟨ei, _, _, he, _⟩ := hi'.get
  exact slA hx hu he hG hpx hn h2 e2 hb h0 h
theorem four_of {l : List Int} (h : l.length = 4) : ∃ a b c d, l = [a, b, c, d] := by
  rcases l with _ | ⟨a, _ | ⟨b, _ | ⟨c, _ | ⟨d, _ | ⟨e, l⟩⟩⟩⟩⟩ <;> simp at h
  exact ⟨a, b, c, d, rfl⟩
def ipOf (l : List Int) (i : Nat) : IP := ip4of (l.getD i 0) (l.getD (i + 1) 0) (l.getD (i + 2) 0) (l.getD (i + 3) 0)
def ipPre (l : List Int) (k i : Nat) : IP := ⟨4, fun j => if j < i then l.getD (k + j) 0 else 0⟩
theorem encIP_put (v : Int) (f : Nat → Int) (x : Int) : ∀ i, i < 16 → putN (encIP ⟨v, f⟩) (1 + i) [u8 x] = some (encIP ⟨v, fun j => if j = i then x else f j⟩)
  | 0, _ => rfl | 1, _ => rfl | 2, _ => rfl | 3, _ => rfl | 4, _ => rfl | 5, _ => rfl | 6, _ => rfl | 7, _ => rfl
  | 8, _ => rfl | 9, _ => rfl | 10, _ => rfl | 11, _ => rfl | 12, _ => rfl | 13, _ => rfl | 14, _ => rfl | 15, _ => rfl
  | n + 16, h => by omega
theorem encIP_all1 (x : IP) : ∀ u ∈ encIP x, u.oneCell' = true := by simp [encIP, Value.oneCell', u8, i64]
theorem encIP_get (x : IP) : ∀ i, i < 16 → getN (encIP x) (1 + i) = some (u8 (x.a i)) := fun i h => by rw [getN_eq]; exact encIP_at x i h
theorem encIP_put' {v : Int} {f g : Nat → Int} {x : Int} {i : Nat} (hi : i < 16) (hg : ∀ j, g j = if j = i then x else f j) {c' : List Value} (hc : c' = encIP ⟨v, g⟩) : putN (encIP ⟨v, f⟩) (1 + i) [u8 x] = some c' := by
  have e : g = fun j => if j = i then x else f j := funext hg
  rw [hc, e]; exact encIP_put v f x i hi
theorem fourB_def {x : IP} : fourB x = (decide (x.v = 4) && sameA x.a (fun i => if i < 4 then x.a i else 0)) := by
  unfold fourB sameA
  congr 1
  congr 1
  funext i
  by_cases h : i < 4 <;> simp [h]
def zeroFrom (x : IP) (i : Nat) : Prop := ∀ j, 4 ≤ j → j < i → x.a j = 0
theorem fourB_of {x : IP} {i : Nat} (h : zeroFrom x i) (hi : 16 ≤ i) : fourB x = decide (x.v = 4) := by
  unfold fourB
  have : (List.range 16).all (fun i => decide (i < 4) || decide (x.a i = 0)) = true := by
    simp only [List.all_eq_true, List.mem_range, Bool.or_eq_true, decide_eq_true_eq]
    intro j hj
    rcases Nat.lt_or_ge j 4 with h4 | h4
    · exact Or.inl h4
    · exact Or.inr (h j h4 (by omega))
  rw [this]; simp
theorem fourB_no {x : IP} {i : Nat} (h4 : 4 ≤ i) (hi : i < 16) (h : x.a i ≠ 0) : fourB x = false := by
  unfold fourB
  have : (List.range 16).all (fun i => decide (i < 4) || decide (x.a i = 0)) = false := by
    rw [List.all_eq_false]
    exact ⟨i, by simpa using hi, by simp [h]; omega⟩
  rw [this]; simp

set_option maxHeartbeats 1000000 in
theorem c103 (v : Value) (l : List Int) (w : World) (hl : BS [] w v l) (h4 : l.length = 4) :
    CallsD Tryd.prog 103 #[v] w (.agg (encIP (ipOf l 0)).toArray) := by
  refine enter Tryd.func103 rfl Tryd.ntmps103 (l := [(0, [], _)]) rfl rfl ?_
  have S := St.refl [] w
  obtain ⟨a, b, c, d, rfl⟩ := four_of h4
  refine Run.seq ?_
  refine Run.region ?_
  refine alc T24 S rfl ?_
  intro b2 w1 hb2 S B_
  refine Ro.nil ?_
  refine Nrm.code ?_
  refine Run.seq ?_
  refine Run.region ?_
  refine bld B24 (qs := [(_, _)]) ⟨⟨_, _, _, rfl, rfl, rfl, rfl, by simp [Value.cells]⟩, trivial⟩ rfl rfl rfl ?_
  refine alc T24 S rfl ?_
  intro b3 w2 hb3 S B_
  refine stW rfl rfl T24 rfl rfl (by simp [Value.oneCell']) S (i := 0) rfl rfl ?_
  intro w3 S
  refine Ro.nil ?_
  refine Nrm.code ?_
  refine Run.seq ?_
  refine Run.region ?_
  refine fld (o' := 1) rfl fo24_1 rfl rfl rfl rfl ?_
  refine slAT rfl Tryd.underlying22 T5 rfl rfl rfl (i2 := some 4) ⟨_, _, _, rfl, rfl⟩ rfl (by decide) (by decide) ?_
  refine mv1 rfl rfl ?_
  refine cpV (ys := [u8 a, u8 b, u8 c, u8 d]) rfl rfl e26 (hl.now S).2 (by simp [Value.oneCell']) (by decide) S (i := 0) rfl rfl rfl rfl ?_
  intro wc S
  refine Ro.nil ?_
  refine Nrm.code ?_
  refine Run.seq ?_
  refine Run.region ?_
  refine ldW rfl T24 S (i := 0) rfl rfl rfl rfl rfl ?_
  refine stW rfl rfl T24 rfl rfl (by simp [Value.oneCell']) S (i := 1) rfl rfl ?_
  intro w4 S
  refine Ro.nil ?_
  refine Nrm.code ?_
  refine Run.ret ?_
  refine Rt.cell1 rfl rfl T24 S (i := 1) rfl rfl ?_
  exact ⟨rfl, S.bl⟩

set_option maxHeartbeats 1000000 in
theorem c156 (x : IP) (w : World) :
    CallsD Tryd.prog 156 #[.agg (encIP x).toArray] w (.bool (fourB x)) := by
  refine enter Tryd.func156 rfl Tryd.ntmps156 (l := [(0, [], _)]) rfl rfl ?_
  have S := St.refl [] w
  refine Run.seq ?_
  refine Run.region ?_
  refine boxA rfl S rfl ?_
  intro b1 w1 hb1 S B_
  refine asg1 rfl rfl ?_
  refine Ro.nil ?_
  refine Nrm.code ?_
  refine Run.seq ?_
  refine Run.seq ?_
  refine Run.region ?_
  refine asg1 rfl rfl ?_
  refine Ro.nil ?_
  refine Nrm.code ?_
  refine Run.block ?_
  refine Run.loop2 (fun (i : Nat) (b1 : Nat) w_ => 4 ≤ i ∧ i ≤ 16 ∧ zeroFrom x i ∧ St [] w [.var b1 24 (encIP x)] w_) (fun (i : Nat) (b1 : Nat) => [(1, [], .pointer (some ⟨b1, 0, none⟩)), (3, [], .int .i64 i)]) (fun (i : Nat) (b1 : Nat) => 16 - i) (4) (b1) ⟨Nat.le_refl _, by omega, fun j h1 h2 => by omega, S⟩ ⟨rfl, rfl, trivial⟩ ?_
  rintro i b1 w2 ⟨h4, hi, hz, S⟩
  refine Run.seq ?_
  refine Run.seq ?_
  refine Run.region ?_
  refine mv1 rfl rfl ?_
  refine lss1 rfl rfl rfl ?_
  refine Ro.nil ?_
  refine Nrm.code ?_
  refine Run.cond rfl (fun hc2 => ?_) (fun hc2 => ?_)
  ·
    try simp only [Bool.or_eq_true, Bool.and_eq_true, Bool.or_eq_false_iff, Bool.and_eq_false_iff, decide_eq_true_eq, decide_eq_false_iff_not, Bool.not_eq_true', Bool.not_eq_false', Bool.not_eq_true, Bool.not_eq_false] at hc2
    refine Run.skip ?_
    refine Nrm.code ?_
    refine Run.seq ?_
    refine Run.block ?_
    refine Run.seq ?_
    refine Run.region ?_
    refine mv1 rfl rfl ?_
    refine fld (o' := 1) rfl fo24_1 rfl rfl rfl rfl ?_
    refine ixP rfl rfl Tryd.underlying22 T5 rfl rfl rfl rfl (fun _ => by omega) rfl ?_
    refine ld1 rfl T5 S (i := 0) rfl (v := u8 (x.a i)) (by rw [show 1 + (i : Int).toNat * 1 = 1 + i from by omega]; exact encIP_get x i (by omega)) rfl rfl rfl ?_
    refine neq1 rfl rfl rfl ?_
    refine Ro.nil ?_
    refine Nrm.code ?_
    refine Run.cond rfl (fun hc4 => ?_) (fun hc4 => ?_)
    ·
      try simp only [Bool.or_eq_true, Bool.and_eq_true, Bool.or_eq_false_iff, Bool.and_eq_false_iff, decide_eq_true_eq, decide_eq_false_iff_not, Bool.not_eq_true', Bool.not_eq_false', Bool.not_eq_true, Bool.not_eq_false] at hc4
      refine Run.seq ?_
      refine Run.region ?_
      refine asg1 rfl rfl ?_
      refine Ro.nil ?_
      refine Nrm.code ?_
      refine Run.ret ?_
      refine Rt.one rfl rfl ?_
      exact ⟨by rw [fourB_no h4 (by omega) hc4], S.bl⟩
    ·
      try simp only [Bool.or_eq_true, Bool.and_eq_true, Bool.or_eq_false_iff, Bool.and_eq_false_iff, decide_eq_true_eq, decide_eq_false_iff_not, Bool.not_eq_true', Bool.not_eq_false', Bool.not_eq_true, Bool.not_eq_false] at hc4
      have hz4 : x.a i = 0 := by omega
      refine Run.skip ?_
      refine Nrm.blk ?_
      refine Nrm.code ?_
      refine Run.region ?_
      refine mv1 rfl rfl ?_
      refine add1 rfl rfl rfl (w64 (by omega)) ?_
      refine asg1 rfl rfl ?_
      refine Ro.nil ?_
      refine Nrm.loop2 (i + 1) (b1) ⟨by omega, by omega, fun j h1 h2 => by rcases Nat.lt_or_ge j i with h | h; exact hz j h1 h; exact (show j = i by omega) ▸ hz4, S⟩ (by omega) ⟨rfl, rfl, trivial⟩
  ·
    try simp only [Bool.or_eq_true, Bool.and_eq_true, Bool.or_eq_false_iff, Bool.and_eq_false_iff, decide_eq_true_eq, decide_eq_false_iff_not, Bool.not_eq_true', Bool.not_eq_false', Bool.not_eq_true, Bool.not_eq_false] at hc2
    refine Run.exit ?_
    refine Lv.code ?_
    refine Lv.back ?_
    refine Lv.hit ?_
    refine Nrm.code ?_
    refine Run.seq ?_
    refine Run.region ?_
    refine fld (o' := 0) rfl fo24_0 rfl rfl rfl rfl ?_
    refine ld1 rfl T3 S (i := 0) rfl rfl rfl rfl rfl ?_
    refine eql1 rfl rfl rfl ?_
    refine asg1 rfl rfl ?_
    refine Ro.nil ?_
    refine Nrm.code ?_
    refine Run.ret ?_
    refine Rt.one rfl rfl ?_
    exact ⟨by rw [fourB_of hz (by omega)], S.bl⟩

set_option maxHeartbeats 1000000 in
theorem c158 (x : IP) (w : World) :
    CallsD Tryd.prog 158 #[.agg (encIP x).toArray] w (.int .i64 (verI x)) := by
  refine enter Tryd.func158 rfl Tryd.ntmps158 (l := [(0, [], _)]) rfl rfl ?_
  have S := St.refl [] w
  refine Run.seq ?_
  refine Run.region ?_
  refine boxA rfl S rfl ?_
  intro b1 w1 hb1 S B_
  refine asg1 rfl rfl ?_
  refine Ro.nil ?_
  refine Nrm.code ?_
  refine Run.seq ?_
  refine Run.seq ?_
  refine Run.region ?_
  refine fld (o' := 0) rfl fo24_0 rfl rfl rfl rfl ?_
  refine ld1 rfl T3 S (i := 0) rfl rfl rfl rfl rfl ?_
  refine eql1 rfl rfl rfl ?_
  refine Ro.nil ?_
  refine Nrm.code ?_
  refine Run.cond rfl (fun hc1 => ?_) (fun hc1 => ?_)
  ·
    try simp only [Bool.or_eq_true, Bool.and_eq_true, Bool.or_eq_false_iff, Bool.and_eq_false_iff, decide_eq_true_eq, decide_eq_false_iff_not, Bool.not_eq_true', Bool.not_eq_false', Bool.not_eq_true, Bool.not_eq_false] at hc1
    refine Run.seq ?_
    refine Run.region ?_
    refine asg1 rfl rfl ?_
    refine Ro.nil ?_
    refine Nrm.code ?_
    refine Run.ret ?_
    refine Rt.one rfl rfl ?_
    exact ⟨by rw [verI, if_pos hc1], S.bl⟩
  ·
    try simp only [Bool.or_eq_true, Bool.and_eq_true, Bool.or_eq_false_iff, Bool.and_eq_false_iff, decide_eq_true_eq, decide_eq_false_iff_not, Bool.not_eq_true', Bool.not_eq_false', Bool.not_eq_true, Bool.not_eq_false] at hc1
    refine Run.skip ?_
    refine Nrm.code ?_
    refine Run.seq ?_
    refine Run.seq ?_
    refine Run.region ?_
    refine asg1 rfl rfl ?_
    refine Ro.nil ?_
    refine Nrm.code ?_
    refine Run.block ?_
    refine Run.loop2 (fun (i : Nat) (b1 : Nat) w_ => 4 ≤ i ∧ i ≤ 16 ∧ zeroFrom x i ∧ St [] w [.var b1 24 (encIP x)] w_) (fun (i : Nat) (b1 : Nat) => [(1, [], .pointer (some ⟨b1, 0, none⟩)), (3, [], .int .i64 i)]) (fun (i : Nat) (b1 : Nat) => 16 - i) (4) (b1) ⟨Nat.le_refl _, by omega, fun j h1 h2 => by omega, S⟩ ⟨rfl, rfl, trivial⟩ ?_
    rintro i b1 w2 ⟨h4, hi, hz, S⟩
    refine Run.seq ?_
    refine Run.seq ?_
    refine Run.region ?_
    refine mv1 rfl rfl ?_
    refine lss1 rfl rfl rfl ?_
    refine Ro.nil ?_
    refine Nrm.code ?_
    refine Run.cond rfl (fun hc4 => ?_) (fun hc4 => ?_)
    ·
      try simp only [Bool.or_eq_true, Bool.and_eq_true, Bool.or_eq_false_iff, Bool.and_eq_false_iff, decide_eq_true_eq, decide_eq_false_iff_not, Bool.not_eq_true', Bool.not_eq_false', Bool.not_eq_true, Bool.not_eq_false] at hc4
      refine Run.skip ?_
      refine Nrm.code ?_
      refine Run.seq ?_
      refine Run.block ?_
      refine Run.seq ?_
      refine Run.region ?_
      refine mv1 rfl rfl ?_
      refine fld (o' := 1) rfl fo24_1 rfl rfl rfl rfl ?_
      refine ixP rfl rfl Tryd.underlying22 T5 rfl rfl rfl rfl (fun _ => by omega) rfl ?_
      refine ld1 rfl T5 S (i := 0) rfl (v := u8 (x.a i)) (by rw [show 1 + (i : Int).toNat * 1 = 1 + i from by omega]; exact encIP_get x i (by omega)) rfl rfl rfl ?_
      refine neq1 rfl rfl rfl ?_
      refine Ro.nil ?_
      refine Nrm.code ?_
      refine Run.cond rfl (fun hc6 => ?_) (fun hc6 => ?_)
      ·
        try simp only [Bool.or_eq_true, Bool.and_eq_true, Bool.or_eq_false_iff, Bool.and_eq_false_iff, decide_eq_true_eq, decide_eq_false_iff_not, Bool.not_eq_true', Bool.not_eq_false', Bool.not_eq_true, Bool.not_eq_false] at hc6
        refine Run.seq ?_
        refine Run.region ?_
        refine asg1 rfl rfl ?_
        refine Ro.nil ?_
        refine Nrm.code ?_
        refine Run.ret ?_
        refine Rt.one rfl rfl ?_
        exact ⟨by rw [verI, if_neg hc1, fourB_no h4 (by omega) hc6]; rfl, S.bl⟩
      ·
        try simp only [Bool.or_eq_true, Bool.and_eq_true, Bool.or_eq_false_iff, Bool.and_eq_false_iff, decide_eq_true_eq, decide_eq_false_iff_not, Bool.not_eq_true', Bool.not_eq_false', Bool.not_eq_true, Bool.not_eq_false] at hc6
        have hz4 : x.a i = 0 := by omega
        refine Run.skip ?_
        refine Nrm.blk ?_
        refine Nrm.code ?_
        refine Run.region ?_
        refine mv1 rfl rfl ?_
        refine add1 rfl rfl rfl (w64 (by omega)) ?_
        refine asg1 rfl rfl ?_
        refine Ro.nil ?_
        refine Nrm.loop2 (i + 1) (b1) ⟨by omega, by omega, fun j h1 h2 => by rcases Nat.lt_or_ge j i with h | h; exact hz j h1 h; exact (show j = i by omega) ▸ hz4, S⟩ (by omega) ⟨rfl, rfl, trivial⟩
    ·
      try simp only [Bool.or_eq_true, Bool.and_eq_true, Bool.or_eq_false_iff, Bool.and_eq_false_iff, decide_eq_true_eq, decide_eq_false_iff_not, Bool.not_eq_true', Bool.not_eq_false', Bool.not_eq_true, Bool.not_eq_false] at hc4
      refine Run.exit ?_
      refine Lv.code ?_
      refine Lv.back ?_
      refine Lv.hit ?_
      refine Nrm.code ?_
      refine Run.seq ?_
      refine Run.seq ?_
      refine Run.region ?_
      refine fld (o' := 0) rfl fo24_0 rfl rfl rfl rfl ?_
      refine ld1 rfl T3 S (i := 0) rfl rfl rfl rfl rfl ?_
      refine eql1 rfl rfl rfl ?_
      refine Ro.nil ?_
      refine Nrm.code ?_
      refine Run.cond rfl (fun hc8 => ?_) (fun hc8 => ?_)
      ·
        try simp only [Bool.or_eq_true, Bool.and_eq_true, Bool.or_eq_false_iff, Bool.and_eq_false_iff, decide_eq_true_eq, decide_eq_false_iff_not, Bool.not_eq_true', Bool.not_eq_false', Bool.not_eq_true, Bool.not_eq_false] at hc8
        refine Run.seq ?_
        refine Run.region ?_
        refine asg1 rfl rfl ?_
        refine Ro.nil ?_
        refine Nrm.code ?_
        refine Run.ret ?_
        refine Rt.one rfl rfl ?_
        exact ⟨by rw [verI, if_neg hc1, fourB_of hz (by omega), decide_eq_true hc8]; rfl, S.bl⟩
      ·
        try simp only [Bool.or_eq_true, Bool.and_eq_true, Bool.or_eq_false_iff, Bool.and_eq_false_iff, decide_eq_true_eq, decide_eq_false_iff_not, Bool.not_eq_true', Bool.not_eq_false', Bool.not_eq_true, Bool.not_eq_false] at hc8
        refine Run.skip ?_
        refine Nrm.code ?_
        refine Run.seq ?_
        refine Run.region ?_
        refine asg1 rfl rfl ?_
        refine Ro.nil ?_
        refine Nrm.code ?_
        refine Run.ret ?_
        refine Rt.one rfl rfl ?_
        exact ⟨by rw [verI, if_neg hc1, fourB_of hz (by omega), decide_eq_false hc8]; rfl, S.bl⟩

set_option maxHeartbeats 1000000 in
theorem c113 (v : Value) (l : List Int) (k : Nat) (w : World) (hl : BS [] w v l) (hk : k + 4 ≤ l.length) (hll : l.length ≤ 1099511627776) :
    CallsD Tryd.prog 113 #[v, .int .i64 k] w (.agg (encIP (ipOf l k)).toArray) := by
  refine enter Tryd.func113 rfl Tryd.ntmps113 (l := [(0, [], _), (1, [], _)]) rfl rfl ?_
  have S := St.refl [] w
  refine Run.seq ?_
  refine Run.region ?_
  refine alc T24 S rfl ?_
  intro b4 w1 hb4 S B_
  refine Ro.nil ?_
  refine Nrm.code ?_
  refine Run.seq ?_
  refine Run.region ?_
  refine bld B24 (qs := [(_, _)]) ⟨⟨_, _, _, rfl, rfl, rfl, rfl, by simp [Value.cells]⟩, trivial⟩ rfl rfl rfl ?_
  refine alc T24 S rfl ?_
  intro b5 w2 hb5 S B_
  refine stW rfl rfl T24 rfl rfl (by simp [Value.oneCell']) S (i := 0) rfl rfl ?_
  intro w3 S
  refine Ro.nil ?_
  refine Nrm.code ?_
  refine Run.seq ?_
  refine Run.seq ?_
  refine Run.region ?_
  refine asg1 rfl rfl ?_
  refine Ro.nil ?_
  refine Nrm.code ?_
  refine Run.block ?_
  refine Run.loop4 (fun (i : Nat) (b4 : Nat) (b5 : Nat) (c4 : List Value) w_ => i ≤ 4 ∧ c4.length = 17 ∧ St [] w [.var b5 24 (encIP (ipPre l k i)), .var b4 24 c4] w_) (fun (i : Nat) (b4 : Nat) (b5 : Nat) (c4 : List Value) => [(0, [], v), (1, [], .int .i64 k), (4, [], .pointer (some ⟨b4, 0, none⟩)), (5, [], .pointer (some ⟨b5, 0, none⟩)), (6, [], .int .i64 i)]) (fun (i : Nat) (b4 : Nat) (b5 : Nat) (c4 : List Value) => 4 - i) (0) (b4) (b5) (_) ⟨by omega, rfl, S⟩ ⟨rfl, rfl, rfl, rfl, rfl, trivial⟩ ?_
  rintro i b4 b5 c4 w4 ⟨hi, hc4, S⟩
  refine Run.seq ?_
  refine Run.seq ?_
  refine Run.region ?_
  refine mv1 rfl rfl ?_
  refine lss1 rfl rfl rfl ?_
  refine Ro.nil ?_
  refine Nrm.code ?_
  refine Run.cond rfl (fun hc3 => ?_) (fun hc3 => ?_)
  ·
    try simp only [Bool.or_eq_true, Bool.and_eq_true, Bool.or_eq_false_iff, Bool.and_eq_false_iff, decide_eq_true_eq, decide_eq_false_iff_not, Bool.not_eq_true', Bool.not_eq_false', Bool.not_eq_true, Bool.not_eq_false] at hc3
    refine Run.skip ?_
    refine Nrm.code ?_
    refine Run.seq ?_
    refine Run.block ?_
    refine Run.region ?_
    refine mv1 rfl rfl ?_
    refine mv1 rfl rfl ?_
    refine mv1 rfl rfl ?_
    refine mv1 rfl rfl ?_
    refine add1 rfl rfl rfl (w64 (by omega)) ?_
    refine ixa rfl rfl hl.2 e26 rfl rfl rfl rfl (fun _ => by omega) ?_
    refine ldB rfl hl S T5 rfl rfl rfl (fun _ => by omega) ?_
    intro q18 hq18 hbq18
    try simp only [Int.toNat_natCast, Nat.mul_one] at hq18
    refine fld (o' := 1) rfl fo24_1 rfl rfl rfl rfl ?_
    refine ixP rfl rfl Tryd.underlying22 T5 rfl rfl rfl rfl (fun _ => by omega) rfl ?_
    have e18 : q18 = l.getD (k + i) 0 := by rw [hq18]; congr 1
    refine st1 rfl rfl T5 rfl S (i := 0) rfl (encIP_put' (g := fun j => if j < i + 1 then l.getD (k + j) 0 else 0) (i := (i : Int).toNat * 1) (by omega) (fun j => by
      rw [e18]
      by_cases h1 : j = i
      · subst h1; simp
      · have : j ≠ (i : Int).toNat * 1 := by omega
        rw [if_neg this]
        by_cases h2 : j < i
        · rw [if_pos h2, if_pos (by omega)]
        · rw [if_neg h2, if_neg (by omega)]) rfl) rfl ?_
    intro ws S
    refine Ro.nil ?_
    refine Nrm.blk ?_
    refine Nrm.code ?_
    refine Run.region ?_
    refine mv1 rfl rfl ?_
    refine add1 rfl rfl rfl (w64 (by omega)) ?_
    refine asg1 rfl rfl ?_
    refine Ro.nil ?_
    refine Nrm.loop4 (i + 1) (b4) (b5) (_) ⟨by omega, hc4, S⟩ (by omega) ⟨rfl, rfl, rfl, rfl, rfl, trivial⟩
  ·
    try simp only [Bool.or_eq_true, Bool.and_eq_true, Bool.or_eq_false_iff, Bool.and_eq_false_iff, decide_eq_true_eq, decide_eq_false_iff_not, Bool.not_eq_true', Bool.not_eq_false', Bool.not_eq_true, Bool.not_eq_false] at hc3
    refine Run.exit ?_
    refine Lv.code ?_
    refine Lv.back ?_
    refine Lv.hit ?_
    refine Nrm.code ?_
    refine Run.seq ?_
    refine Run.region ?_
    refine ldW rfl T24 S (i := 0) rfl rfl rfl rfl rfl ?_
    refine stW rfl rfl T24 rfl hc4 (encIP_all1 _) S (i := 1) rfl rfl ?_
    intro w5 S
    refine Ro.nil ?_
    refine Nrm.code ?_
    refine Run.ret ?_
    refine Rt.cell1 rfl rfl T24 S (i := 1) rfl rfl ?_
    exact ⟨by
        have e4 : i = 4 := by omega
        subst e4
        unfold ipOf ip4of ipPre encIP
        simp, S.bl⟩

end Go.Proofs.YtkahmepenjhcpaaDoor.W
