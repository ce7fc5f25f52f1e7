/- Contracts: bit fields laid down. No statement of the seat is proved here. -/
import Derived.Test.YtkahmepenjhcpaaDoorCd
namespace Go.Proofs.YtkahmepenjhcpaaDoor.W
open Go
set_option linter.unusedSimpArgs false
set_option linter.unusedVariables false


theorem mkB {R : Qp} {ds : List Deferred} {n : Nat} {l : Env} {k : List KI} {w w0 : World} {ops : Array Oper} {os : List Oper} {d : Nat} {ty : TypeId} {ps : String} {af : Array Edge} {x y : Operand} {N0 : List Nat} {L : List Own} {k1 k2 : IntKind} {m : Nat}
    (hx : ev l x = some ([], .int k1 (m : Int))) (hy : ev l y = some ([], .int k2 (m : Int))) (S : St N0 w0 L w) (hn : Nat.blt d n = true) (hroom : m ≤ 140737488355328)
    (h : ∀ v w', St N0 w0 (oB v (List.replicate m 0) :: L) w' → Bl w w' → Ro Tryd.prog R ds n ops ((d, [], v) :: l) os k w') :
    Ro Tryd.prog R ds n ops l ({ dst := some d, op := .makeSlice 26 x y, type := ty, pos := ps, after := af, guard := none } :: os) k w :=
  mk hx hy e26 S hn (by omega) (by simp only [maxLen]; omega) (made_one _ _) (fun v w' S' B => h v w' (S'.eqv (by simp [oB])) B)

/-- bytes whose bits are these, zeros behind them -/
def Pk (nb : Nat) (out P : List Int) : Prop := out.length = nb ∧ byt out ∧ P.length ≤ 8 * nb ∧ ∀ k, k < 8 * nb → bitAt out k = P.getD k 0

theorem Pk.zero (nb : Nat) : Pk nb (List.replicate nb 0) [] := by
  refine ⟨by simp, fun x hx => by rw [(List.mem_replicate.1 hx).2]; omega, by simp, ?_⟩
  intro k hk
  unfold bitAt
  have : (List.replicate nb (0 : Int)).getD (k / 8) 0 = 0 := by
    rw [List.getD_eq_getElem?_getD, List.getElem?_replicate]; split <;> rfl
  rw [this]; simp

theorem Pk.step {nb : Nat} {out P : List Int} {b : Int} (h : Pk nb out P) (hl : P.length < 8 * nb) (hb : b = 0 ∨ b = 1) :
    Pk nb (out.set (P.length / 8) (laid1 (out.getD (P.length / 8) 0) b (P.length % 8))) (P ++ [b]) := by
  obtain ⟨h1, h2, h3, h4⟩ := h
  have hj : P.length / 8 < out.length := by omega
  have hx := byt_getD h2 (P.length / 8)
  have h0 : out.getD (P.length / 8) 0 / 2 ^ (7 - P.length % 8) % 2 = 0 := by
    have := h4 P.length hl
    unfold bitAt at this
    rw [this]; simp
  refine ⟨by simp [h1], byt_set h2 _ (laid1_bits hx hb (Nat.mod_lt _ (by omega)) (Nat.mod_lt _ (by omega)) h0 (q := P.length % 8)).1, by simp; omega, ?_⟩
  intro k hk
  by_cases e8 : k / 8 = P.length / 8
  · have hg : (out.set (P.length / 8) (laid1 (out.getD (P.length / 8) 0) b (P.length % 8))).getD (k / 8) 0 = laid1 (out.getD (P.length / 8) 0) b (P.length % 8) := by
      rw [e8, List.getD_eq_getElem?_getD, List.getElem?_set_self hj]; rfl
    unfold bitAt
    rw [hg, (laid1_bits hx hb (Nat.mod_lt _ (by omega)) (Nat.mod_lt _ (by omega)) h0 (q := k % 8)).2]
    by_cases ek : k = P.length
    · subst ek; simp
    · have : ¬ k % 8 = P.length % 8 := by omega
      rw [if_neg this, ← e8]
      have := h4 k hk
      unfold bitAt at this
      rw [this]
      rcases Nat.lt_or_ge k P.length with hlt | hge
      · simp [List.getD_eq_getElem?_getD, List.getElem?_append_left hlt]
      · simp [List.getD_eq_getElem?_getD, List.getElem?_eq_none (show P.length ≤ k from hge), List.getElem?_eq_none (show (P ++ [b]).length ≤ k by simp; omega)]
  · have hg : (out.set (P.length / 8) (laid1 (out.getD (P.length / 8) 0) b (P.length % 8))).getD (k / 8) 0 = out.getD (k / 8) 0 := by
      rw [List.getD_eq_getElem?_getD, List.getElem?_set_ne (by omega), List.getD_eq_getElem?_getD]
    have := h4 k hk
    unfold bitAt at this ⊢
    rw [hg, this]
    have ek : k ≠ P.length := by intro e; subst e; exact e8 rfl
    rcases Nat.lt_or_ge k P.length with hlt | hge
    · simp [List.getD_eq_getElem?_getD, List.getElem?_append_left hlt]
    · simp [List.getD_eq_getElem?_getD, List.getElem?_eq_none (show P.length ≤ k from hge), List.getElem?_eq_none (show (P ++ [b]).length ≤ k by simp; omega)]

theorem bitsOf_take_succ {v : Int} {n m : Nat} (h : m < n) : (bitsOf v n).take (m + 1) = (bitsOf v n).take m ++ [v / 2 ^ (n - 1 - m) % 2] := by
  rw [getD_take_succ (by rw [bitsOf_len]; exact h), bitsOf_at v n m h]
theorem strm_take_succ {ws vs : List Int} {i : Nat} (h : i < ws.length) (hl : ws.length = vs.length) : strm (ws.take (i + 1)) (vs.take (i + 1)) = strm (ws.take i) (vs.take i) ++ bitsOf (vs.getD i 0) (ws.getD i 0).toNat := by
  rw [getD_take_succ h, getD_take_succ (by omega), strm_app _ _ _ _ (by simp [hl])]
  simp [strm]
theorem shV {x q : Int} (h : 0 ≤ q ∧ q ≤ 63) : x.fdiv (2 ^ (min q.toNat IntKind.i64.bits)) = x / 2 ^ q.toNat := by
  have e : min q.toNat IntKind.i64.bits = q.toNat := by
    have : IntKind.i64.bits = 64 := rfl
    omega
  have hp : (0 : Int) ≤ 2 ^ q.toNat := Int.le_of_lt (Int.pow_pos (by omega))
  rw [e, Int.fdiv_eq_ediv_of_nonneg _ hp]
theorem anI1 {x : Int} (h : 0 ≤ x ∧ x ≤ 9223372036854775807) : IntKind.i64.wrap (((x % 2 ^ IntKind.i64.bits).toNat &&& ((1 : Int) % 2 ^ IntKind.i64.bits).toNat : Nat) : Int) = x % 2 := by
  rw [toNat_mod64 h, toNat_mod64 (by omega)]
  have e2 : x.toNat &&& (1 : Int).toNat = x.toNat % 2 := Nat.and_one_is_mod _
  rw [e2, w64 (by omega)]; omega
theorem slU8 {b : Int} {k : Nat} : IntKind.u8.wrap (b * 2 ^ (min ((7 : Int) - (k : Int) % 8).toNat IntKind.u8.bits)) = b * 2 ^ (7 - k % 8) % 256 := by
  have e : min ((7 : Int) - (k : Int) % 8).toNat IntKind.u8.bits = 7 - k % 8 := by
    have : IntKind.u8.bits = 8 := rfl
    omega
  rw [e, w8m]
theorem orU8 {x b : Int} {r : Nat} : IntKind.u8.wrap (((x % 2 ^ IntKind.u8.bits).toNat ||| (b * 2 ^ (7 - r) % 256 % 2 ^ IntKind.u8.bits).toNat : Nat) : Int) = laid1 x b r := by
  have : (2 ^ IntKind.u8.bits : Int) = 256 := rfl
  rw [this, w8m]
  unfold laid1
  rw [Int.emod_emod_of_dvd _ (Int.dvd_refl 256)]
theorem div_pow_bd {x : Int} (h : 0 ≤ x ∧ x ≤ 9223372036854775807) (m : Nat) : 0 ≤ x / 2 ^ m ∧ x / 2 ^ m ≤ 9223372036854775807 := by
  have hp : (0 : Int) < 2 ^ m := Int.pow_pos (by omega)
  exact ⟨Int.ediv_nonneg h.1 (by omega), Int.le_trans (Int.ediv_le_self _ h.1) h.2⟩

set_option maxHeartbeats 1000000 in
theorem c95 (vw vv : Value) (ws vs : List Int) (w : World) (hw : IS [] w vw ws) (hv : IS [] w vv vs) (hws : ∀ x ∈ ws, 1 ≤ x ∧ x ≤ 32) (hwl : ws.length ≤ 64) (h8 : ws.sum % 8 = 0) (hvl : ws.length = vs.length) (hvs : ∀ i, i < ws.length → 0 ≤ vs.getD i 0 ∧ vs.getD i 0 < 2 ^ (ws.getD i 0).toNat) :
    CallsV Tryd.prog 95 #[vw, vv] w (fun r w' => ∃ u out, r = .tuple #[u, .int .i64 0] ∧ FB w w' u out ∧ Pk (ws.sum / 8).toNat out (strm ws vs)) := by
  refine enter Tryd.func95 rfl Tryd.ntmps95 (l := [(0, [], _), (1, [], _)]) rfl rfl ?_
  have S := St.refl [] w
  have hs0 := sum_take_bd hws ws.length
  rw [List.take_length] at hs0
  obtain ⟨nb, hnb⟩ : ∃ nb : Nat, ws.sum / 8 = (nb : Int) := ⟨(ws.sum / 8).toNat, by omega⟩
  have hsl : ∀ i, ((strm (ws.take i) (vs.take i)).length : Int) = (ws.take i).sum := fun i => strm_len _ _ (by simp [hvl]) (fun x hx => by have := hws x (List.mem_of_mem_take hx); omega)
  have hc140 := c140 vw ws w (hw.now S) hws hwl h8
  rw [hnb] at hc140
  refine Run.seq ?_
  refine Run.region ?_
  refine asg1 rfl rfl ?_
  refine asg1 rfl rfl ?_
  refine Ro.nil ?_
  refine Nrm.code ?_
  refine Run.seq ?_
  refine Run.region ?_
  refine mv1 rfl rfl ?_
  refine calg (vs := [_]) rfl ⟨⟨_, _, rfl, rfl⟩, trivial⟩ k140 rfl (fun hG => hc140) ?_
  intro w1 B_; have S := S.call B_
  refine mv1 rfl rfl ?_
  refine extr1 rfl rfl rfl ?_
  refine extr1 rfl rfl rfl ?_
  refine asg1 rfl rfl ?_
  refine asg1 rfl rfl ?_
  refine Ro.nil ?_
  refine Nrm.code ?_
  refine Run.seq ?_
  refine Run.seq ?_
  refine Run.region ?_
  refine mv1 rfl rfl ?_
  refine neq1 rfl rfl rfl ?_
  refine Ro.nil ?_
  refine Nrm.code ?_
  refine Run.cond rfl (fun hc2 => ?_) (fun hc2 => ?_)
  ·
    try simp only [Bool.or_eq_true, Bool.and_eq_true, Bool.or_eq_false_iff, Bool.and_eq_false_iff, decide_eq_true_eq, decide_eq_false_iff_not, Bool.not_eq_true', Bool.not_eq_false', Bool.not_eq_true, Bool.not_eq_false] at hc2
    exfalso; exact absurd rfl hc2
  ·
    try simp only [Bool.or_eq_true, Bool.and_eq_true, Bool.or_eq_false_iff, Bool.and_eq_false_iff, decide_eq_true_eq, decide_eq_false_iff_not, Bool.not_eq_true', Bool.not_eq_false', Bool.not_eq_true, Bool.not_eq_false] at hc2
    refine Run.skip ?_
    refine Nrm.code ?_
    refine Run.seq ?_
    refine Run.seq ?_
    refine Run.region ?_
    refine mv1 rfl rfl ?_
    refine lenS rfl hv Tryd.underlying132 rfl rfl rfl ?_
    refine mv1 rfl rfl ?_
    refine lenS rfl hw Tryd.underlying132 rfl rfl rfl ?_
    refine neq1 rfl rfl rfl ?_
    refine Ro.nil ?_
    refine Nrm.code ?_
    refine Run.cond rfl (fun hc4 => ?_) (fun hc4 => ?_)
    ·
      try simp only [Bool.or_eq_true, Bool.and_eq_true, Bool.or_eq_false_iff, Bool.and_eq_false_iff, decide_eq_true_eq, decide_eq_false_iff_not, Bool.not_eq_true', Bool.not_eq_false', Bool.not_eq_true, Bool.not_eq_false] at hc4
      exfalso; omega
    ·
      try simp only [Bool.or_eq_true, Bool.and_eq_true, Bool.or_eq_false_iff, Bool.and_eq_false_iff, decide_eq_true_eq, decide_eq_false_iff_not, Bool.not_eq_true', Bool.not_eq_false', Bool.not_eq_true, Bool.not_eq_false] at hc4
      refine Run.skip ?_
      refine Nrm.code ?_
      refine Run.seq ?_
      refine Run.region ?_
      refine mv1 rfl rfl ?_
      refine mkB (m := nb) rfl rfl S rfl (by omega) ?_
      intro u w2 S B_
      refine asg1 rfl rfl ?_
      refine Ro.nil ?_
      refine Nrm.code ?_
      refine Run.seq ?_
      refine Run.region ?_
      refine asg1 rfl rfl ?_
      refine Ro.nil ?_
      refine Nrm.code ?_
      refine Run.seq ?_
      refine Run.seq ?_
      refine Run.region ?_
      refine mv1 rfl rfl ?_
      refine lenS rfl hw Tryd.underlying132 rfl rfl rfl ?_
      refine mv1 rfl rfl ?_
      refine Ro.nil ?_
      refine Nrm.code ?_
      refine Run.block ?_
      refine Run.loop3 (fun (i : Nat) (p : Nat) (out : List Int) w_ => i ≤ ws.length ∧ p = (strm (ws.take i) (vs.take i)).length ∧ Pk nb out (strm (ws.take i) (vs.take i)) ∧ St [] w [oB u out] w_) (fun (i : Nat) (p : Nat) (out : List Int) => [(0, [], vw), (1, [], vv), (8, [], u), (9, [], .int .i64 p), (29, [], vw), (30, [], .int .i64 ws.length), (31, [], .int .i64 i)]) (fun (i : Nat) (p : Nat) (out : List Int) => ws.length - i) (0) (0) (_) ⟨Nat.zero_le _, rfl, Pk.zero nb, S⟩ ⟨rfl, rfl, rfl, rfl, rfl, rfl, rfl, trivial⟩ ?_
      rintro i p out w3 ⟨hi, hp, hpk0, S⟩
      have hsb := sum_take_bd hws i
      have hsli := hsl i
      refine Run.seq ?_
      refine Run.region ?_
      refine lss1 rfl rfl rfl ?_
      refine Ro.nil ?_
      refine Nrm.code ?_
      refine Run.seq ?_
      refine Run.cond rfl (fun hc9 => ?_) (fun hc9 => ?_)
      ·
        try simp only [Bool.or_eq_true, Bool.and_eq_true, Bool.or_eq_false_iff, Bool.and_eq_false_iff, decide_eq_true_eq, decide_eq_false_iff_not, Bool.not_eq_true', Bool.not_eq_false', Bool.not_eq_true, Bool.not_eq_false] at hc9
        refine Run.skip ?_
        refine Nrm.code ?_
        refine Run.seq ?_
        refine Run.block ?_
        refine Run.seq ?_
        refine Run.region ?_
        refine mv1 rfl rfl ?_
        refine ixa rfl rfl hw e132 rfl rfl rfl rfl (fun _ => by omega) ?_
        refine ldI rfl hw S T3 rfl rfl rfl (fun _ => by omega) ?_
        intro q35 hq35
        try simp only [Int.toNat_natCast, Nat.mul_one] at hq35
        refine asg1 rfl rfl ?_
        refine asg1 rfl rfl ?_
        refine Ro.nil ?_
        refine Nrm.code ?_
        refine Run.seq ?_
        refine Run.region ?_
        refine mv1 rfl rfl ?_
        refine mv1 rfl rfl ?_
        refine ixa rfl rfl hv e132 rfl rfl rfl rfl (fun _ => by omega) ?_
        refine ldI rfl hv S T3 rfl rfl rfl (fun _ => by omega) ?_
        intro q39 hq39
        try simp only [Int.toNat_natCast, Nat.mul_one] at hq39
        have hvi := hvs i (by omega)
        rw [← hq39] at hvi
        have hwi := hws _ (getD_mem (d := 0) (show i < ws.length by omega))
        rw [← hq35] at hwi hvi
        have hpw : (2 : Int) ^ q35.toNat ≤ 4294967296 := by
          have : (2 : Nat) ^ q35.toNat ≤ 2 ^ 32 := Nat.pow_le_pow_right (by omega) (by omega)
          have h2 : ((2 ^ q35.toNat : Nat) : Int) ≤ ((2 ^ 32 : Nat) : Int) := Int.ofNat_le.2 this
          simpa using h2
        refine asg1 rfl rfl ?_
        refine Ro.nil ?_
        refine Nrm.code ?_
        refine Run.seq ?_
        refine Run.seq ?_
        refine Run.region ?_
        refine mv1 rfl rfl ?_
        refine lss1 rfl rfl rfl ?_
        refine mv1 rfl rfl ?_
        refine mv rfl rfl rfl rfl ?_
        refine mv rfl rfl rfl rfl ?_
        refine cvi rfl rfl rfl rfl Tryd.underlying3 Tryd.underlying135 (fun hG => by first | exact wu64 (by omega) | (simp [allT] at hG; exact wu64 (by omega))) ?_
        refine shr rfl rfl rfl rfl rfl rfl (fun hG => by first | exact by omega | (simp [allT] at hG; exact by omega)) (fun hG => by first | exact shV (by omega) | (simp [allT] at hG; exact shV (by omega))) ?_
        have hz : q39 / 2 ^ q35.toNat = 0 := Int.ediv_eq_zero_of_lt hvi.1 hvi.2
        rw [hz]
        refine neq rfl rfl rfl rfl rfl rfl ?_
        refine pkO rfl rfl rfl rfl rfl rfl ?_
        refine Ro.nil ?_
        refine Nrm.code ?_
        refine Run.cond rfl (fun hc12 => ?_) (fun hc12 => ?_)
        ·
          try simp only [Bool.or_eq_true, Bool.and_eq_true, Bool.or_eq_false_iff, Bool.and_eq_false_iff, decide_eq_true_eq, decide_eq_false_iff_not, Bool.not_eq_true', Bool.not_eq_false', Bool.not_eq_true, Bool.not_eq_false] at hc12
          exfalso; omega
        ·
          try simp only [Bool.or_eq_true, Bool.and_eq_true, Bool.or_eq_false_iff, Bool.and_eq_false_iff, decide_eq_true_eq, decide_eq_false_iff_not, Bool.not_eq_true', Bool.not_eq_false', Bool.not_eq_true, Bool.not_eq_false] at hc12
          refine Run.skip ?_
          refine Nrm.code ?_
          refine Run.seq ?_
          refine Run.region ?_
          refine mv1 rfl rfl ?_
          refine sub1 rfl rfl rfl (w64 (by omega)) ?_
          refine asg1 rfl rfl ?_
          refine Ro.nil ?_
          refine Nrm.code ?_
          refine Run.block ?_
          have hsb1 := sum_take_bd hws (i + 1)
          rw [sum_take_succ (by omega), ← hq35] at hsb1
          refine Run.loop4 (fun (m : Nat) (q : Int) (p : Nat) (out : List Int) w_ => m ≤ q35.toNat ∧ q = q35 - 1 - m ∧ p = (strm (ws.take i) (vs.take i) ++ (bitsOf q39 q35.toNat).take m).length ∧ Pk nb out (strm (ws.take i) (vs.take i) ++ (bitsOf q39 q35.toNat).take m) ∧ St [] w [oB u out] w_) (fun (m : Nat) (q : Int) (p : Nat) (out : List Int) => [(0, [], vw), (1, [], vv), (8, [], u), (9, [], .int .i64 p), (12, [], .int .i64 q39), (13, [], .int .i64 q), (29, [], vw), (30, [], .int .i64 ws.length), (31, [], .int .i64 i)]) (fun (m : Nat) (q : Int) (p : Nat) (out : List Int) => q35.toNat - m) (0) (_) (p) (_) ⟨Nat.zero_le _, by omega, by rw [hp]; simp, by simpa using hpk0, S⟩ ⟨rfl, rfl, rfl, rfl, rfl, rfl, rfl, rfl, rfl, trivial⟩ ?_
          rintro m q p out w4 ⟨hm, hq, hp1, hpk, S⟩
          have hpl : p = (strm (ws.take i) (vs.take i)).length + m := by rw [hp1]; simp [bitsOf_len, hm]
          refine Run.seq ?_
          refine Run.seq ?_
          refine Run.region ?_
          refine mv1 rfl rfl ?_
          refine geq1 rfl rfl rfl ?_
          refine Ro.nil ?_
          refine Nrm.code ?_
          refine Run.cond rfl (fun hc15 => ?_) (fun hc15 => ?_)
          ·
            try simp only [Bool.or_eq_true, Bool.and_eq_true, Bool.or_eq_false_iff, Bool.and_eq_false_iff, decide_eq_true_eq, decide_eq_false_iff_not, Bool.not_eq_true', Bool.not_eq_false', Bool.not_eq_true, Bool.not_eq_false] at hc15
            refine Run.skip ?_
            refine Nrm.code ?_
            refine Run.seq ?_
            refine Run.block ?_
            refine Run.seq ?_
            refine Run.region ?_
            refine mv1 rfl rfl ?_
            refine mv1 rfl rfl ?_
            refine quo1 rfl rfl rfl (by decide) (q64 (by omega)) ?_
            refine ixa rfl rfl (S.slI (i := 0) rfl) e26 rfl rfl rfl rfl (fun _ => by have := hpk.1; omega) ?_
            refine ldB rfl (S.bsI (i := 0) rfl hpk.2.1) (St.refl [] _) T5 rfl rfl rfl (fun _ => by have := hpk.1; omega) ?_
            intro x hx hbx
            try simp only [Int.toNat_natCast, Nat.mul_one] at hx
            refine mv1 rfl rfl ?_
            refine mv1 rfl rfl ?_
            refine cvi1 rfl rfl Tryd.underlying3 Tryd.underlying135 (wu64 (by omega)) ?_
            refine shr rfl rfl rfl rfl rfl rfl (fun _ => by omega) (fun _ => shV (by omega)) ?_
            have hvd := div_pow_bd (x := q39) (by omega) q.toNat
            refine band rfl rfl rfl rfl rfl rfl (fun _ => anI1 hvd) ?_
            refine cvi1 rfl rfl Tryd.underlying3 Tryd.underlying5 (w8 (by omega)) ?_
            refine mv1 rfl rfl ?_
            refine rem1 rfl rfl rfl (by decide) (r64 (by omega)) ?_
            refine cvi1 rfl rfl Tryd.underlying3 Tryd.underlying135 (wu64 (by omega)) ?_
            refine sub1 rfl rfl rfl (wu64 (by omega)) ?_
            refine shl rfl rfl rfl rfl rfl rfl (fun _ => by omega) (fun _ => slU8) ?_
            refine bor rfl rfl rfl rfl rfl rfl (fun _ => orU8) ?_
            refine ixa rfl rfl (S.slI (i := 0) rfl) e26 rfl rfl rfl rfl (fun _ => by have := hpk.1; omega) ?_
            refine stB rfl rfl T5 S (i := 0) rfl (by have := hpk.1; omega) rfl ?_
            intro w5 S
            refine Ro.nil ?_
            refine Nrm.code ?_
            refine Run.region ?_
            refine mv1 rfl rfl ?_
            refine add1 rfl rfl rfl (w64 (by omega)) ?_
            refine asg1 rfl rfl ?_
            refine Ro.nil ?_
            refine Nrm.blk ?_
            refine Nrm.code ?_
            refine Run.region ?_
            refine mv1 rfl rfl ?_
            refine sub1 rfl rfl rfl (w64 (by omega)) ?_
            refine asg1 rfl rfl ?_
            refine Ro.nil ?_
            refine Nrm.loop4 (m + 1) (_) (p + 1) (_) ⟨by omega, by omega, by
                              rw [bitsOf_take_succ (by omega), ← List.append_assoc, List.length_append, ← hp1]; rfl, by
                              rw [bitsOf_take_succ (by omega), ← List.append_assoc]
                              have hst := hpk.step (b := q39 / 2 ^ (q35.toNat - 1 - m) % 2) (by omega) (by omega)
                              rw [← hp1] at hst
                              rw [show q.toNat = q35.toNat - 1 - m from by omega, hx]
                              exact hst, S⟩ (by omega) ⟨rfl, rfl, rfl, rfl, rfl, rfl, rfl, rfl, rfl, trivial⟩
          ·
            try simp only [Bool.or_eq_true, Bool.and_eq_true, Bool.or_eq_false_iff, Bool.and_eq_false_iff, decide_eq_true_eq, decide_eq_false_iff_not, Bool.not_eq_true', Bool.not_eq_false', Bool.not_eq_true, Bool.not_eq_false] at hc15
            have hm2 : m = q35.toNat := by omega
            have htk : (bitsOf q39 q35.toNat).take m = bitsOf q39 q35.toNat := List.take_of_length_le (by rw [bitsOf_len]; omega)
            have hEq : strm (ws.take (i + 1)) (vs.take (i + 1)) = strm (ws.take i) (vs.take i) ++ (bitsOf q39 q35.toNat).take m := by rw [strm_take_succ (by omega) hvl, ← hq39, ← hq35, htk]
            refine Run.exit ?_
            refine Lv.code ?_
            refine Lv.back ?_
            refine Lv.hit ?_
            refine Nrm.blk ?_
            refine Nrm.code ?_
            refine Run.region ?_
            refine add1 rfl rfl rfl (w64 (by omega)) ?_
            refine mv1 rfl rfl ?_
            refine Ro.nil ?_
            refine Nrm.loop3 (i + 1) (p) (_) ⟨by omega, by rw [hp1, hEq], by rw [hEq]; exact hpk, S⟩ (by omega) ⟨rfl, rfl, rfl, rfl, rfl, rfl, rfl, trivial⟩
      ·
        try simp only [Bool.or_eq_true, Bool.and_eq_true, Bool.or_eq_false_iff, Bool.and_eq_false_iff, decide_eq_true_eq, decide_eq_false_iff_not, Bool.not_eq_true', Bool.not_eq_false', Bool.not_eq_true, Bool.not_eq_false] at hc9
        refine Run.exit ?_
        refine Lv.code ?_
        refine Lv.back ?_
        refine Lv.hit ?_
        refine Nrm.code ?_
        refine Run.seq ?_
        refine Run.region ?_
        refine mv1 rfl rfl ?_
        refine asg1 rfl rfl ?_
        refine asg1 rfl rfl ?_
        refine Ro.nil ?_
        refine Nrm.code ?_
        refine Run.ret ?_
        refine Rt.two rfl rfl rfl ?_
        have e : i = ws.length := by omega
        have e2 : vs.take i = vs := List.take_of_length_le (by omega)
        rw [e2, e, List.take_length] at hpk0
        exact ⟨u, out, rfl, S.toFB (i := 0) rfl, by rw [hnb]; exact hpk0⟩

end Go.Proofs.YtkahmepenjhcpaaDoor.W
