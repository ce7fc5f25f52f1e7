/- Contracts: bit fields. No statement of the seat is proved here. -/
import Derived.Test.YtkahmepenjhcpaaDoorCc
import Derived.Test.YtkahmepenjhcpaaDoorSb
import Derived.Recover
namespace Go.Proofs.YtkahmepenjhcpaaDoor.W
open Go
set_option linter.unusedSimpArgs false
set_option linter.unusedVariables false


/-- the deferred look behind a reading that did not fail: nothing is turned -/
theorem d141 (a b c : Value) (w : World) : Go.CallsD Tryd.prog 141 #[a, b, c] .returning w fun e u' w' => e = .returned (.tuple #[]) ∧ u' = .returning ∧ w' = w := by
  refine callsD_of_wpS Tryd.func141 rfl fun c₀ cs hu => ?_
  apply wpS_seq
  apply wpS_region
  simp [wpOpsS, go_sem, recoverD, hu, Tryd.ntmps141, Exit.thenS]
  refine wpS_cond (t := false) (by simp [Act.eval, Array.replicate]) ?_
  simp only [Bool.false_eq_true, if_false]
  refine wpS_of_wp (wp_skip ?_)
  cases c₀
  simp_all [bodyPostS, results, Tryd.results141]

theorem loadVar1 {P : Program} {w w0 : World} {N0 : List Nat} {L : List Own} {T sz b i : Nat} {T' : TypeId} {v : Value} {zc : List Value} (hT : TyI P T sz false zc) (S : St N0 w0 L w) (hk : getN L i = some (.var b T' [v])) :
    (loadVar T ⟨b, 0, none⟩).run P w = .ok v w := by
  obtain ⟨i, z, dd, h1, h2, h3, h4, h5, h6⟩ := hT.get
  have hc : w.cell? ⟨b, 0, none⟩ = some v := by rw [cell_of_row w b 0 _ _ _ (S.var hk)]; rfl
  simp only [loadVar, isAgg]
  cases dd <;> simp [aggD] at h6 <;> simp [run_underlying h5, hc]

theorem Rt.f101 {l : Env} {k : List KI} {w w0 : World} {N0 : List Nat} {L : List Own} {Rr : Value → World → Prop} {b6 b7 b8 i6 i7 i8 : Nat} {T6 T7 T8 : TypeId} {u x y : Value} {c6 c7 c8 : Value}
    (h6 : lk l 6 = some ([], .pointer (some ⟨b6, 0, none⟩))) (h7 : lk l 7 = some ([], .pointer (some ⟨b7, 0, none⟩))) (h8 : lk l 8 = some ([], .pointer (some ⟨b8, 0, none⟩)))
    (S : St N0 w0 L w) (k6 : getN L i6 = some (.var b6 T6 [u])) (k7 : getN L i7 = some (.var b7 T7 [x])) (k8 : getN L i8 = some (.var b8 T8 [y])) (h : Rr (.tuple #[u, x, y]) w) :
    Rt Tryd.prog (bodyPostD Tryd.prog Tryd.f101 (RV Rr)) [{ target := .fn (.func 141) #[c6, c7, c8], args := #[] }] 63 l k w :=
  Rt.top (R := bodyPostD Tryd.prog Tryd.f101 (RV Rr)) (fun a ha => by
    show Leaves Tryd.prog Tryd.f101 a.tmps (RV Rr) a.defers .returning w
    rw [ha.defers]
    obtain ⟨fn, q1, q2, q3⟩ := (k141).ex
    have q2' : ¬ fn.name = "runtime.NumGoroutine" := by simpa using q2
    have q3' : ¬ fn.body = none := by intro e; rw [e] at q3; cases q3
    refine ⟨by simp, .func 141, #[c6, c7, c8], 141, #[c6, c7, c8], rfl, by simp [invoke, callFunc, q1, q2', q3'], ?_⟩
    intro c cs hc
    obtain ⟨e, u', w', fr, ⟨rfl, rfl, rfl⟩, h2, h3, h4⟩ := d141 c6 c7 c8 w c cs hc
    refine ⟨_, _, _, fr, ?_, h2, h3, h4⟩
    have g6 := ha.getD h6
    have g7 := ha.getD h7
    have g8 := ha.getD h8
    simp only [Array.getD_eq_getD_getElem?] at g6 g7 g8
    refine ⟨.tuple #[u, x, y], ?_, h⟩
    simp [results, Tryd.results101, g6, g7, g8, asAddr, loadVar1 T132 S k6, loadVar1 T3 S k7, loadVar1 T31 S k8]) k

theorem fields_take_succ {l : List Int} {ws : List Int} {i : Nat} (h : i < ws.length) (h0 : ∀ x ∈ ws, 0 ≤ x) : fieldsS l 0 (ws.take (i + 1)) = fieldsS l 0 (ws.take i) ++ [fv l (ws.take i).sum.toNat (ws.getD i 0).toNat] := by
  rw [getD_take_succ h, fieldsS_app _ _ _ _ (fun x hx => h0 x (List.mem_of_mem_take hx))]
  simp [fieldsS]
theorem or1 {a b : Int} (h : 0 ≤ a ∧ a < 4611686018427387904) (hb : 0 ≤ b ∧ b ≤ 1) : IntKind.i64.wrap (((a * 2 % 2 ^ IntKind.i64.bits).toNat ||| (b % 2 ^ IntKind.i64.bits).toNat : Nat) : Int) = a * 2 + b := by
  rw [toNat_mod64 (by omega), toNat_mod64 (by omega)]
  obtain ⟨x, rfl⟩ := Int.eq_ofNat_of_zero_le h.1
  obtain ⟨y, rfl⟩ := Int.eq_ofNat_of_zero_le hb.1
  have e : ((x : Int) * 2).toNat = x * 2 ^ 1 := by omega
  have e2 : ((y : Int)).toNat = y := by omega
  rw [e, e2]
  have hy : y < 2 ^ 1 := by omega
  have e3 : x * 2 ^ 1 ||| y = x * 2 ^ 1 + y := by
    rw [Nat.mul_comm, ← Nat.two_pow_add_eq_or_of_lt hy]
  rw [e3, w64 (by omega)]
  omega
theorem shU8 {x : Int} {k : Nat} : x.fdiv (2 ^ (min ((7 : Int) - (k : Int) % 8).toNat IntKind.u8.bits)) = x / 2 ^ (7 - k % 8) := by
  have e : min ((7 : Int) - (k : Int) % 8).toNat IntKind.u8.bits = 7 - k % 8 := by
    have : IntKind.u8.bits = 8 := rfl
    omega
  have hp : (0 : Int) ≤ 2 ^ (7 - k % 8) := Int.le_of_lt (Int.pow_pos (by omega))
  rw [e, Int.fdiv_eq_ediv_of_nonneg _ hp]
theorem byte_div {x : Int} (h : 0 ≤ x ∧ x < 256) (m : Nat) : 0 ≤ x / 2 ^ m ∧ x / 2 ^ m < 256 := by
  have hp : (0 : Int) < 2 ^ m := Int.pow_pos (by omega)
  exact ⟨Int.ediv_nonneg h.1 (by omega), Int.lt_of_le_of_lt (Int.ediv_le_self _ h.1) h.2⟩
theorem anU8 {x : Int} (h : 0 ≤ x ∧ x < 256) : IntKind.u8.wrap (((x % 2 ^ IntKind.u8.bits).toNat &&& ((1 : Int) % 2 ^ IntKind.u8.bits).toNat : Nat) : Int) = x % 2 := by
  have : (2 ^ IntKind.u8.bits : Int) = 256 := rfl
  rw [this]
  have e : (x % 256).toNat = x.toNat := by omega
  have e1 : ((1 : Int) % 256).toNat = 1 := rfl
  have e2 : x.toNat &&& 1 = x.toNat % 2 := Nat.and_one_is_mod _
  rw [e, e1, e2, w8 (by omega)]
  omega

set_option maxHeartbeats 1000000 in
theorem c101 (v vw : Value) (l ws : List Int) (w : World) (hb : BS [] w v l) (hw : IS [] w vw ws) (hws : ∀ x ∈ ws, 1 ≤ x ∧ x ≤ 32) (hwl : ws.length ≤ 64) (h8 : ws.sum % 8 = 0) (hl : ws.sum / 8 ≤ l.length) (hll : l.length ≤ 1099511627776) :
    CallsV Tryd.prog 101 #[v, .int .i64 0, vw] w (fun r w' => ∃ u, r = .tuple #[u, .int .i64 (ws.sum / 8), .int .i64 0] ∧ FI w w' u (fieldsS l 0 ws)) := by
  refine enterD Tryd.func101 rfl Tryd.ntmps101 (l := [(0, [], _), (1, [], _), (2, [], _)]) rfl rfl ?_
  have S := St.refl [] w
  have hs0 := sum_take_bd hws ws.length
  rw [List.take_length] at hs0
  obtain ⟨nb, hnb⟩ : ∃ nb : Nat, ws.sum / 8 = (nb : Int) := ⟨(ws.sum / 8).toNat, by omega⟩
  have hp := hb.cut (lo := 0) (hi := 0 + nb) (mx := 0 + nb) (by have := hb.cap; omega)
  have hpl : ((l.drop 0).take (0 + nb - 0)).length = nb := by simp; omega
  have hpg : ∀ j, j < nb → ((l.drop 0).take (0 + nb - 0)).getD j 0 = l.getD j 0 := by intro j hj; simp [List.getD_eq_getElem?_getD, hj]
  refine Run.seq ?_
  refine Run.region ?_
  refine alc T132 S rfl ?_
  intro b6 w1 hb6 S B_
  refine alc T3 S rfl ?_
  intro b7 w2 hb7 S B_
  refine alc T31 S rfl ?_
  intro b8 w3 hb8 S B_
  have S := S.nilI
  refine Ro.nil ?_
  refine Nrm.code ?_
  refine Run.seq ?_
  refine Run.region ?_
  refine mv1 rfl rfl ?_
  refine calg (vs := [_]) rfl ⟨⟨_, _, rfl, rfl⟩, trivial⟩ k140 rfl (fun hG => c140 _ _ _ (hw.now S) hws hwl h8) ?_
  intro w4 B_; have S := S.call B_
  refine mv1 rfl rfl ?_
  refine extr1 rfl rfl rfl ?_
  refine extr1 rfl rfl rfl ?_
  refine asg1 rfl rfl ?_
  refine st1 rfl rfl T31 rfl S (i := 1) rfl rfl rfl ?_
  intro w5 S
  refine Ro.nil ?_
  refine Nrm.code ?_
  refine Run.seq ?_
  refine Run.seq ?_
  refine Run.region ?_
  refine ld1 rfl T31 S (i := 1) rfl rfl rfl rfl rfl ?_
  refine neq1 rfl rfl rfl ?_
  refine Ro.nil ?_
  refine Nrm.code ?_
  refine Run.cond rfl (fun hc2 => ?_) (fun hc2 => ?_)
  ·
    try simp only [Bool.or_eq_true, Bool.and_eq_true, Bool.or_eq_false_iff, Bool.and_eq_false_iff, decide_eq_true_eq, decide_eq_false_iff_not, Bool.not_eq_true', Bool.not_eq_false', Bool.not_eq_true, Bool.not_eq_false] at hc2
    exfalso; exact absurd rfl hc2
  ·
    try simp only [Bool.or_eq_true, Bool.and_eq_true, Bool.or_eq_false_iff, Bool.and_eq_false_iff, decide_eq_true_eq, decide_eq_false_iff_not, Bool.not_eq_true', Bool.not_eq_false', Bool.not_eq_true, Bool.not_eq_false] at hc2
    refine Run.skip ?_
    refine Nrm.code ?_
    refine Run.seq ?_
    refine Run.region ?_
    refine mkf (vs := [_, _, _]) ⟨⟨_, _, rfl, rfl⟩, ⟨_, _, rfl, rfl⟩, ⟨_, _, rfl, rfl⟩, trivial⟩ rfl ?_
    refine dfr rfl ?_
    refine Ro.nil ?_
    refine Nrm.code ?_
    refine Run.seq ?_
    refine Run.region ?_
    refine mv1 rfl rfl ?_
    refine mv1 rfl rfl ?_
    refine mv1 rfl rfl ?_
    refine calg (vs := [_, _, _]) rfl ⟨⟨_, _, rfl, rfl⟩, ⟨_, _, rfl, rfl⟩, ⟨_, _, rfl, rfl⟩, trivial⟩ k142 rfl (fun hG => by rw [hnb]; exact c142 _ _ 0 nb _ (hb.now S) (by omega) (by omega)) ?_
    intro w6 B_; have S := S.call B_
    refine asg1 rfl rfl ?_
    refine Ro.nil ?_
    refine Nrm.code ?_
    refine Run.seq ?_
    refine Run.region ?_
    refine asg1 rfl rfl ?_
    refine Ro.nil ?_
    refine Nrm.code ?_
    refine Run.seq ?_
    refine Run.seq ?_
    refine Run.region ?_
    refine mv1 rfl rfl ?_
    refine lenS rfl hw Tryd.underlying132 rfl rfl rfl ?_
    refine mv1 rfl rfl ?_
    refine Ro.nil ?_
    refine Nrm.code ?_
    refine Run.block ?_
    refine Run.loop3 (fun (i : Nat) (u : Value) (p : Nat) w_ => i ≤ ws.length ∧ p = (ws.take i).sum.toNat ∧ St [] w [oI u (fieldsS l 0 (ws.take i)), .var b8 31 [.int .i64 0], .var b7 3 [.int .i64 0], .var b6 132 [u]] w_) (fun (i : Nat) (u : Value) (p : Nat) => [(0, [], v), (1, [], .int .i64 0), (2, [], vw), (6, [], .pointer (some ⟨b6, 0, none⟩)), (7, [], .pointer (some ⟨b7, 0, none⟩)), (8, [], .pointer (some ⟨b8, 0, none⟩)), (9, [], .int .i64 (ws.sum / 8)), (10, [], cut v 0 (0 + nb) (0 + nb)), (11, [], .int .i64 p), (28, [], vw), (29, [], .int .i64 ws.length), (30, [], .int .i64 i)]) (fun (i : Nat) (u : Value) (p : Nat) => ws.length - i) (0) (.slice none 0 0) (0) ⟨Nat.zero_le _, rfl, S⟩ ⟨rfl, rfl, rfl, rfl, rfl, rfl, by rw [hnb]; rfl, rfl, rfl, rfl, rfl, rfl, trivial⟩ ?_
    rintro i u p w7 ⟨hi, hp0, S⟩
    have hsb := sum_take_bd hws i
    refine Run.seq ?_
    refine Run.region ?_
    refine lss1 rfl rfl rfl ?_
    refine Ro.nil ?_
    refine Nrm.code ?_
    refine Run.seq ?_
    refine Run.cond rfl (fun hc8 => ?_) (fun hc8 => ?_)
    ·
      try simp only [Bool.or_eq_true, Bool.and_eq_true, Bool.or_eq_false_iff, Bool.and_eq_false_iff, decide_eq_true_eq, decide_eq_false_iff_not, Bool.not_eq_true', Bool.not_eq_false', Bool.not_eq_true, Bool.not_eq_false] at hc8
      refine Run.skip ?_
      refine Nrm.code ?_
      refine Run.seq ?_
      refine Run.block ?_
      refine Run.seq ?_
      refine Run.region ?_
      refine ixa rfl rfl hw e132 rfl rfl rfl rfl (fun _ => by omega) ?_
      refine ldI rfl hw S T3 rfl rfl rfl (fun _ => by omega) ?_
      intro q33 hq33
      try simp only [Int.toNat_natCast, Nat.mul_one] at hq33
      refine asg1 rfl rfl ?_
      refine Ro.nil ?_
      refine Nrm.code ?_
      refine Run.seq ?_
      refine Run.region ?_
      refine asg1 rfl rfl ?_
      refine Ro.nil ?_
      refine Nrm.code ?_
      refine Run.seq ?_
      refine Run.seq ?_
      refine Run.region ?_
      refine mv1 rfl rfl ?_
      refine mv1 rfl rfl ?_
      refine Ro.nil ?_
      refine Nrm.code ?_
      refine Run.block ?_
      have hwi := hws _ (getD_mem (d := 0) (show i < ws.length by omega))
      have hsi := sum_take_bd hws (i + 1)
      rw [sum_take_succ (by omega)] at hsi
      refine Run.loop3 (fun (m : Nat) (p : Nat) (q : Int) w_ => m ≤ (ws.getD i 0).toNat ∧ p = (ws.take i).sum.toNat + m ∧ q = fv l (ws.take i).sum.toNat m ∧ St [] w [oI u (fieldsS l 0 (ws.take i)), .var b8 31 [.int .i64 0], .var b7 3 [.int .i64 0], .var b6 132 [u]] w_) (fun (m : Nat) (p : Nat) (q : Int) => [(0, [], v), (1, [], .int .i64 0), (2, [], vw), (6, [], .pointer (some ⟨b6, 0, none⟩)), (7, [], .pointer (some ⟨b7, 0, none⟩)), (8, [], .pointer (some ⟨b8, 0, none⟩)), (9, [], .int .i64 (ws.sum / 8)), (10, [], cut v 0 (0 + nb) (0 + nb)), (11, [], .int .i64 p), (14, [], .int .i64 q), (28, [], vw), (29, [], .int .i64 ws.length), (30, [], .int .i64 i), (34, [], .int .i64 q33), (35, [], .int .i64 m)]) (fun (m : Nat) (p : Nat) (q : Int) => (ws.getD i 0).toNat - m) (0) (_) (0) ⟨Nat.zero_le _, by omega, rfl, S⟩ ⟨rfl, rfl, rfl, rfl, rfl, rfl, rfl, rfl, rfl, rfl, rfl, rfl, rfl, rfl, rfl, trivial⟩ ?_
      rintro m p q w8 ⟨hm, hp1, hq, S⟩
      have hfb := fv_bd l (ws.take i).sum.toNat m
      have hfp : (2 : Int) ^ m ≤ 4294967296 := by
        have : (2 : Nat) ^ m ≤ 2 ^ 32 := Nat.pow_le_pow_right (by omega) (by omega)
        have h2 : ((2 ^ m : Nat) : Int) ≤ ((2 ^ 32 : Nat) : Int) := Int.ofNat_le.2 this
        simpa using h2
      refine Run.seq ?_
      refine Run.region ?_
      refine lss1 rfl rfl rfl ?_
      refine Ro.nil ?_
      refine Nrm.code ?_
      refine Run.seq ?_
      refine Run.cond rfl (fun hc12 => ?_) (fun hc12 => ?_)
      ·
        try simp only [Bool.or_eq_true, Bool.and_eq_true, Bool.or_eq_false_iff, Bool.and_eq_false_iff, decide_eq_true_eq, decide_eq_false_iff_not, Bool.not_eq_true', Bool.not_eq_false', Bool.not_eq_true, Bool.not_eq_false] at hc12
        refine Run.skip ?_
        refine Nrm.code ?_
        refine Run.seq ?_
        refine Run.block ?_
        refine Run.seq ?_
        refine Run.region ?_
        refine mv1 rfl rfl ?_
        refine shl rfl rfl rfl rfl rfl rfl (fun _ => by decide) (fun _ => sl1 (by omega)) ?_
        refine mv1 rfl rfl ?_
        refine mv1 rfl rfl ?_
        refine quo1 rfl rfl rfl (by decide) (q64 (by omega)) ?_
        refine calg (vs := [_, _]) rfl ⟨⟨_, _, rfl, rfl⟩, ⟨_, _, rfl, rfl⟩, trivial⟩ k143 rfl (fun hG => c143 _ _ _ _ (hp.now S) (by rw [hpl]; omega) (by rw [hpl]; omega)) ?_
        intro w9 B_; have S := S.call B_
        have hqe : ((l.drop 0).take (0 + nb - 0)).getD ((p : Int) / 8).toNat 0 = l.getD (p / 8) 0 := by rw [show ((p : Int) / 8).toNat = p / 8 from by omega]; exact hpg _ (by omega)
        rw [hqe]
        have hqb := byt_getD hb.1 (p / 8)
        have hqd := byte_div hqb (7 - p % 8)
        have hbb := bitAt_bd l p
        refine mv1 rfl rfl ?_
        refine rem1 rfl rfl rfl (by decide) (r64 (by omega)) ?_
        refine cvi1 rfl rfl Tryd.underlying3 Tryd.underlying135 (wu64 (by omega)) ?_
        refine sub1 rfl rfl rfl (wu64 (by omega)) ?_
        refine shr rfl rfl rfl rfl rfl rfl (fun _ => by omega) (fun _ => shU8) ?_
        refine band rfl rfl rfl rfl rfl rfl (fun _ => anU8 hqd) ?_
        refine cvi1 rfl rfl Tryd.underlying5 Tryd.underlying3 (w64 (by omega)) ?_
        refine bor rfl rfl rfl rfl rfl rfl (fun _ => or1 (by omega) (show 0 ≤ bitAt l p ∧ bitAt l p ≤ 1 from hbb)) ?_
        refine asg1 rfl rfl ?_
        refine Ro.nil ?_
        refine Nrm.code ?_
        refine Run.region ?_
        refine mv1 rfl rfl ?_
        refine add1 rfl rfl rfl (w64 (by omega)) ?_
        refine asg1 rfl rfl ?_
        refine Ro.nil ?_
        refine Nrm.blk ?_
        refine Nrm.code ?_
        refine Run.region ?_
        refine add1 rfl rfl rfl (w64 (by omega)) ?_
        refine mv1 rfl rfl ?_
        refine Ro.nil ?_
        refine Nrm.loop3 (m + 1) (p + 1) (_) ⟨by omega, by omega, by rw [hq, hp1]; rfl, S⟩ (by omega) ⟨rfl, rfl, rfl, rfl, rfl, rfl, rfl, rfl, rfl, rfl, rfl, rfl, rfl, rfl, rfl, trivial⟩
      ·
        try simp only [Bool.or_eq_true, Bool.and_eq_true, Bool.or_eq_false_iff, Bool.and_eq_false_iff, decide_eq_true_eq, decide_eq_false_iff_not, Bool.not_eq_true', Bool.not_eq_false', Bool.not_eq_true, Bool.not_eq_false] at hc12
        refine Run.exit ?_
        refine Lv.code ?_
        refine Lv.back ?_
        refine Lv.hit ?_
        refine Nrm.code ?_
        refine Run.region ?_
        refine ld1 rfl T132 S (i := 3) rfl rfl rfl rfl rfl ?_
        refine mv1 rfl rfl ?_
        refine apIF (b := [_]) rfl e132 (qs := [(_, _)]) ⟨⟨_, _, _, rfl, rfl, rfl, rfl, by simp [Value.cells]⟩, trivial⟩ (by decide) rfl rfl S (i := 0) rfl rfl rfl (fun t e => by cases e; rfl) (fun _ => rfl) (by simp only [fieldsS_len, List.length_take]; omega) ?_
        intro u_ u2 w9 S B_
        refine st1 rfl rfl T132 (S.slI (i := 0) rfl).one S (i := 3) rfl rfl rfl ?_
        intro w10 S
        refine Ro.nil ?_
        refine Nrm.blk ?_
        refine Nrm.code ?_
        refine Run.region ?_
        refine add1 rfl rfl rfl (w64 (by omega)) ?_
        refine mv1 rfl rfl ?_
        refine Ro.nil ?_
        refine Nrm.loop3 (i + 1) (_) (_) ⟨by omega, by rw [sum_take_succ (by omega)]; omega, S.eqv (by rw [fields_take_succ (by omega) (fun x hx => by have := hws x hx; omega), hq, show m = (ws.getD i 0).toNat from by omega])⟩ (by omega) ⟨rfl, rfl, rfl, rfl, rfl, rfl, rfl, rfl, rfl, rfl, rfl, rfl, trivial⟩
    ·
      try simp only [Bool.or_eq_true, Bool.and_eq_true, Bool.or_eq_false_iff, Bool.and_eq_false_iff, decide_eq_true_eq, decide_eq_false_iff_not, Bool.not_eq_true', Bool.not_eq_false', Bool.not_eq_true, Bool.not_eq_false] at hc8
      refine Run.exit ?_
      refine Lv.code ?_
      refine Lv.back ?_
      refine Lv.hit ?_
      refine Nrm.code ?_
      refine Run.seq ?_
      refine Run.region ?_
      refine ld1 rfl T132 S (i := 3) rfl rfl rfl rfl rfl ?_
      refine mv1 rfl rfl ?_
      refine mv1 rfl rfl ?_
      refine add1 rfl rfl rfl (w64 (by omega)) ?_
      refine st1 rfl rfl T132 (S.slI (i := 0) rfl).one S (i := 3) rfl rfl rfl ?_
      intro w8 S
      refine st1 rfl rfl T3 rfl S (i := 2) rfl rfl rfl ?_
      intro w9 S
      refine st1 rfl rfl T31 rfl S (i := 1) rfl rfl rfl ?_
      intro w10 S
      refine Ro.nil ?_
      refine Nrm.code ?_
      refine Run.ret ?_
      refine Rt.f101 rfl rfl rfl S (i6 := 3) (i7 := 2) (i8 := 1) rfl rfl rfl ?_
      have e : i = ws.length := by omega
      subst e
      rw [List.take_length] at S
      refine ⟨u, ?_, S.toFI (i := 0) rfl⟩
      simp

end Go.Proofs.YtkahmepenjhcpaaDoor.W
