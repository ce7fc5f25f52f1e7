/- Texts of the proofs of this seat, packed into one (Sg Cu Cv Cw Cs Sh Cx Cy Cz Si Sj Lm Sk Lr Ls Da Lt Lo). No statement of the seat is proved here. -/
import Derived.Test.YtkahmepenjhcpaaDoorKd
/- Plain laws of datagrams: what is written is read as it was. No program walked here; no statement of the seat is proved here. -/
namespace Go.Proofs.YtkahmepenjhcpaaDoor.W
open Go
set_option linter.unusedVariables false
set_option linter.unusedSimpArgs false
/-- a datagram's first twenty bytes, the sum in its place -/
def hd20 (h : Ip4) : List Int :=
  [4 * 16 + (20 + ((putL h.opts).length : Int)) / 4, h.tos, (20 + ((putL h.opts).length : Int) + (h.data.length : Int)) / 256, (20 + ((putL h.opts).length : Int) + (h.data.length : Int)) % 256, h.id / 256, h.id % 256,
   bI h.df * 64 + bI h.mf * 32 + h.off / 8 / 256, h.off / 8 % 256, h.ttl, h.proto, sumC h / 256, sumC h % 256, h.src.a 0, h.src.a 1, h.src.a 2, h.src.a 3, h.dst.a 0, h.dst.a 1, h.dst.a 2, h.dst.a 3]
/-- a datagram that may be one, its addresses' last twelve places told -/
def norm4 (x : IP) : IP := ip4of (x.a 0) (x.a 1) (x.a 2) (x.a 3)
def normH (h : Ip4) : Ip4 := { h with src := norm4 h.src, dst := norm4 h.dst }
end Go.Proofs.YtkahmepenjhcpaaDoor.W
/- Contracts: the reference reads. No statement of the seat is proved here. -/
namespace Go.Proofs.YtkahmepenjhcpaaDoor.W
open Go
set_option linter.unusedSimpArgs false
set_option linter.unusedVariables false
set_option maxHeartbeats 1000000 in
theorem c42 (v : Value) (b : List Int) (w : World) (hb : BS [] w v b) :
  CallsV Tryd.prog 42 #[v] w (fun r w' => ∃ o d, r = .tuple #[.agg (encIp4 (parH b) o d).toArray, .int .i64 (parE b)] ∧ FH w w' o d (parH b)) := by
 refine enter Tryd.func42 rfl Tryd.ntmps42 (l := [(0, [], _)]) rfl rfl ?_
 have S := St.refl [] w
 have hB := byt_at hb.1
 have hfl := fields_ip4 hB
 have g0 := hB 0
 have g2 := hB 2
 have g3 := hB 3
 have g6 := hB 6
 have g7 := hB 7
 have hH : 4 * (b.getD 0 0 % 16) = (hdN b : Int) := by unfold hdN; omega
 have hT : totI b = (totN b : Int) := by unfold totN totI; omega
 have hTb : totN b < 65536 := by unfold totN totI; omega
 have hHb : hdN b ≤ 60 := by omega
 rw [hT] at hfl
 have hwb : 0 ≤ offW b ∧ offW b < 8192 := by unfold offW; omega
 have hoe := optE_le (optB4 b)
 have ho4 : optE (optB4 b) = optE ((b.drop 20).take (hdN b - 20)) := rfl
 have hT2 : 256 * b.getD 2 0 + b.getD (2 + 1) 0 = (totN b : Int) := (show 256 * b.getD 2 0 + b.getD 3 0 = (totN b : Int) from by unfold totN totI; omega)
 have h45 : 256 * b.getD 4 0 + b.getD (4 + 1) 0 = b.getD 4 0 * 256 + b.getD 5 0 := (show 256 * b.getD 4 0 + b.getD 5 0 = b.getD 4 0 * 256 + b.getD 5 0 from by omega)
 have h67 : 256 * b.getD 6 0 + b.getD (6 + 1) 0 = 256 * b.getD 6 0 + b.getD 7 0 := rfl
 have hR0 : ∀ i ∈ List.range w.heap.size, i < w.heap.size := fun i hi => List.mem_range.1 hi
 refine Run.seq ?_
 refine Run.region ?_
 refine alc T28 S rfl ?_
 intro b2 w1 hb2 S B_
 refine asg1 rfl rfl ?_
 refine Ro.nil ?_
 refine Nrm.code ?_
 refine Run.seq ?_
 refine Run.region ?_
 refine bld B28 (qs := []) trivial rfl rfl rfl ?_
 refine alc T28 S rfl ?_
 intro b4 w2 hb4 S B_
 refine stW rfl rfl T28 rfl rfl (by simp [Value.oneCell']) S (i := 0) rfl rfl ?_
 intro w3 S
 refine Ro.nil ?_
 refine Nrm.code ?_
 refine Run.seq ?_
 refine Run.seq ?_
 refine Run.region ?_
 refine mv1 rfl rfl ?_
 refine lenS rfl hb.2 Tryd.underlying26 rfl rfl rfl ?_
 refine gtr1 rfl rfl rfl ?_
 refine Ro.nil ?_
 refine Nrm.code ?_
 refine Run.cond rfl (fun hc2 => ?_) (fun hc2 => ?_)
 ·
  try simp only [Bool.or_eq_true, Bool.and_eq_true, Bool.or_eq_false_iff, Bool.and_eq_false_iff, decide_eq_true_eq, decide_eq_false_iff_not, Bool.not_eq_true', Bool.not_eq_false', Bool.not_eq_true, Bool.not_eq_false] at hc2
  refine Run.seq ?_
  refine Run.region ?_
  refine ldW rfl T28 S (i := 0) rfl rfl rfl rfl rfl ?_
  refine stW rfl rfl T28 rfl rfl (by simp [Value.oneCell']) S (i := 1) rfl rfl ?_
  intro w4 S
  refine asg1 rfl rfl ?_
  refine Ro.nil ?_
  refine Nrm.code ?_
  refine Run.ret ?_
  refine Rt.cell2 rfl rfl rfl T28 S (i := 1) rfl rfl ?_
  have he : parE b = 2 := by
   unfold parE
   rw [if_pos (by omega)]
  exact ⟨.slice none 0 0, .slice none 0 0, by rw [parH_err he (by omega), he]; rfl, S.bl, fun _ _ => by rw [parH_err he (by omega)]; exact ⟨OS.nil _ _, BS.nil _ _⟩⟩
 ·
  try simp only [Bool.or_eq_true, Bool.and_eq_true, Bool.or_eq_false_iff, Bool.and_eq_false_iff, decide_eq_true_eq, decide_eq_false_iff_not, Bool.not_eq_true', Bool.not_eq_false', Bool.not_eq_true, Bool.not_eq_false] at hc2
  refine Run.skip ?_
  refine Nrm.code ?_
  refine Run.seq ?_
  refine Run.seq ?_
  refine Run.region ?_
  refine mv1 rfl rfl ?_
  refine lenS rfl hb.2 Tryd.underlying26 rfl rfl rfl ?_
  refine lss1 rfl rfl rfl ?_
  refine Ro.nil ?_
  refine Nrm.code ?_
  refine Run.cond rfl (fun hc4 => ?_) (fun hc4 => ?_)
  ·
   try simp only [Bool.or_eq_true, Bool.and_eq_true, Bool.or_eq_false_iff, Bool.and_eq_false_iff, decide_eq_true_eq, decide_eq_false_iff_not, Bool.not_eq_true', Bool.not_eq_false', Bool.not_eq_true, Bool.not_eq_false] at hc4
   refine Run.seq ?_
   refine Run.region ?_
   refine ldW rfl T28 S (i := 0) rfl rfl rfl rfl rfl ?_
   refine stW rfl rfl T28 rfl rfl (by simp [Value.oneCell']) S (i := 1) rfl rfl ?_
   intro w4 S
   refine asg1 rfl rfl ?_
   refine Ro.nil ?_
   refine Nrm.code ?_
   refine Run.ret ?_
   refine Rt.cell2 rfl rfl rfl T28 S (i := 1) rfl rfl ?_
   have he : parE b = 60 := by
    unfold parE
    rw [if_neg (by omega), if_pos (by omega)]
   exact ⟨.slice none 0 0, .slice none 0 0, by rw [parH_err he (by omega), he]; rfl, S.bl, fun _ _ => by rw [parH_err he (by omega)]; exact ⟨OS.nil _ _, BS.nil _ _⟩⟩
  ·
   try simp only [Bool.or_eq_true, Bool.and_eq_true, Bool.or_eq_false_iff, Bool.and_eq_false_iff, decide_eq_true_eq, decide_eq_false_iff_not, Bool.not_eq_true', Bool.not_eq_false', Bool.not_eq_true, Bool.not_eq_false] at hc4
   refine Run.skip ?_
   refine Nrm.code ?_
   refine Run.seq ?_
   refine Run.region ?_
   refine mv1 rfl rfl ?_
   refine ixa rfl rfl hb.2 e26 rfl rfl rfl rfl (fun _ => by first | omega | (simp only [List.length_cons, List.length_nil]; omega)) ?_
   refine ldB rfl hb S T5 rfl rfl rfl (fun _ => by omega) ?_
   intro q23 hq23 hbq23
   try simp only [Int.toNat_natCast, Nat.mul_one, Int.reduceToNat] at hq23
   refine rem1 rfl rfl rfl (by decide) (r64 (by omega)) ?_
   refine cvi1 rfl rfl Tryd.underlying5 Tryd.underlying3 (w64 (by omega)) ?_
   refine mul1 rfl rfl rfl ((show IntKind.i64.wrap (_ * 4) = (hdN b : Int) from by rw [w64 (by omega)]; omega)) ?_
   refine asg1 rfl rfl ?_
   refine Ro.nil ?_
   refine Nrm.code ?_
   refine Run.seq ?_
   refine Run.region ?_
   refine mv1 rfl rfl ?_
   refine calg (vs := [_, _]) rfl ⟨⟨_, _, rfl, rfl⟩, ⟨_, _, rfl, rfl⟩, trivial⟩ k111 rfl (fun hG => (by have := c111 _ _ 2 _ (hb.now S) (by omega) (by omega); rw [hT2] at this; exact this)) ?_
   intro w4 B_; have S := S.call B_
   refine asg1 rfl rfl ?_
   refine Ro.nil ?_
   refine Nrm.code ?_
   refine Run.seq ?_
   refine Run.block ?_
   refine Run.seq ?_
   refine Run.region ?_
   refine mv1 rfl rfl ?_
   refine ixa rfl rfl hb.2 e26 rfl rfl rfl rfl (fun _ => by first | omega | (simp only [List.length_cons, List.length_nil]; omega)) ?_
   refine ldB rfl hb S T5 rfl rfl rfl (fun _ => by omega) ?_
   intro q32 hq32 hbq32
   try simp only [Int.toNat_natCast, Nat.mul_one, Int.reduceToNat] at hq32
   refine quo1 rfl rfl rfl (by decide) ((show IntKind.u8.wrap (Int.tdiv q32 16) = b.getD 0 0 / 16 from by rw [Int.tdiv_eq_ediv_of_nonneg (by omega), hq32]; exact w8of rfl (by omega))) ?_
   refine neq1 rfl rfl rfl ?_
   refine asg1 rfl rfl ?_
   refine Ro.nil ?_
   refine Nrm.code ?_
   refine Run.cond rfl (fun hc8 => ?_) (fun hc8 => ?_)
   ·
    try simp only [Bool.or_eq_true, Bool.and_eq_true, Bool.or_eq_false_iff, Bool.and_eq_false_iff, decide_eq_true_eq, decide_eq_false_iff_not, Bool.not_eq_true', Bool.not_eq_false', Bool.not_eq_true, Bool.not_eq_false] at hc8
    refine Run.seq ?_
    refine Run.region ?_
    refine ldW rfl T28 S (i := 0) rfl rfl rfl rfl rfl ?_
    refine stW rfl rfl T28 rfl rfl (by simp [Value.oneCell']) S (i := 1) rfl rfl ?_
    intro w5 S
    refine asg1 rfl rfl ?_
    refine Ro.nil ?_
    refine Nrm.code ?_
    refine Run.ret ?_
    refine Rt.cell2 rfl rfl rfl T28 S (i := 1) rfl rfl ?_
    have he : parE b = 61 := by
     unfold parE
     rw [if_neg (by omega), if_neg (by omega), if_pos (by omega)]
    exact ⟨.slice none 0 0, .slice none 0 0, by rw [parH_err he (by omega), he]; rfl, S.bl, fun _ _ => by rw [parH_err he (by omega)]; exact ⟨OS.nil _ _, BS.nil _ _⟩⟩
   ·
    try simp only [Bool.or_eq_true, Bool.and_eq_true, Bool.or_eq_false_iff, Bool.and_eq_false_iff, decide_eq_true_eq, decide_eq_false_iff_not, Bool.not_eq_true', Bool.not_eq_false', Bool.not_eq_true, Bool.not_eq_false] at hc8
    refine Run.seq ?_
    refine Run.region ?_
    refine mv1 rfl rfl ?_
    refine lss1 rfl rfl rfl ?_
    refine mv1 rfl rfl ?_
    refine mv rfl rfl rfl rfl ?_
    refine mv rfl rfl rfl rfl ?_
    refine lenS rfl hb.2 Tryd.underlying26 rfl rfl rfl ?_
    refine gtr rfl rfl rfl rfl rfl rfl ?_
    refine pkO rfl rfl rfl rfl rfl rfl ?_
    refine asg1 rfl rfl ?_
    refine Ro.nil ?_
    refine Nrm.code ?_
    refine Run.cond rfl (fun hc10 => ?_) (fun hc10 => ?_)
    ·
     try simp only [Bool.or_eq_true, Bool.and_eq_true, Bool.or_eq_false_iff, Bool.and_eq_false_iff, decide_eq_true_eq, decide_eq_false_iff_not, Bool.not_eq_true', Bool.not_eq_false', Bool.not_eq_true, Bool.not_eq_false] at hc10
     refine Run.seq ?_
     refine Run.region ?_
     refine ldW rfl T28 S (i := 0) rfl rfl rfl rfl rfl ?_
     refine stW rfl rfl T28 rfl rfl (by simp [Value.oneCell']) S (i := 1) rfl rfl ?_
     intro w5 S
     refine asg1 rfl rfl ?_
     refine Ro.nil ?_
     refine Nrm.code ?_
     refine Run.ret ?_
     refine Rt.cell2 rfl rfl rfl T28 S (i := 1) rfl rfl ?_
     have he : parE b = 62 := by
      unfold parE
      rw [if_neg (by omega), if_neg (by omega), if_neg (by omega), if_pos (by omega)]
     exact ⟨.slice none 0 0, .slice none 0 0, by rw [parH_err he (by omega), he]; rfl, S.bl, fun _ _ => by rw [parH_err he (by omega)]; exact ⟨OS.nil _ _, BS.nil _ _⟩⟩
    ·
     try simp only [Bool.or_eq_true, Bool.and_eq_true, Bool.or_eq_false_iff, Bool.and_eq_false_iff, decide_eq_true_eq, decide_eq_false_iff_not, Bool.not_eq_true', Bool.not_eq_false', Bool.not_eq_true, Bool.not_eq_false] at hc10
     refine Run.seq ?_
     refine Run.region ?_
     refine mv1 rfl rfl ?_
     refine mv1 rfl rfl ?_
     refine lss1 rfl rfl rfl ?_
     refine mv1 rfl rfl ?_
     refine mv rfl rfl rfl rfl ?_
     refine mv rfl rfl rfl rfl ?_
     refine lenS rfl hb.2 Tryd.underlying26 rfl rfl rfl ?_
     refine gtr rfl rfl rfl rfl rfl rfl ?_
     refine pkO rfl rfl rfl rfl rfl rfl ?_
     refine asg1 rfl rfl ?_
     refine Ro.nil ?_
     refine Nrm.code ?_
     refine Run.cond rfl (fun hc12 => ?_) (fun hc12 => ?_)
     ·
      try simp only [Bool.or_eq_true, Bool.and_eq_true, Bool.or_eq_false_iff, Bool.and_eq_false_iff, decide_eq_true_eq, decide_eq_false_iff_not, Bool.not_eq_true', Bool.not_eq_false', Bool.not_eq_true, Bool.not_eq_false] at hc12
      refine Run.seq ?_
      refine Run.region ?_
      refine ldW rfl T28 S (i := 0) rfl rfl rfl rfl rfl ?_
      refine stW rfl rfl T28 rfl rfl (by simp [Value.oneCell']) S (i := 1) rfl rfl ?_
      intro w5 S
      refine asg1 rfl rfl ?_
      refine Ro.nil ?_
      refine Nrm.code ?_
      refine Run.ret ?_
      refine Rt.cell2 rfl rfl rfl T28 S (i := 1) rfl rfl ?_
      have he : parE b = 63 := by
       unfold parE
       rw [if_neg (by omega), if_neg (by omega), if_neg (by omega), if_neg (by omega), if_pos (by omega)]
      exact ⟨.slice none 0 0, .slice none 0 0, by rw [parH_err he (by omega), he]; rfl, S.bl, fun _ _ => by rw [parH_err he (by omega)]; exact ⟨OS.nil _ _, BS.nil _ _⟩⟩
     ·
      try simp only [Bool.or_eq_true, Bool.and_eq_true, Bool.or_eq_false_iff, Bool.and_eq_false_iff, decide_eq_true_eq, decide_eq_false_iff_not, Bool.not_eq_true', Bool.not_eq_false', Bool.not_eq_true, Bool.not_eq_false] at hc12
      refine Run.skip ?_
      refine Nrm.blk ?_
      refine Nrm.code ?_
      refine Run.seq ?_
      refine Run.region ?_
      refine mv1 rfl rfl ?_
      refine mv1 rfl rfl ?_
      refine slC (lo := 0) (hi := hdN b) (mx := capV v) rfl hb e26 rfl rfl rfl (i1 := none) (i2 := some (hdN b)) (i3 := none) trivial ⟨_, _, _, rfl, rfl⟩ trivial rfl rfl rfl (fun h => by first | rfl | cases h) (fun hG => by (try simp [allT] at hG); have hcap := hb.cap; omega) ?_
      have hv59 := hb.cut (lo := 0) (hi := hdN b) (mx := capV v) (by have hcap := hb.cap; omega)
      refine bsl e102 (qs := [(_, _)]) ⟨⟨_, _, _, rfl, rfl, cells1 hv59.one, rfl, List.cons_ne_nil _ _⟩, trivial⟩ rfl rfl rfl rfl S ?_
      intro u60 w5 S B_
      have hgd : CallsD Tryd.prog 112 #[u60] w5 (.bool (decide (sumS (b.take (hdN b)) = 65535))) := by
       have := c112 u60 [b.take (hdN b)] w5 ⟨[_], S.slI (i := 0) rfl, hv59.now S, trivial⟩ (by rw [flat1, List.length_take]; omega) (by simp)
       rw [flat1] at this
       exact this
      refine calg (vs := [_]) rfl ⟨⟨_, _, rfl, rfl⟩, trivial⟩ k112 rfl (fun hG => hgd) ?_
      intro w6 B_; have S := S.call B_
      refine asg1 rfl rfl ?_
      refine Ro.nil ?_
      refine Nrm.code ?_
      refine Run.seq ?_
      refine Run.seq ?_
      refine Run.region ?_
      refine mv1 rfl rfl ?_
      refine nt1 rfl rfl ?_
      refine Ro.nil ?_
      refine Nrm.code ?_
      refine Run.cond rfl (fun hc15 => ?_) (fun hc15 => ?_)
      ·
       try simp only [Bool.or_eq_true, Bool.and_eq_true, Bool.or_eq_false_iff, Bool.and_eq_false_iff, decide_eq_true_eq, decide_eq_false_iff_not, Bool.not_eq_true', Bool.not_eq_false', Bool.not_eq_true, Bool.not_eq_false] at hc15
       refine Run.seq ?_
       refine Run.region ?_
       refine ldW rfl T28 S (i := 1) rfl rfl rfl rfl rfl ?_
       refine stW rfl rfl T28 rfl rfl (by simp [Value.oneCell']) S (i := 2) rfl rfl ?_
       intro w7 S
       refine asg1 rfl rfl ?_
       refine Ro.nil ?_
       refine Nrm.code ?_
       refine Run.ret ?_
       refine Rt.cell2 rfl rfl rfl T28 S (i := 2) rfl rfl ?_
       have he : parE b = 64 := by
        unfold parE
        rw [if_neg (by omega), if_neg (by omega), if_neg (by omega), if_neg (by omega), if_neg (by omega), if_pos (show sumS (b.take (hdN b)) ≠ 65535 from by simpa using hc15)]
       exact ⟨.slice none 0 0, .slice none 0 0, by rw [parH_err he (by omega), he]; rfl, S.bl, fun _ _ => by rw [parH_err he (by omega)]; exact ⟨OS.nil _ _, BS.nil _ _⟩⟩
      ·
       try simp only [Bool.or_eq_true, Bool.and_eq_true, Bool.or_eq_false_iff, Bool.and_eq_false_iff, decide_eq_true_eq, decide_eq_false_iff_not, Bool.not_eq_true', Bool.not_eq_false', Bool.not_eq_true, Bool.not_eq_false] at hc15
       refine Run.skip ?_
       refine Nrm.code ?_
       refine Run.seq ?_
       refine Run.region ?_
       refine mv1 rfl rfl ?_
       refine mv1 rfl rfl ?_
       refine slC (lo := 20) (hi := hdN b) (mx := capV v) rfl hb e26 rfl rfl rfl (i1 := some 20) (i2 := some (hdN b)) (i3 := none) ⟨_, _, _, rfl, rfl⟩ ⟨_, _, _, rfl, rfl⟩ trivial rfl rfl rfl (fun h => by first | rfl | cases h) (fun hG => by (try simp [allT] at hG); have hcap := hb.cap; omega) ?_
       have hv68 := hb.cut (lo := 20) (hi := hdN b) (mx := capV v) (by have hcap := hb.cap; omega)
       have S0 := S
       have SS0 := S
       refine call (vs := [_]) ⟨⟨_, _, rfl, rfl⟩, trivial⟩ k45 rfl (c45 _ _ _ (hv68.now S)) ?_
       rintro _ w7 ⟨o8, rfl, hFO⟩
       have S := S.call hFO.1
       have ho8 := hFO.2 _ S0.lt
       have ho8F := hFO.2 _ SS0.ltR
       obtain ⟨N1, hN1, S_1⟩ := S.reb
       have hb := hb.st S; rw [hN1] at hb
       rw [hN1] at ho8
       rw [hN1] at ho8F
       have SS := S
       have S := S_1
       refine mv1 rfl rfl ?_
       refine extr1 rfl rfl rfl ?_
       refine extr1 rfl rfl rfl ?_
       refine asg1 rfl rfl ?_
       refine asg1 rfl rfl ?_
       refine Ro.nil ?_
       refine Nrm.code ?_
       refine Run.seq ?_
       refine Run.seq ?_
       refine Run.region ?_
       refine mv1 rfl rfl ?_
       refine neq1 rfl rfl rfl ?_
       refine Ro.nil ?_
       refine Nrm.code ?_
       refine Run.cond rfl (fun hc18 => ?_) (fun hc18 => ?_)
       ·
        try simp only [Bool.or_eq_true, Bool.and_eq_true, Bool.or_eq_false_iff, Bool.and_eq_false_iff, decide_eq_true_eq, decide_eq_false_iff_not, Bool.not_eq_true', Bool.not_eq_false', Bool.not_eq_true, Bool.not_eq_false] at hc18
        refine Run.seq ?_
        refine Run.region ?_
        refine ldW rfl T28 S (i := 1) rfl rfl rfl rfl rfl ?_
        refine mv1 rfl rfl ?_
        refine stW rfl rfl T28 rfl rfl (by simp [Value.oneCell']) S (i := 2) rfl rfl ?_
        intro w8 S
        refine asg1 rfl rfl ?_
        refine Ro.nil ?_
        refine Nrm.code ?_
        refine Run.ret ?_
        refine Rt.cell2 rfl rfl rfl T28 S (i := 2) rfl rfl ?_
        have he : parE b = optE (optB4 b) := by
         unfold parE
         rw [if_neg (by omega), if_neg (by omega), if_neg (by omega), if_neg (by omega), if_neg (by omega), if_neg (by omega), if_pos (show optE (optB4 b) ≠ 0 from hc18)]
        exact ⟨.slice none 0 0, .slice none 0 0, by rw [parH_err he (by omega), he]; rfl, (SS.tran hN1 S).bl, fun _ _ => by rw [parH_err he (by omega)]; exact ⟨OS.nil _ _, BS.nil _ _⟩⟩
       ·
        try simp only [Bool.or_eq_true, Bool.and_eq_true, Bool.or_eq_false_iff, Bool.and_eq_false_iff, decide_eq_true_eq, decide_eq_false_iff_not, Bool.not_eq_true', Bool.not_eq_false', Bool.not_eq_true, Bool.not_eq_false] at hc18
        refine Run.skip ?_
        refine Nrm.code ?_
        refine Run.seq ?_
        refine Run.region ?_
        refine mv1 rfl rfl ?_
        refine calg (vs := [_, _]) rfl ⟨⟨_, _, rfl, rfl⟩, ⟨_, _, rfl, rfl⟩, trivial⟩ k111 rfl (fun hG => (by have := c111 _ _ 6 _ (hb.now S) (by omega) (by omega); rw [h67] at this; exact this)) ?_
        intro w8 B_; have S := S.call B_
        refine asg1 rfl rfl ?_
        refine Ro.nil ?_
        refine Nrm.code ?_
        refine Run.seq ?_
        refine Run.heldB (by kernel_rfl) S [true, true, true] rfl rfl rfl ?_
        intro w9 BD S SC
        refine Hb.take (i := 0) SC (fun _ _ S B => S.call B) Pp.body rfl (by kernel_rfl) (by kernel_rfl) (by kernel_rfl) rfl rfl ?_
        refine qmv rfl rfl rfl rfl ?_
        refine Hb.back ?_
        refine Hb.take (i := 1) SC (fun _ _ S B => S.call B) Pp.body rfl (by kernel_rfl) (by kernel_rfl) (by kernel_rfl) rfl rfl ?_
        refine qixa rfl rfl hb.2 e26 rfl rfl rfl rfl (fun _ => by first | omega | (simp only [List.length_cons, List.length_nil]; omega)) ?_
        refine Hb.back ?_
        refine Hb.take (i := 2) SC (fun _ _ S B => S.call B) Pp.body rfl (by kernel_rfl) (by kernel_rfl) (by kernel_rfl) rfl rfl ?_
        refine qldB rfl hb (fun _ S => S) T5 rfl rfl rfl (fun _ => by omega) ?_
        intro q80 hq80 hbq80
        try simp only [Int.toNat_natCast, Nat.mul_one, Int.reduceToNat] at hq80
        refine Hb.back ?_
        refine Hb.take (i := 3) SC (fun _ _ S B => S.call B) Pp.body rfl (by kernel_rfl) (by kernel_rfl) (by kernel_rfl) rfl rfl ?_
        refine qcvi rfl rfl rfl rfl Tryd.underlying5 Tryd.underlying3 (fun _ => w64 (by omega)) ?_
        refine Hb.back ?_
        refine Hb.take (i := 4) SC (fun _ _ S B => S.call B) Pp.body rfl (by kernel_rfl) (by kernel_rfl) (by kernel_rfl) rfl rfl ?_
        refine qmv rfl rfl rfl rfl ?_
        refine Hb.back ?_
        refine Hb.take (i := 6) SC (fun _ _ S B => S.call B) Pp.body rfl (by kernel_rfl) (by kernel_rfl) (by kernel_rfl) rfl rfl ?_
        refine qmv rfl rfl rfl rfl ?_
        refine Hb.back ?_
        refine Hb.take (i := 7) SC (fun _ _ S B => S.call B) Pp.body rfl (by kernel_rfl) (by kernel_rfl) (by kernel_rfl) rfl rfl ?_
        refine qquo rfl rfl rfl rfl rfl rfl (fun _ => by decide) (fun _ => (show IntKind.i64.wrap (Int.tdiv (256 * b.getD 6 0 + b.getD 7 0) 16384) = b.getD 6 0 / 64 from by rw [Int.tdiv_eq_ediv_of_nonneg (by omega), w64 (by omega)]; omega)) ?_
        refine Hb.back ?_
        refine Hb.take (i := 8) SC (fun _ _ S B => S.call B) Pp.body rfl (by kernel_rfl) (by kernel_rfl) (by kernel_rfl) rfl rfl ?_
        refine qrem rfl rfl rfl rfl rfl rfl (fun _ => by decide) (fun _ => r64 (by omega)) ?_
        refine Hb.back ?_
        refine Hb.take (i := 9) SC (fun _ _ S B => S.call B) Pp.body rfl (by kernel_rfl) (by kernel_rfl) (by kernel_rfl) rfl rfl ?_
        refine qeql rfl rfl rfl rfl rfl rfl ?_
        refine Hb.back ?_
        refine Hb.take (i := 10) SC (fun _ _ S B => S.call B) Pp.body rfl (by kernel_rfl) (by kernel_rfl) (by kernel_rfl) rfl rfl ?_
        refine qmv rfl rfl rfl rfl ?_
        refine Hb.back ?_
        refine Hb.take (i := 11) SC (fun _ _ S B => S.call B) Pp.body rfl (by kernel_rfl) (by kernel_rfl) (by kernel_rfl) rfl rfl ?_
        refine qquo rfl rfl rfl rfl rfl rfl (fun _ => by decide) (fun _ => (show IntKind.i64.wrap (Int.tdiv (256 * b.getD 6 0 + b.getD 7 0) 8192) = b.getD 6 0 / 32 from by rw [Int.tdiv_eq_ediv_of_nonneg (by omega), w64 (by omega)]; omega)) ?_
        refine Hb.back ?_
        refine Hb.take (i := 12) SC (fun _ _ S B => S.call B) Pp.body rfl (by kernel_rfl) (by kernel_rfl) (by kernel_rfl) rfl rfl ?_
        refine qrem rfl rfl rfl rfl rfl rfl (fun _ => by decide) (fun _ => r64 (by omega)) ?_
        refine Hb.back ?_
        refine Hb.take (i := 13) SC (fun _ _ S B => S.call B) Pp.body rfl (by kernel_rfl) (by kernel_rfl) (by kernel_rfl) rfl rfl ?_
        refine qeql rfl rfl rfl rfl rfl rfl ?_
        refine Hb.back ?_
        refine Hb.take (i := 14) SC (fun _ _ S B => S.call B) Pp.body rfl (by kernel_rfl) (by kernel_rfl) (by kernel_rfl) rfl rfl ?_
        refine qmv rfl rfl rfl rfl ?_
        refine Hb.back ?_
        refine Hb.take (i := 15) SC (fun _ _ S B => S.call B) Pp.body rfl (by kernel_rfl) (by kernel_rfl) (by kernel_rfl) rfl rfl ?_
        refine qrem rfl rfl rfl rfl rfl rfl (fun _ => by decide) (fun _ => (show Int.tmod (256 * b.getD 6 0 + b.getD 7 0) 8192 = offW b from by rw [Int.tmod_eq_emod_of_nonneg (by omega)]; unfold offW; omega)) ?_
        refine Hb.back ?_
        refine Hb.take (i := 16) SC (fun _ _ S B => S.call B) Pp.body rfl (by kernel_rfl) (by kernel_rfl) (by kernel_rfl) rfl rfl ?_
        refine qmul rfl rfl rfl rfl rfl rfl (fun _ => (show IntKind.i64.wrap (offW b * 8) = 8 * offW b from by rw [w64 (by omega)]; omega)) ?_
        refine Hb.back ?_
        refine Hb.take (i := 17) SC (fun _ _ S B => S.call B) Pp.body rfl (by kernel_rfl) (by kernel_rfl) (by kernel_rfl) rfl rfl ?_
        refine qmv rfl rfl rfl rfl ?_
        refine Hb.back ?_
        refine Hb.take (i := 18) SC (fun _ _ S B => S.call B) Pp.body rfl (by kernel_rfl) (by kernel_rfl) (by kernel_rfl) rfl rfl ?_
        refine qixa rfl rfl hb.2 e26 rfl rfl rfl rfl (fun _ => by first | omega | (simp only [List.length_cons, List.length_nil]; omega)) ?_
        refine Hb.back ?_
        refine Hb.take (i := 19) SC (fun _ _ S B => S.call B) Pp.body rfl (by kernel_rfl) (by kernel_rfl) (by kernel_rfl) rfl rfl ?_
        refine qldB rfl hb (fun _ S => S) T5 rfl rfl rfl (fun _ => by omega) ?_
        intro q97 hq97 hbq97
        try simp only [Int.toNat_natCast, Nat.mul_one, Int.reduceToNat] at hq97
        refine Hb.back ?_
        refine Hb.take (i := 20) SC (fun _ _ S B => S.call B) Pp.body rfl (by kernel_rfl) (by kernel_rfl) (by kernel_rfl) rfl rfl ?_
        refine qcvi rfl rfl rfl rfl Tryd.underlying5 Tryd.underlying3 (fun _ => w64 (by omega)) ?_
        refine Hb.back ?_
        refine Hb.take (i := 21) SC (fun _ _ S B => S.call B) Pp.body rfl (by kernel_rfl) (by kernel_rfl) (by kernel_rfl) rfl rfl ?_
        refine qmv rfl rfl rfl rfl ?_
        refine Hb.back ?_
        refine Hb.take (i := 22) SC (fun _ _ S B => S.call B) Pp.body rfl (by kernel_rfl) (by kernel_rfl) (by kernel_rfl) rfl rfl ?_
        refine qixa rfl rfl hb.2 e26 rfl rfl rfl rfl (fun _ => by first | omega | (simp only [List.length_cons, List.length_nil]; omega)) ?_
        refine Hb.back ?_
        refine Hb.take (i := 23) SC (fun _ _ S B => S.call B) Pp.body rfl (by kernel_rfl) (by kernel_rfl) (by kernel_rfl) rfl rfl ?_
        refine qldB rfl hb (fun _ S => S) T5 rfl rfl rfl (fun _ => by omega) ?_
        intro q101 hq101 hbq101
        try simp only [Int.toNat_natCast, Nat.mul_one, Int.reduceToNat] at hq101
        refine Hb.back ?_
        refine Hb.take (i := 24) SC (fun _ _ S B => S.call B) Pp.body rfl (by kernel_rfl) (by kernel_rfl) (by kernel_rfl) rfl rfl ?_
        refine qcvi rfl rfl rfl rfl Tryd.underlying5 Tryd.underlying3 (fun _ => w64 (by omega)) ?_
        refine Hb.back ?_
        refine Hb.take (i := 25) SC (fun _ _ S B => S.call B) Pp.body rfl (by kernel_rfl) (by kernel_rfl) (by kernel_rfl) rfl rfl ?_
        refine qmv rfl rfl rfl rfl ?_
        refine Hb.back ?_
        refine Hb.take (i := 27) SC (fun _ _ S B => S.call B) Pp.body rfl (by kernel_rfl) (by kernel_rfl) (by kernel_rfl) rfl rfl ?_
        refine qmv rfl rfl rfl rfl ?_
        refine Hb.back ?_
        refine Hb.take (i := 29) SC (fun _ _ S B => S.call B) Pp.body rfl (by kernel_rfl) (by kernel_rfl) (by kernel_rfl) rfl rfl ?_
        refine qmv rfl rfl rfl rfl ?_
        refine Hb.back ?_
        refine Hb.take (i := 30) SC (fun _ _ S B => S.call B) Pp.body rfl (by kernel_rfl) (by kernel_rfl) (by kernel_rfl) rfl rfl ?_
        refine qmv rfl rfl rfl rfl ?_
        refine Hb.back ?_
        refine Hb.take (i := 31) SC (fun _ _ S B => S.call B) Pp.body rfl (by kernel_rfl) (by kernel_rfl) (by kernel_rfl) rfl rfl ?_
        refine qmv rfl rfl rfl rfl ?_
        refine Hb.back ?_
        refine Hb.take (i := 32) SC (fun _ _ S B => S.call B) Pp.body rfl (by kernel_rfl) (by kernel_rfl) (by kernel_rfl) rfl rfl ?_
        refine qmv rfl rfl rfl rfl ?_
        refine Hb.back ?_
        refine Hb.take (i := 33) SC (fun _ _ S B => S.call B) Pp.body rfl (by kernel_rfl) (by kernel_rfl) (by kernel_rfl) rfl rfl ?_
        have hv111 := hb.cut (lo := hdN b) (hi := totN b) (mx := capV v) (by have hcap := hb.cap; omega)
        refine qslC (lo := hdN b) (hi := totN b) (mx := capV v) rfl hb e26 rfl rfl rfl (i1 := some (hdN b)) (i2 := some (totN b)) (i3 := none) ⟨_, _, _, rfl, rfl⟩ ⟨_, _, _, rfl, rfl⟩ trivial rfl rfl rfl (fun h => by first | rfl | cases h) (fun hG => by (try simp [allT] at hG); have hcap := hb.cap; omega) ?_
        refine Hb.back ?_
        refine Hb.call (i := 5) SC (fun _ _ S B => S.call B) Pp.body rfl (by kernel_rfl) (by kernel_rfl) (by kernel_rfl) rfl (vs := [_, _]) rfl ⟨⟨_, _, rfl, rfl⟩, ⟨_, _, rfl, rfl⟩, trivial⟩ k111 rfl (fun hG w_ S => (by have := c111 _ _ 4 _ (hb.now S) (by omega) (by omega); rw [h45] at this; exact this)) ?_
        refine Hb.call (i := 26) SC (fun _ _ S B => S.call B) Pp.body rfl (by kernel_rfl) (by kernel_rfl) (by kernel_rfl) rfl (vs := [_, _]) rfl ⟨⟨_, _, rfl, rfl⟩, ⟨_, _, rfl, rfl⟩, trivial⟩ k113 rfl (fun hG w_ S => c113 _ _ 12 _ (hb.now S) (by omega) (by omega)) ?_
        refine Hb.call (i := 28) SC (fun _ _ S B => S.call B) Pp.body rfl (by kernel_rfl) (by kernel_rfl) (by kernel_rfl) rfl (vs := [_, _]) rfl ⟨⟨_, _, rfl, rfl⟩, ⟨_, _, rfl, rfl⟩, trivial⟩ k113 rfl (fun hG w_ S => c113 _ _ 16 _ (hb.now S) (by omega) (by omega)) ?_
        refine Hb.two (i := 34) (i' := 36) (by kernel_rfl) rfl rfl rfl rfl ?_ ?_
        ·
         intro w10 BD; have S := S.call BD
         have S0 := S
         have SS0 := (SS.tran hN1 S)
         refine call (vs := [_]) ⟨⟨_, _, rfl, rfl⟩, trivial⟩ k39 rfl (c39 _ _ _ (hv111.now S) (by rw [List.length_take, List.length_drop]; omega)) ?_
         rintro d12 w11 hFd12
         have S := S.call hFd12.1
         have hd12 := hFd12.bs hv111.1 S0.lt
         have hd12F := hFd12.bs hv111.1 SS0.ltR
         obtain ⟨N2, hN2, S_2⟩ := S.reb
         have hb := hb.st S; rw [hN2] at hb
         have ho8 := ho8.st S; rw [hN2] at ho8
         have ho8F := ho8F.reF S; rw [hN2] at ho8F
         rw [hN2] at hd12
         rw [hN2] at hd12F
         have SS := SS.tran hN1 S
         have SH := S
         have S := S_2
         have SC := (SH.tran hN2 S).pick [true, true, true] rfl
         refine Hb.on SC ?_
         refine Hb.take (i := 35) SC (fun _ _ S B => S.call B) Pp.body rfl (by kernel_rfl) (by kernel_rfl) (by kernel_rfl) rfl rfl ?_
         refine qbld B28 (qs := [(_, _), (_, _), (_, _), (_, _), (_, _), (_, _), (_, _), (_, _), (_, _), (_, _), (_, _)]) ⟨⟨_, _, _, rfl, rfl, rfl, rfl, by first | (simp [Value.cells]; done) | simp [Value.cells, encIP]⟩, ⟨_, _, _, rfl, rfl, rfl, rfl, by first | (simp [Value.cells]; done) | simp [Value.cells, encIP]⟩, ⟨_, _, _, rfl, rfl, rfl, rfl, by first | (simp [Value.cells]; done) | simp [Value.cells, encIP]⟩, ⟨_, _, _, rfl, rfl, rfl, rfl, by first | (simp [Value.cells]; done) | simp [Value.cells, encIP]⟩, ⟨_, _, _, rfl, rfl, rfl, rfl, by first | (simp [Value.cells]; done) | simp [Value.cells, encIP]⟩, ⟨_, _, _, rfl, rfl, rfl, rfl, by first | (simp [Value.cells]; done) | simp [Value.cells, encIP]⟩, ⟨_, _, _, rfl, rfl, rfl, rfl, by first | (simp [Value.cells]; done) | simp [Value.cells, encIP]⟩, ⟨_, _, _, rfl, rfl, rfl, rfl, by first | (simp [Value.cells]; done) | simp [Value.cells, encIP]⟩, ⟨_, _, _, rfl, rfl, rfl, rfl, by first | (simp [Value.cells]; done) | simp [Value.cells, encIP]⟩, ⟨_, _, _, rfl, rfl, cells1 ho8.one, rfl, List.cons_ne_nil _ _⟩, ⟨_, _, _, rfl, rfl, cells1 hd12.one, rfl, List.cons_ne_nil _ _⟩, trivial⟩ rfl rfl rfl ?_
         refine Hb.back ?_
         refine Hb.one (i := 36) (by kernel_rfl) rfl rfl ?_
         intro w12 BD; have S := S.call BD
         refine alc T28 S rfl ?_
         intro b11 w13 hb11 S B_
         have SC := (SH.tran hN2 S).pick [false, true, true, true] rfl
         refine Hb.on SC ?_
         refine Hb.one (i := 37) (by kernel_rfl) rfl rfl ?_
         intro w14 BD; have S := S.call BD
         refine stW rfl rfl T28 rfl rfl (one_cons rfl (one_cons rfl (one_cons rfl (one_cons rfl (one_cons rfl (one_cons rfl (one_cons rfl (one_cons rfl (one_cons rfl (one_cons rfl (one_cons rfl (one_cons rfl (one_cons rfl (one_cons rfl (one_cons rfl (one_cons rfl (one_cons rfl (one_cons rfl (one_cons rfl (one_cons rfl (one_cons rfl (one_cons rfl (one_cons rfl (one_cons rfl (one_cons rfl (one_cons rfl (one_cons rfl (one_cons rfl (one_cons rfl (one_cons rfl (one_cons rfl (one_cons rfl (one_cons rfl (one_cons rfl (one_cons rfl (one_cons rfl (one_cons rfl (one_cons rfl (one_cons rfl (one_cons rfl (one_cons rfl (one_cons ho8.one (one_cons hd12.one one_nil))))))))))))))))))))))))))))))))))))))))))) S (i := 0) rfl rfl ?_
         intro w15 S
         have SC := (SH.tran hN2 S).pick [false, true, true, true] rfl
         refine Hb.on SC ?_
         refine Hb.done (by kernel_rfl) ?_
         intro w16 BD; have S := S.call BD
         refine Nrm.code ?_
         refine Run.seq ?_
         refine Run.seq ?_
         refine Run.region ?_
         have hln : ((((b.drop (hdN b)).take (totN b - hdN b)).length : Nat) : Int) = (totN b : Int) - hdN b := by rw [List.length_take, List.length_drop]; omega
         refine fld (o' := 3) rfl fo28_3 rfl rfl rfl rfl ?_
         refine ld1 rfl T4 S (i := 0) rfl rfl rfl rfl rfl ?_
         refine fld (o' := 4) rfl fo28_4 rfl rfl rfl rfl ?_
         refine ld1 rfl T3 S (i := 0) rfl rfl rfl rfl rfl ?_
         refine fld (o' := 42) rfl fo28_10 rfl rfl rfl rfl ?_
         refine ld1 rfl T26 S (i := 0) rfl rfl rfl rfl rfl ?_
         refine lenS rfl hd12.2 Tryd.underlying26 rfl rfl rfl ?_
         refine calg (vs := [_, _, _]) rfl ⟨⟨_, _, rfl, rfl⟩, ⟨_, _, rfl, rfl⟩, ⟨_, _, rfl, rfl⟩, trivial⟩ k114 rfl (fun hG => c114 _ _ _ _ (by omega)) ?_
         intro w17 B_; have S := S.call B_
         refine Ro.nil ?_
         refine Nrm.code ?_
         refine Run.cond rfl (fun hc22 => ?_) (fun hc22 => ?_)
         ·
          try simp only [Bool.or_eq_true, Bool.and_eq_true, Bool.or_eq_false_iff, Bool.and_eq_false_iff, decide_eq_true_eq, decide_eq_false_iff_not, Bool.not_eq_true', Bool.not_eq_false', Bool.not_eq_true, Bool.not_eq_false] at hc22
          refine Run.seq ?_
          refine Run.region ?_
          refine ldW rfl T28 S (i := 2) rfl rfl rfl rfl rfl ?_
          refine stW rfl rfl T28 rfl rfl (by simp [Value.oneCell']) S (i := 3) rfl rfl ?_
          intro w18 S
          refine asg1 rfl rfl ?_
          refine Ro.nil ?_
          refine Nrm.code ?_
          refine Run.ret ?_
          refine Rt.cell2 rfl rfl rfl T28 S (i := 3) rfl rfl ?_
          have hfr := fragE_or (decide (b.getD 6 0 / 32 % 2 = 1)) (8 * offW b) ((totN b : Int) - hdN b)
          rw [hln] at hc22
          have he : parE b = 66 := by
           unfold parE
           rw [if_neg (by omega), if_neg (by omega), if_neg (by omega), if_neg (by omega), if_neg (by omega), if_neg (by omega), if_neg (by omega)]
           omega
          exact ⟨.slice none 0 0, .slice none 0 0, by rw [parH_err he (by omega), he]; rfl, (SS.tran hN2 S).bl, fun _ _ => by rw [parH_err he (by omega)]; exact ⟨OS.nil _ _, BS.nil _ _⟩⟩
         ·
          try simp only [Bool.or_eq_true, Bool.and_eq_true, Bool.or_eq_false_iff, Bool.and_eq_false_iff, decide_eq_true_eq, decide_eq_false_iff_not, Bool.not_eq_true', Bool.not_eq_false', Bool.not_eq_true, Bool.not_eq_false] at hc22
          refine Run.skip ?_
          refine Nrm.code ?_
          refine Run.seq ?_
          refine Run.region ?_
          refine ldW rfl T28 S (i := 0) rfl rfl rfl rfl rfl ?_
          refine stW rfl rfl T28 rfl rfl (one_cons rfl (one_cons rfl (one_cons rfl (one_cons rfl (one_cons rfl (one_cons rfl (one_cons rfl (one_cons rfl (one_cons rfl (one_cons rfl (one_cons rfl (one_cons rfl (one_cons rfl (one_cons rfl (one_cons rfl (one_cons rfl (one_cons rfl (one_cons rfl (one_cons rfl (one_cons rfl (one_cons rfl (one_cons rfl (one_cons rfl (one_cons rfl (one_cons rfl (one_cons rfl (one_cons rfl (one_cons rfl (one_cons rfl (one_cons rfl (one_cons rfl (one_cons rfl (one_cons rfl (one_cons rfl (one_cons rfl (one_cons rfl (one_cons rfl (one_cons rfl (one_cons rfl (one_cons rfl (one_cons rfl (one_cons ho8.one (one_cons hd12.one one_nil))))))))))))))))))))))))))))))))))))))))))) S (i := 3) rfl rfl ?_
          intro w18 S
          refine asg1 rfl rfl ?_
          refine Ro.nil ?_
          refine Nrm.code ?_
          refine Run.ret ?_
          refine Rt.cell2 rfl rfl rfl T28 S (i := 3) rfl rfl ?_
          rw [hln] at hc22
          have he : parE b = 0 := by
           unfold parE
           rw [if_neg (by omega), if_neg (by omega), if_neg (by omega), if_neg (by omega), if_neg (by omega), if_neg (by omega), if_neg (by omega)]
           omega
          exact ⟨o8, d12, by rw [parH, if_pos he, he, hq80, hq97, hq101]; rfl, (SS.tran hN2 S).bl, fun N hN => by rw [parH, if_pos he]; exact ⟨ho8F.fin S hN, hd12F.fin S hN⟩⟩
        ·
         intro w10 BD; have S := S.call BD
         refine alc T28 S rfl ?_
         intro b11 w11 hb11 S B_
         have SC := S.pick [false, true, true, true] rfl
         refine Hb.on SC ?_
         refine Hb.one (i := 34) (by kernel_rfl) rfl rfl ?_
         intro w12 BD; have S := S.call BD
         have S0 := S
         have SS0 := (SS.tran hN1 S)
         refine call (vs := [_]) ⟨⟨_, _, rfl, rfl⟩, trivial⟩ k39 rfl (c39 _ _ _ (hv111.now S) (by rw [List.length_take, List.length_drop]; omega)) ?_
         rintro d12 w13 hFd12
         have S := S.call hFd12.1
         have hd12 := hFd12.bs hv111.1 S0.lt
         have hd12F := hFd12.bs hv111.1 SS0.ltR
         obtain ⟨N3, hN3, S_3⟩ := S.reb
         have hb := hb.st S; rw [hN3] at hb
         have ho8 := ho8.st S; rw [hN3] at ho8
         have ho8F := ho8F.reF S; rw [hN3] at ho8F
         rw [hN3] at hd12
         rw [hN3] at hd12F
         have SS := SS.tran hN1 S
         have SH := S
         have S := S_3
         have SC := (SH.tran hN3 S).pick [false, true, true, true] rfl
         refine Hb.on SC ?_
         refine Hb.take (i := 35) SC (fun _ _ S B => S.call B) Pp.body rfl (by kernel_rfl) (by kernel_rfl) (by kernel_rfl) rfl rfl ?_
         refine qbld B28 (qs := [(_, _), (_, _), (_, _), (_, _), (_, _), (_, _), (_, _), (_, _), (_, _), (_, _), (_, _)]) ⟨⟨_, _, _, rfl, rfl, rfl, rfl, by first | (simp [Value.cells]; done) | simp [Value.cells, encIP]⟩, ⟨_, _, _, rfl, rfl, rfl, rfl, by first | (simp [Value.cells]; done) | simp [Value.cells, encIP]⟩, ⟨_, _, _, rfl, rfl, rfl, rfl, by first | (simp [Value.cells]; done) | simp [Value.cells, encIP]⟩, ⟨_, _, _, rfl, rfl, rfl, rfl, by first | (simp [Value.cells]; done) | simp [Value.cells, encIP]⟩, ⟨_, _, _, rfl, rfl, rfl, rfl, by first | (simp [Value.cells]; done) | simp [Value.cells, encIP]⟩, ⟨_, _, _, rfl, rfl, rfl, rfl, by first | (simp [Value.cells]; done) | simp [Value.cells, encIP]⟩, ⟨_, _, _, rfl, rfl, rfl, rfl, by first | (simp [Value.cells]; done) | simp [Value.cells, encIP]⟩, ⟨_, _, _, rfl, rfl, rfl, rfl, by first | (simp [Value.cells]; done) | simp [Value.cells, encIP]⟩, ⟨_, _, _, rfl, rfl, rfl, rfl, by first | (simp [Value.cells]; done) | simp [Value.cells, encIP]⟩, ⟨_, _, _, rfl, rfl, cells1 ho8.one, rfl, List.cons_ne_nil _ _⟩, ⟨_, _, _, rfl, rfl, cells1 hd12.one, rfl, List.cons_ne_nil _ _⟩, trivial⟩ rfl rfl rfl ?_
         refine Hb.back ?_
         refine Hb.one (i := 37) (by kernel_rfl) rfl rfl ?_
         intro w14 BD; have S := S.call BD
         refine stW rfl rfl T28 rfl rfl (one_cons rfl (one_cons rfl (one_cons rfl (one_cons rfl (one_cons rfl (one_cons rfl (one_cons rfl (one_cons rfl (one_cons rfl (one_cons rfl (one_cons rfl (one_cons rfl (one_cons rfl (one_cons rfl (one_cons rfl (one_cons rfl (one_cons rfl (one_cons rfl (one_cons rfl (one_cons rfl (one_cons rfl (one_cons rfl (one_cons rfl (one_cons rfl (one_cons rfl (one_cons rfl (one_cons rfl (one_cons rfl (one_cons rfl (one_cons rfl (one_cons rfl (one_cons rfl (one_cons rfl (one_cons rfl (one_cons rfl (one_cons rfl (one_cons rfl (one_cons rfl (one_cons rfl (one_cons rfl (one_cons rfl (one_cons ho8.one (one_cons hd12.one one_nil))))))))))))))))))))))))))))))))))))))))))) S (i := 0) rfl rfl ?_
         intro w15 S
         have SC := (SH.tran hN3 S).pick [false, true, true, true] rfl
         refine Hb.on SC ?_
         refine Hb.done (by kernel_rfl) ?_
         intro w16 BD; have S := S.call BD
         refine Nrm.code ?_
         refine Run.seq ?_
         refine Run.seq ?_
         refine Run.region ?_
         have hln : ((((b.drop (hdN b)).take (totN b - hdN b)).length : Nat) : Int) = (totN b : Int) - hdN b := by rw [List.length_take, List.length_drop]; omega
         refine fld (o' := 3) rfl fo28_3 rfl rfl rfl rfl ?_
         refine ld1 rfl T4 S (i := 0) rfl rfl rfl rfl rfl ?_
         refine fld (o' := 4) rfl fo28_4 rfl rfl rfl rfl ?_
         refine ld1 rfl T3 S (i := 0) rfl rfl rfl rfl rfl ?_
         refine fld (o' := 42) rfl fo28_10 rfl rfl rfl rfl ?_
         refine ld1 rfl T26 S (i := 0) rfl rfl rfl rfl rfl ?_
         refine lenS rfl hd12.2 Tryd.underlying26 rfl rfl rfl ?_
         refine calg (vs := [_, _, _]) rfl ⟨⟨_, _, rfl, rfl⟩, ⟨_, _, rfl, rfl⟩, ⟨_, _, rfl, rfl⟩, trivial⟩ k114 rfl (fun hG => c114 _ _ _ _ (by omega)) ?_
         intro w17 B_; have S := S.call B_
         refine Ro.nil ?_
         refine Nrm.code ?_
         refine Run.cond rfl (fun hc22 => ?_) (fun hc22 => ?_)
         ·
          try simp only [Bool.or_eq_true, Bool.and_eq_true, Bool.or_eq_false_iff, Bool.and_eq_false_iff, decide_eq_true_eq, decide_eq_false_iff_not, Bool.not_eq_true', Bool.not_eq_false', Bool.not_eq_true, Bool.not_eq_false] at hc22
          refine Run.seq ?_
          refine Run.region ?_
          refine ldW rfl T28 S (i := 2) rfl rfl rfl rfl rfl ?_
          refine stW rfl rfl T28 rfl rfl (by simp [Value.oneCell']) S (i := 3) rfl rfl ?_
          intro w18 S
          refine asg1 rfl rfl ?_
          refine Ro.nil ?_
          refine Nrm.code ?_
          refine Run.ret ?_
          refine Rt.cell2 rfl rfl rfl T28 S (i := 3) rfl rfl ?_
          have hfr := fragE_or (decide (b.getD 6 0 / 32 % 2 = 1)) (8 * offW b) ((totN b : Int) - hdN b)
          rw [hln] at hc22
          have he : parE b = 66 := by
           unfold parE
           rw [if_neg (by omega), if_neg (by omega), if_neg (by omega), if_neg (by omega), if_neg (by omega), if_neg (by omega), if_neg (by omega)]
           omega
          exact ⟨.slice none 0 0, .slice none 0 0, by rw [parH_err he (by omega), he]; rfl, (SS.tran hN3 S).bl, fun _ _ => by rw [parH_err he (by omega)]; exact ⟨OS.nil _ _, BS.nil _ _⟩⟩
         ·
          try simp only [Bool.or_eq_true, Bool.and_eq_true, Bool.or_eq_false_iff, Bool.and_eq_false_iff, decide_eq_true_eq, decide_eq_false_iff_not, Bool.not_eq_true', Bool.not_eq_false', Bool.not_eq_true, Bool.not_eq_false] at hc22
          refine Run.skip ?_
          refine Nrm.code ?_
          refine Run.seq ?_
          refine Run.region ?_
          refine ldW rfl T28 S (i := 0) rfl rfl rfl rfl rfl ?_
          refine stW rfl rfl T28 rfl rfl (one_cons rfl (one_cons rfl (one_cons rfl (one_cons rfl (one_cons rfl (one_cons rfl (one_cons rfl (one_cons rfl (one_cons rfl (one_cons rfl (one_cons rfl (one_cons rfl (one_cons rfl (one_cons rfl (one_cons rfl (one_cons rfl (one_cons rfl (one_cons rfl (one_cons rfl (one_cons rfl (one_cons rfl (one_cons rfl (one_cons rfl (one_cons rfl (one_cons rfl (one_cons rfl (one_cons rfl (one_cons rfl (one_cons rfl (one_cons rfl (one_cons rfl (one_cons rfl (one_cons rfl (one_cons rfl (one_cons rfl (one_cons rfl (one_cons rfl (one_cons rfl (one_cons rfl (one_cons rfl (one_cons rfl (one_cons ho8.one (one_cons hd12.one one_nil))))))))))))))))))))))))))))))))))))))))))) S (i := 3) rfl rfl ?_
          intro w18 S
          refine asg1 rfl rfl ?_
          refine Ro.nil ?_
          refine Nrm.code ?_
          refine Run.ret ?_
          refine Rt.cell2 rfl rfl rfl T28 S (i := 3) rfl rfl ?_
          rw [hln] at hc22
          have he : parE b = 0 := by
           unfold parE
           rw [if_neg (by omega), if_neg (by omega), if_neg (by omega), if_neg (by omega), if_neg (by omega), if_neg (by omega), if_neg (by omega)]
           omega
          exact ⟨o8, d12, by rw [parH, if_pos he, he, hq80, hq97, hq101]; rfl, (SS.tran hN3 S).bl, fun N hN => by rw [parH, if_pos he]; exact ⟨ho8F.fin S hN, hd12F.fin S hN⟩⟩
end Go.Proofs.YtkahmepenjhcpaaDoor.W
/- Contracts: the reference writes. No statement of the seat is proved here. -/
namespace Go.Proofs.YtkahmepenjhcpaaDoor.W
open Go
set_option linter.unusedSimpArgs false
set_option linter.unusedVariables false
theorem getN_src (h : Ip4) (o d : Value) : ∀ i, i < 16 → getN (encIp4 h o d) (8 + i) = some (u8 (h.src.a i))
  | 0, _ => rfl | 1, _ => rfl | 2, _ => rfl | 3, _ => rfl | 4, _ => rfl | 5, _ => rfl | 6, _ => rfl | 7, _ => rfl
  | 8, _ => rfl | 9, _ => rfl | 10, _ => rfl | 11, _ => rfl | 12, _ => rfl | 13, _ => rfl | 14, _ => rfl | 15, _ => rfl
  | n + 16, h => by omega
theorem getN_dst (h : Ip4) (o d : Value) : ∀ i, i < 16 → getN (encIp4 h o d) (25 + i) = some (u8 (h.dst.a i))
  | 0, _ => rfl | 1, _ => rfl | 2, _ => rfl | 3, _ => rfl | 4, _ => rfl | 5, _ => rfl | 6, _ => rfl | 7, _ => rfl
  | 8, _ => rfl | 9, _ => rfl | 10, _ => rfl | 11, _ => rfl | 12, _ => rfl | 13, _ => rfl | 14, _ => rfl | 15, _ => rfl
  | n + 16, h => by omega
theorem four4_take (x : IP) : ∀ i, i < 4 → (four4 x).take i ++ [x.a i] = (four4 x).take (i + 1)
  | 0, _ => rfl | 1, _ => rfl | 2, _ => rfl | 3, _ => rfl
  | n + 4, h => by omega
theorem sum_skip {a b : List Int} (ha : a.length % 2 = 0) : sumS (a ++ [0, 0] ++ b) = sumS (a ++ b) := by
  unfold sumS
  rw [wsum_app, wsum_app, wsum_app]
  have e : par true (a ++ [0, 0]).length = true := by unfold par; simp; omega
  have e2 : par true a.length = true := by unfold par; rw [if_pos ha]
  rw [e, e2]
  simp [wsum]
def refHD (h : Ip4) (g : Int) : List Int := [64 + (20 + ((putL h.opts).length : Int)) / 4, h.tos] ++ [(20 + ((putL h.opts).length : Int) + (h.data.length : Int)) / 256, (20 + ((putL h.opts).length : Int) + (h.data.length : Int)) % 256] ++ [h.id / 256, h.id % 256] ++ [g / 256, g % 256] ++ [h.ttl, h.proto]
theorem refHD_top {h : Ip4} {g : Int} (hc : chkE h = 0) (hg : g = h.off / 8 + (if h.df = true then 16384 else 0) + (if h.mf = true then 8192 else 0)) : refHD h g ++ [0, 0] = top10 h := by
  have hb := badF_off (chkE_zero hc).1
  have h1 : g / 256 = bI h.df * 64 + bI h.mf * 32 + h.off / 8 / 256 := by subst hg; unfold bI; (repeat' split) <;> omega
  have h2 : g % 256 = h.off / 8 % 256 := by subst hg; (repeat' split) <;> omega
  simp only [refHD, top10, hdr12, h1, h2, List.cons_append, List.nil_append]
  rfl
theorem refHD_byt {h : Ip4} {g : Int} (hc : chkE h = 0) (hg : g = h.off / 8 + (if h.df = true then 16384 else 0) + (if h.mf = true then 8192 else 0)) : byt (refHD h g) := by
  have h1 := top10_byt hc
  rw [← refHD_top hc hg] at h1
  exact fun x hx => h1 x (List.mem_append_left _ hx)
theorem ser_ref {h : Ip4} {g : Int} (hc : chkE h = 0) (hg : g = h.off / 8 + (if h.df = true then 16384 else 0) + (if h.mf = true then 8192 else 0)) :
    refHD h g ++ [(65535 - sumS (refHD h g ++ (four4 h.src ++ four4 h.dst ++ putL h.opts))) / 256, (65535 - sumS (refHD h g ++ (four4 h.src ++ four4 h.dst ++ putL h.opts))) % 256] ++ (four4 h.src ++ four4 h.dst ++ putL h.opts) ++ h.data = serL h := by
  have e1 := refHD_top hc hg
  have e2 : sumS (refHD h g ++ (four4 h.src ++ four4 h.dst ++ putL h.opts)) = sumS (headB h) := by
    rw [← sum_skip (by simp [refHD]), e1]
    simp [headB, List.append_assoc]
  rw [e2]
  unfold serL serB headB
  rw [if_pos hc, ← e1]
  simp [sumC, headB, ← e1, refHD, List.append_assoc]
set_option maxHeartbeats 1000000 in
theorem c115 (h : Ip4) (o d : Value) (w : World) (hO : OS [] w o h.opts) (hd : BS [] w d h.data) (hol : h.opts.length ≤ 1099511627776) (hdl : h.data.length ≤ 1099511627776) (hs : h.src.ok) (ht : h.dst.ok) :
  CallsV Tryd.prog 115 #[.agg (encIp4 h o d).toArray] w (fun r w' => ∃ u, r = .tuple #[u, .int .i64 (chkE h)] ∧ FB w w' u (serL h)) := by
 refine enter Tryd.func115 rfl Tryd.ntmps115 (l := [(0, [], _)]) rfl rfl ?_
 have S := St.refl [] w
 have hpl := putL_len h.opts
 have hodt := hO.byt
 refine Run.seq ?_
 refine Run.region ?_
 refine boxA rfl S rfl ?_
 intro b1 w1 hb1 S B_
 refine asg1 rfl rfl ?_
 refine asg1 rfl rfl ?_
 refine Ro.nil ?_
 refine Nrm.code ?_
 refine Run.seq ?_
 refine Run.region ?_
 refine ldW rfl T28 S (i := 0) rfl rfl rfl rfl rfl ?_
 refine calg (vs := [_]) rfl ⟨⟨_, _, rfl, rfl⟩, trivial⟩ k147 rfl (fun hG => c147 _ _ _ _ (hO.now S) (hd.now S) hol hdl) ?_
 intro w2 B_; have S := S.call B_
 refine asg1 rfl rfl ?_
 refine Ro.nil ?_
 refine Nrm.code ?_
 refine Run.seq ?_
 refine Run.seq ?_
 refine Run.region ?_
 refine mv1 rfl rfl ?_
 refine neq1 rfl rfl rfl ?_
 refine Ro.nil ?_
 refine Nrm.code ?_
 refine Run.cond rfl (fun hc2 => ?_) (fun hc2 => ?_)
 ·
  try simp only [Bool.or_eq_true, Bool.and_eq_true, Bool.or_eq_false_iff, Bool.and_eq_false_iff, decide_eq_true_eq, decide_eq_false_iff_not, Bool.not_eq_true', Bool.not_eq_false', Bool.not_eq_true, Bool.not_eq_false] at hc2
  refine Run.seq ?_
  refine Run.region ?_
  refine mv1 rfl rfl ?_
  refine asg1 rfl rfl ?_
  refine asg1 rfl rfl ?_
  refine Ro.nil ?_
  refine Nrm.code ?_
  refine Run.ret ?_
  refine Rt.two rfl rfl rfl ?_
  exact ⟨.slice none 0 0, rfl, by rw [show serL h = [] from by unfold serL; rw [if_neg hc2]]; exact (S.nilB).toFB (i := 0) rfl⟩
 ·
  try simp only [Bool.or_eq_true, Bool.and_eq_true, Bool.or_eq_false_iff, Bool.and_eq_false_iff, decide_eq_true_eq, decide_eq_false_iff_not, Bool.not_eq_true', Bool.not_eq_false', Bool.not_eq_true, Bool.not_eq_false] at hc2
  refine Run.skip ?_
  refine Nrm.code ?_
  refine Run.seq ?_
  refine Run.region ?_
  refine fld (o' := 41) rfl fo28_9 rfl rfl rfl rfl ?_
  refine ld1 rfl T25 S (i := 0) rfl rfl rfl rfl rfl ?_
  replace hc2 : chkE h = 0 := by omega
  have hz := chkE_zero hc2
  have hbo := badF_off hz.1
  refine call (vs := [_]) ⟨⟨_, _, rfl, rfl⟩, trivial⟩ k136 rfl (c136 _ _ _ (hO.now S) (by omega)) ?_
  rintro _ w3 ⟨u5, rfl, hF⟩
  have S := S.fb hF
  refine mv1 rfl rfl ?_
  refine extr1 rfl rfl rfl ?_
  refine extr1 rfl rfl rfl ?_
  refine asg1 rfl rfl ?_
  refine asg1 rfl rfl ?_
  refine Ro.nil ?_
  refine Nrm.code ?_
  refine Run.seq ?_
  refine Run.region ?_
  refine mv1 rfl rfl ?_
  refine lenS rfl (S.slI (i := 0) rfl) Tryd.underlying26 rfl rfl rfl ?_
  refine add1 rfl rfl rfl (w64 (by omega)) ?_
  refine asg1 rfl rfl ?_
  refine Ro.nil ?_
  refine Nrm.code ?_
  refine Run.seq ?_
  refine Run.region ?_
  refine fld (o' := 4) rfl fo28_4 rfl rfl rfl rfl ?_
  refine ld1 rfl T3 S (i := 1) rfl rfl rfl rfl rfl ?_
  refine quo1 rfl rfl rfl (by decide) (q64 (by omega)) ?_
  refine asg1 rfl rfl ?_
  refine Ro.nil ?_
  refine Nrm.code ?_
  refine Run.cut (γ := Int) (fun g w_ => g = h.off / 8 + (if h.df = true then 16384 else 0) ∧ St [] w [oB u5 (putL h.opts), .var b1 28 (encIp4 h o d)] w_) (fun g => [(1, [], .pointer (some ⟨b1, 0, none⟩)), (5, [], u5), (7, [], .int .i64 (20 + ((putL h.opts).length : Int))), (8, [], .int .i64 g)]) ?_ ?_
  ·
   refine Run.seq ?_
   refine Run.region ?_
   refine fld (o' := 2) rfl fo28_2 rfl rfl rfl rfl ?_
   refine ld1 rfl T4 S (i := 1) rfl rfl rfl rfl rfl ?_
   refine Ro.nil ?_
   refine Nrm.code ?_
   refine Run.cond rfl (fun hc7 => ?_) (fun hc7 => ?_)
   ·
    try simp only [Bool.or_eq_true, Bool.and_eq_true, Bool.or_eq_false_iff, Bool.and_eq_false_iff, decide_eq_true_eq, decide_eq_false_iff_not, Bool.not_eq_true', Bool.not_eq_false', Bool.not_eq_true, Bool.not_eq_false] at hc7
    refine Run.region ?_
    refine mv1 rfl rfl ?_
    refine add1 rfl rfl rfl (w64 (by omega)) ?_
    refine asg1 rfl rfl ?_
    refine Ro.nil ?_
    exact Nrm.cut _ ⟨by simp [hc7], S⟩ ⟨rfl, rfl, rfl, rfl, trivial⟩
   ·
    try simp only [Bool.or_eq_true, Bool.and_eq_true, Bool.or_eq_false_iff, Bool.and_eq_false_iff, decide_eq_true_eq, decide_eq_false_iff_not, Bool.not_eq_true', Bool.not_eq_false', Bool.not_eq_true, Bool.not_eq_false] at hc7
    refine Run.skip ?_
    exact Nrm.cut _ ⟨by simp [hc7], S⟩ ⟨rfl, rfl, rfl, rfl, trivial⟩
  ·
   rintro g9 w4 ⟨hg9, S⟩
   refine Run.cut (γ := Int) (fun g w_ => g = h.off / 8 + (if h.df = true then 16384 else 0) + (if h.mf = true then 8192 else 0) ∧ St [] w [oB u5 (putL h.opts), .var b1 28 (encIp4 h o d)] w_) (fun g => [(1, [], .pointer (some ⟨b1, 0, none⟩)), (5, [], u5), (7, [], .int .i64 (20 + ((putL h.opts).length : Int))), (8, [], .int .i64 g)]) ?_ ?_
   ·
    refine Run.seq ?_
    refine Run.region ?_
    refine fld (o' := 3) rfl fo28_3 rfl rfl rfl rfl ?_
    refine ld1 rfl T4 S (i := 1) rfl rfl rfl rfl rfl ?_
    refine Ro.nil ?_
    refine Nrm.code ?_
    refine Run.cond rfl (fun hc9 => ?_) (fun hc9 => ?_)
    ·
     try simp only [Bool.or_eq_true, Bool.and_eq_true, Bool.or_eq_false_iff, Bool.and_eq_false_iff, decide_eq_true_eq, decide_eq_false_iff_not, Bool.not_eq_true', Bool.not_eq_false', Bool.not_eq_true, Bool.not_eq_false] at hc9
     refine Run.region ?_
     refine mv1 rfl rfl ?_
     refine add1 rfl rfl rfl (w64 (by omega)) ?_
     refine asg1 rfl rfl ?_
     refine Ro.nil ?_
     exact Nrm.cut _ ⟨by simp [hc9, hg9], S⟩ ⟨rfl, rfl, rfl, rfl, trivial⟩
    ·
     try simp only [Bool.or_eq_true, Bool.and_eq_true, Bool.or_eq_false_iff, Bool.and_eq_false_iff, decide_eq_true_eq, decide_eq_false_iff_not, Bool.not_eq_true', Bool.not_eq_false', Bool.not_eq_true, Bool.not_eq_false] at hc9
     refine Run.skip ?_
     exact Nrm.cut _ ⟨by simp [hc9, hg9], S⟩ ⟨rfl, rfl, rfl, rfl, trivial⟩
   ·
    rintro g11 w5 ⟨hg11, S⟩
    refine Run.seq ?_
    refine Run.region ?_
    refine mv1 rfl rfl ?_
    refine quo1 rfl rfl rfl (by decide) (q64 (by omega)) ?_
    refine add1 rfl rfl rfl (w64 (by omega)) ?_
    refine cvi1 rfl rfl Tryd.underlying3 Tryd.underlying5 (w8of rfl (by omega)) ?_
    refine fld (o' := 0) rfl fo28_0 rfl rfl rfl rfl ?_
    refine ld1 rfl T3 S (i := 1) rfl rfl rfl rfl rfl ?_
    refine cvi1 rfl rfl Tryd.underlying3 Tryd.underlying5 (w8of rfl (by omega)) ?_
    refine bsl e26 (qs := [(_, _), (_, _)]) ⟨⟨_, _, _, rfl, rfl, rfl, rfl, by first | (simp [Value.cells]; done) | simp [Value.cells, encIP]⟩, ⟨_, _, _, rfl, rfl, rfl, rfl, by first | (simp [Value.cells]; done) | simp [Value.cells, encIP]⟩, trivial⟩ rfl rfl rfl rfl S ?_
    intro u46 w6 S B_
    have S : St [] w (oB u46 [64 + (20 + ((putL h.opts).length : Int)) / 4, h.tos] :: _) w6 := S
    refine asg1 rfl rfl ?_
    refine Ro.nil ?_
    refine Nrm.code ?_
    refine Run.seq ?_
    refine Run.region ?_
    refine mv1 rfl rfl ?_
    refine mv1 rfl rfl ?_
    refine fld (o' := 42) rfl fo28_10 rfl rfl rfl rfl ?_
    refine ld1 rfl T26 S (i := 2) rfl rfl rfl rfl rfl ?_
    refine lenS rfl hd.2 Tryd.underlying26 rfl rfl rfl ?_
    refine add1 rfl rfl rfl (w64 (by omega)) ?_
    refine call (vs := [_, _]) ⟨⟨_, _, rfl, rfl⟩, ⟨_, _, rfl, rfl⟩, trivial⟩ k151 rfl (c151 _ _ _ _ (S.hold_at (i := 0) rfl) (by omega) (by first | omega | (simp only [List.length_append, List.length_cons, List.length_nil]; omega))) ?_
    rintro a12 w7 hT
    have S := S.tn (i := 0) rfl rfl hT
    refine asg1 rfl rfl ?_
    refine Ro.nil ?_
    refine Nrm.code ?_
    refine Run.seq ?_
    refine Run.region ?_
    refine mv1 rfl rfl ?_
    refine fld (o' := 1) rfl fo28_1 rfl rfl rfl rfl ?_
    refine ld1 rfl T3 S (i := 2) rfl rfl rfl rfl rfl ?_
    refine call (vs := [_, _]) ⟨⟨_, _, rfl, rfl⟩, ⟨_, _, rfl, rfl⟩, trivial⟩ k151 rfl (c151 _ _ _ _ (S.hold_at (i := 0) rfl) (by omega) (by first | omega | (simp only [List.length_append, List.length_cons, List.length_nil]; omega))) ?_
    rintro a13 w8 hT
    have S := S.tn (i := 0) rfl rfl hT
    refine asg1 rfl rfl ?_
    refine Ro.nil ?_
    refine Nrm.code ?_
    refine Run.seq ?_
    refine Run.region ?_
    refine mv1 rfl rfl ?_
    refine mv1 rfl rfl ?_
    refine call (vs := [_, _]) ⟨⟨_, _, rfl, rfl⟩, ⟨_, _, rfl, rfl⟩, trivial⟩ k151 rfl (c151 _ _ _ _ (S.hold_at (i := 0) rfl) (by (repeat' split at hg11) <;> omega) (by first | omega | (simp only [List.length_append, List.length_cons, List.length_nil]; omega))) ?_
    rintro a14 w9 hT
    have S := S.tn (i := 0) rfl rfl hT
    refine asg1 rfl rfl ?_
    refine Ro.nil ?_
    refine Nrm.code ?_
    refine Run.seq ?_
    refine Run.region ?_
    refine mv1 rfl rfl ?_
    refine fld (o' := 5) rfl fo28_5 rfl rfl rfl rfl ?_
    refine ld1 rfl T3 S (i := 2) rfl rfl rfl rfl rfl ?_
    refine cvi1 rfl rfl Tryd.underlying3 Tryd.underlying5 (w8of rfl (by omega)) ?_
    refine fld (o' := 6) rfl fo28_6 rfl rfl rfl rfl ?_
    refine ld1 rfl T3 S (i := 2) rfl rfl rfl rfl rfl ?_
    refine cvi1 rfl rfl Tryd.underlying3 Tryd.underlying5 (w8of rfl (by omega)) ?_
    refine apBF (b := [_, _]) rfl e26 (qs := [(_, _), (_, _)]) ⟨⟨_, _, _, rfl, rfl, rfl, rfl, by first | (simp [Value.cells]; done) | simp [Value.cells, encIP]⟩, ⟨_, _, _, rfl, rfl, rfl, rfl, by first | (simp [Value.cells]; done) | simp [Value.cells, encIP]⟩, trivial⟩ (by decide) rfl rfl S (i := 0) rfl rfl rfl (fun t e => by cases e; rfl) (fun _ => rfl) (by first | omega | (simp only [List.length_nil, List.length_append, List.length_cons]; omega)) ?_
    intro u_ a15 w10 S B_
    obtain ⟨HD, hHD, S⟩ : ∃ HD, HD = refHD h g11 ∧ St [] w (oB a15 HD :: [oB u5 (putL h.opts), .var b1 28 (encIp4 h o d)]) w10 := ⟨_, rfl, S⟩
    have hHl : HD.length = 10 := by rw [hHD]; rfl
    have hHb : byt HD := by rw [hHD]; exact refHD_byt hc2 hg11
    refine asg1 rfl rfl ?_
    refine Ro.nil ?_
    refine Nrm.code ?_
    refine Run.seq ?_
    refine Run.region ?_
    refine asg1 rfl rfl ?_
    have S := S.nilB
    refine Ro.nil ?_
    refine Nrm.code ?_
    refine Run.seq ?_
    refine Run.seq ?_
    refine Run.region ?_
    refine asg1 rfl rfl ?_
    refine Ro.nil ?_
    refine Nrm.code ?_
    refine Run.block ?_
    refine Run.loop2 (fun (i : Nat) (u : Value) w_ => i ≤ 4 ∧ St [] w [oB u ((four4 h.src).take i), oB a15 HD, oB u5 (putL h.opts), .var b1 28 (encIp4 h o d)] w_) (fun (i : Nat) (u : Value) => [(1, [], .pointer (some ⟨b1, 0, none⟩)), (5, [], u5), (9, [], a15), (10, [], u), (11, [], .int .i64 i)]) (fun (i : Nat) (u : Value) => 4 - i) (0) (_) ⟨Nat.zero_le _, by simpa using S⟩ ⟨rfl, rfl, rfl, rfl, rfl, trivial⟩ ?_
    rintro i u w11 ⟨hi, S⟩
    refine Run.seq ?_
    refine Run.seq ?_
    refine Run.region ?_
    refine mv1 rfl rfl ?_
    refine lss1 rfl rfl rfl ?_
    refine Ro.nil ?_
    refine Nrm.code ?_
    refine Run.cond rfl (fun hc18 => ?_) (fun hc18 => ?_)
    ·
     try simp only [Bool.or_eq_true, Bool.and_eq_true, Bool.or_eq_false_iff, Bool.and_eq_false_iff, decide_eq_true_eq, decide_eq_false_iff_not, Bool.not_eq_true', Bool.not_eq_false', Bool.not_eq_true, Bool.not_eq_false] at hc18
     refine Run.skip ?_
     refine Nrm.code ?_
     refine Run.seq ?_
     refine Run.block ?_
     refine Run.region ?_
     refine mv1 rfl rfl ?_
     refine mv1 rfl rfl ?_
     refine fld (o' := 7) rfl fo28_7 rfl rfl rfl rfl ?_
     refine fld (o' := 8) rfl fo24_1 rfl rfl rfl rfl ?_
     refine ixP rfl rfl Tryd.underlying22 T5 rfl rfl rfl rfl (fun _ => by omega) rfl ?_
     refine ld1 rfl T5 S (i := 3) rfl (v := u8 (h.src.a i)) (by rw [show 8 + (i : Int).toNat * 1 = 8 + i from by omega]; exact getN_src h o d i (by omega)) rfl rfl rfl ?_
     refine apBF (b := [_]) rfl e26 (qs := [(_, _)]) ⟨⟨_, _, _, rfl, rfl, rfl, rfl, by first | (simp [Value.cells]; done) | simp [Value.cells, encIP]⟩, trivial⟩ (by decide) rfl rfl S (i := 0) rfl rfl rfl (fun t e => by cases e; rfl) (fun _ => rfl) (by simp [four4]; omega) ?_
     intro u_ v81 w12 S B_
     refine asg1 rfl rfl ?_
     refine Ro.nil ?_
     refine Nrm.blk ?_
     refine Nrm.code ?_
     refine Run.region ?_
     refine mv1 rfl rfl ?_
     refine add1 rfl rfl rfl (w64 (by omega)) ?_
     refine asg1 rfl rfl ?_
     refine Ro.nil ?_
     refine Nrm.loop2 (i + 1) (_) ⟨by omega, by have S2 := S; rw [four4_take h.src i (by omega)] at S2; exact S2⟩ (by omega) ⟨rfl, rfl, rfl, rfl, rfl, trivial⟩
    ·
     try simp only [Bool.or_eq_true, Bool.and_eq_true, Bool.or_eq_false_iff, Bool.and_eq_false_iff, decide_eq_true_eq, decide_eq_false_iff_not, Bool.not_eq_true', Bool.not_eq_false', Bool.not_eq_true, Bool.not_eq_false] at hc18
     refine Run.exit ?_
     refine Lv.code ?_
     refine Lv.back ?_
     refine Lv.hit ?_
     refine Nrm.code ?_
     refine Run.seq ?_
     refine Run.seq ?_
     refine Run.region ?_
     refine asg1 rfl rfl ?_
     refine Ro.nil ?_
     refine Nrm.code ?_
     refine Run.block ?_
     have hi4 : i = 4 := by omega
     subst hi4
     rw [show (four4 h.src).take 4 = four4 h.src from rfl] at S
     refine Run.loop2 (fun (i : Nat) (u : Value) w_ => i ≤ 4 ∧ St [] w [oB u (four4 h.src ++ (four4 h.dst).take i), oB a15 HD, oB u5 (putL h.opts), .var b1 28 (encIp4 h o d)] w_) (fun (i : Nat) (u : Value) => [(1, [], .pointer (some ⟨b1, 0, none⟩)), (5, [], u5), (9, [], a15), (10, [], u), (12, [], .int .i64 i)]) (fun (i : Nat) (u : Value) => 4 - i) (0) (_) ⟨Nat.zero_le _, by simpa using S⟩ ⟨rfl, rfl, rfl, rfl, rfl, trivial⟩ ?_
     rintro i u w12 ⟨hi, S⟩
     refine Run.seq ?_
     refine Run.seq ?_
     refine Run.region ?_
     refine mv1 rfl rfl ?_
     refine lss1 rfl rfl rfl ?_
     refine Ro.nil ?_
     refine Nrm.code ?_
     refine Run.cond rfl (fun hc22 => ?_) (fun hc22 => ?_)
     ·
      try simp only [Bool.or_eq_true, Bool.and_eq_true, Bool.or_eq_false_iff, Bool.and_eq_false_iff, decide_eq_true_eq, decide_eq_false_iff_not, Bool.not_eq_true', Bool.not_eq_false', Bool.not_eq_true, Bool.not_eq_false] at hc22
      refine Run.skip ?_
      refine Nrm.code ?_
      refine Run.seq ?_
      refine Run.block ?_
      refine Run.region ?_
      refine mv1 rfl rfl ?_
      refine mv1 rfl rfl ?_
      refine fld (o' := 24) rfl fo28_8 rfl rfl rfl rfl ?_
      refine fld (o' := 25) rfl fo24_1 rfl rfl rfl rfl ?_
      refine ixP rfl rfl Tryd.underlying22 T5 rfl rfl rfl rfl (fun _ => by omega) rfl ?_
      refine ld1 rfl T5 S (i := 3) rfl (v := u8 (h.dst.a i)) (by rw [show 25 + (i : Int).toNat * 1 = 25 + i from by omega]; exact getN_dst h o d i (by omega)) rfl rfl rfl ?_
      refine apBF (b := [_]) rfl e26 (qs := [(_, _)]) ⟨⟨_, _, _, rfl, rfl, rfl, rfl, by first | (simp [Value.cells]; done) | simp [Value.cells, encIP]⟩, trivial⟩ (by decide) rfl rfl S (i := 0) rfl rfl rfl (fun t e => by cases e; rfl) (fun _ => rfl) (by simp [four4]; omega) ?_
      intro u_ v93 w13 S B_
      refine asg1 rfl rfl ?_
      refine Ro.nil ?_
      refine Nrm.blk ?_
      refine Nrm.code ?_
      refine Run.region ?_
      refine mv1 rfl rfl ?_
      refine add1 rfl rfl rfl (w64 (by omega)) ?_
      refine asg1 rfl rfl ?_
      refine Ro.nil ?_
      refine Nrm.loop2 (i + 1) (_) ⟨by omega, by have S2 := S; rw [List.append_assoc, four4_take h.dst i (by omega)] at S2; exact S2⟩ (by omega) ⟨rfl, rfl, rfl, rfl, rfl, trivial⟩
     ·
      try simp only [Bool.or_eq_true, Bool.and_eq_true, Bool.or_eq_false_iff, Bool.and_eq_false_iff, decide_eq_true_eq, decide_eq_false_iff_not, Bool.not_eq_true', Bool.not_eq_false', Bool.not_eq_true, Bool.not_eq_false] at hc22
      refine Run.exit ?_
      refine Lv.code ?_
      refine Lv.back ?_
      refine Lv.hit ?_
      refine Nrm.code ?_
      refine Run.seq ?_
      refine Run.region ?_
      refine mv1 rfl rfl ?_
      refine mv1 rfl rfl ?_
      have hi4' : i = 4 := by omega
      subst hi4'
      have hTb : byt (four4 h.src ++ four4 h.dst ++ putL h.opts) := byt_app (byt_app (four4_byt hs) (four4_byt ht)) (putL_byt hodt)
      refine apB rfl rfl e26 (S.bsI (i := 2) rfl (putL_byt hodt)) S (i := 0) rfl rfl (fun _ => rfl) (by simp [four4]; omega) ?_
      intro t25 w13 S B_
      refine asg1 rfl rfl ?_
      refine Ro.nil ?_
      refine Nrm.code ?_
      refine Run.seq ?_
      refine Run.region ?_
      refine mv1 rfl rfl ?_
      refine mv1 rfl rfl ?_
      refine bsl e102 (qs := [(_, _), (_, _)]) ⟨⟨_, _, _, rfl, rfl, cells1 (S.slI (i := 1) rfl).one, rfl, List.cons_ne_nil _ _⟩, ⟨_, _, _, rfl, rfl, cells1 (S.slI (i := 0) rfl).one, rfl, List.cons_ne_nil _ _⟩, trivial⟩ rfl rfl rfl rfl S ?_
      intro u99 w14 S B_
      have hck : CallsD Tryd.prog 117 #[u99] w14 (.int .i64 (65535 - sumS (HD ++ (four4 h.src ++ four4 h.dst ++ putL h.opts)))) := by
       have := c117 u99 [HD, four4 h.src ++ four4 h.dst ++ putL h.opts] w14 ⟨[_, _], S.slI (i := 0) rfl, S.bsI (i := 2) rfl hHb, S.bsI (i := 1) rfl hTb, trivial⟩ (by simp [four4]; omega) (by simp)
       rw [show [HD, four4 h.src ++ four4 h.dst ++ putL h.opts].flatten = HD ++ (four4 h.src ++ four4 h.dst ++ putL h.opts) from by simp] at this
       exact this
      refine calg (vs := [_]) rfl ⟨⟨_, _, rfl, rfl⟩, trivial⟩ k117 rfl (fun hG => hck) ?_
      intro w15 B_; have S := S.call B_
      refine asg1 rfl rfl ?_
      refine Ro.nil ?_
      refine Nrm.code ?_
      refine Run.seq ?_
      refine Run.region ?_
      refine mv1 rfl rfl ?_
      refine mv1 rfl rfl ?_
      refine call (vs := [_, _]) ⟨⟨_, _, rfl, rfl⟩, ⟨_, _, rfl, rfl⟩, trivial⟩ k151 rfl (c151 _ _ _ _ (S.hold_at (i := 2) rfl) (by have hwS := wsum_bd (HD ++ (four4 h.src ++ four4 h.dst ++ putL h.opts)) true (byt_app hHb hTb); have hfS := foldS_bd hwS.1; unfold sumS; omega) (by first | omega | (simp only [List.length_append, List.length_cons, List.length_nil]; omega))) ?_
      rintro a27 w16 hT
      have S := S.tn (i := 2) rfl rfl hT
      refine asg1 rfl rfl ?_
      refine Ro.nil ?_
      refine Nrm.code ?_
      refine Run.seq ?_
      refine Run.region ?_
      refine mv1 rfl rfl ?_
      refine mv1 rfl rfl ?_
      refine apB rfl rfl e26 (S.bsI (i := 1) rfl hTb) S (i := 2) rfl rfl (fun _ => rfl) (by simp [four4]; omega) ?_
      intro a28 w17 S B_
      refine asg1 rfl rfl ?_
      refine Ro.nil ?_
      refine Nrm.code ?_
      refine Run.seq ?_
      refine Run.region ?_
      refine mv1 rfl rfl ?_
      refine fld (o' := 42) rfl fo28_10 rfl rfl rfl rfl ?_
      refine ld1 rfl T26 S (i := 4) rfl rfl rfl rfl rfl ?_
      refine apB rfl rfl e26 (hd.now S) S (i := 2) rfl rfl (fun _ => rfl) (by simp [four4]; omega) ?_
      intro a29 w18 S B_
      refine asg1 rfl rfl ?_
      refine asg1 rfl rfl ?_
      refine Ro.nil ?_
      refine Nrm.code ?_
      refine Run.ret ?_
      refine Rt.two rfl rfl rfl ?_
      have hfin := ser_ref hc2 hg11
      rw [← hHD] at hfin
      rw [show (four4 h.dst).take 4 = four4 h.dst from rfl] at S
      exact ⟨_, by rw [hc2], by rw [← hfin]; exact S.toFB (i := 2) rfl⟩
end Go.Proofs.YtkahmepenjhcpaaDoor.W
/- Contracts: the reference: canonical bytes, hops. No statement of the seat is proved here. -/
namespace Go.Proofs.YtkahmepenjhcpaaDoor.W
open Go
set_option linter.unusedSimpArgs false
set_option linter.unusedVariables false
theorem par_facts {b : List Int} (h : parE b = 0) : 20 ≤ b.length ∧ b.length ≤ 65535 ∧ b.getD 0 0 / 16 = 4 ∧ 20 ≤ hdN b ∧ hdN b ≤ b.length ∧ hdN b ≤ totN b ∧ totN b ≤ b.length ∧ sumS (b.take (hdN b)) = 65535 ∧ optE (optB4 b) = 0 ∧ fragE (decide (b.getD 6 0 / 32 % 2 = 1)) (8 * offW b) ((totN b : Int) - hdN b) = 0 := by
  have ho := optE_le (optB4 b)
  unfold parE at h
  by_cases h1 : 65535 < b.length
  · rw [if_pos h1] at h; omega
  rw [if_neg h1] at h
  by_cases h2 : b.length < 20
  · rw [if_pos h2] at h; omega
  rw [if_neg h2] at h
  by_cases h3 : b.getD 0 0 / 16 ≠ 4
  · rw [if_pos h3] at h; omega
  rw [if_neg h3] at h
  by_cases h4 : hdN b < 20 ∨ b.length < hdN b
  · rw [if_pos h4] at h; omega
  rw [if_neg h4] at h
  by_cases h5 : totN b < hdN b ∨ b.length < totN b
  · rw [if_pos h5] at h; omega
  rw [if_neg h5] at h
  by_cases h6 : sumS (b.take (hdN b)) ≠ 65535
  · rw [if_pos h6] at h; omega
  rw [if_neg h6] at h
  by_cases h7 : optE (optB4 b) ≠ 0
  · rw [if_pos h7] at h; omega
  rw [if_neg h7] at h
  refine ⟨by omega, by omega, by omega, by omega, by omega, by omega, by omega, by omega, by omega, ?_⟩
  omega
def hopM (b : List Int) : List Int := b.set 8 (b.getD 8 0 - 1)
def hopC (b : List Int) : Int := 65535 - sumS ((hopM b).take 10 ++ ((hopM b).drop 12).take (hdN b - 12))
def hopW (b : List Int) : List Int := ((hopM b).set 10 (hopC b / 256)).set 11 (hopC b % 256)
def hopE (b : List Int) : Int := if parE b ≠ 0 then parE b else if b.getD 8 0 < 2 then 67 else 0
def hopB (b : List Int) : List Int := if hopE b = 0 then hopW b else b
theorem hopM_byt {b : List Int} (h : byt b) (h2 : 2 ≤ b.getD 8 0) : byt (hopM b) := byt_set h _ (by have := byt_getD h 8; omega)
theorem hopC_bd {b : List Int} (h : byt (hopM b)) : 0 ≤ hopC b ∧ hopC b ≤ 65535 := by
  have hw := wsum_bd ((hopM b).take 10 ++ ((hopM b).drop 12).take (hdN b - 12)) true (byt_app (byt_take h _) (byt_take (byt_drop h _) _))
  have hf := foldS_bd hw.1
  unfold hopC sumS; omega
theorem parH_ttl {b : List Int} (h : parE b = 0) : (parH b).ttl = b.getD 8 0 := by unfold parH; rw [if_pos h]; rfl
set_option maxHeartbeats 1000000 in
theorem c43 (v : Value) (b : List Int) (w : World) (hb : BS [] w v b) :
  CallsD Tryd.prog 43 #[v] w (.bool (canB b)) := by
 refine enter Tryd.func43 rfl Tryd.ntmps43 (l := [(0, [], _)]) rfl rfl ?_
 have S := St.refl [] w
 have hpk := parH_ok hb.1
 refine Run.seq ?_
 refine Run.region ?_
 refine asg1 rfl rfl ?_
 refine Ro.nil ?_
 refine Nrm.code ?_
 refine Run.seq ?_
 refine Run.region ?_
 refine mv1 rfl rfl ?_
 have S0 := S
 refine call (vs := [_]) ⟨⟨_, _, rfl, rfl⟩, trivial⟩ k42 rfl (c42 _ _ _ (hb.now S)) ?_
 rintro _ w1 ⟨o3, d3, rfl, hFH⟩
 have S := S.call hFH.1
 have ho3 := (hFH.2 _ S0.lt).1
 have hd3 := (hFH.2 _ S0.lt).2
 obtain ⟨N1, hN1, S_1⟩ := S.reb
 have hb := hb.st S; rw [hN1] at hb
 rw [hN1] at ho3
 rw [hN1] at hd3
 have SS := S
 have S := S_1
 refine mv1 rfl rfl ?_
 refine extr1 rfl rfl rfl ?_
 refine extr1 rfl rfl rfl ?_
 refine alc T28 S rfl ?_
 intro b3 w2 hb3 S B_
 refine stW rfl rfl T28 rfl rfl (one_cons rfl (one_cons rfl (one_cons rfl (one_cons rfl (one_cons rfl (one_cons rfl (one_cons rfl (one_cons rfl (one_cons rfl (one_cons rfl (one_cons rfl (one_cons rfl (one_cons rfl (one_cons rfl (one_cons rfl (one_cons rfl (one_cons rfl (one_cons rfl (one_cons rfl (one_cons rfl (one_cons rfl (one_cons rfl (one_cons rfl (one_cons rfl (one_cons rfl (one_cons rfl (one_cons rfl (one_cons rfl (one_cons rfl (one_cons rfl (one_cons rfl (one_cons rfl (one_cons rfl (one_cons rfl (one_cons rfl (one_cons rfl (one_cons rfl (one_cons rfl (one_cons rfl (one_cons rfl (one_cons rfl (one_cons ho3.one (one_cons hd3.one one_nil))))))))))))))))))))))))))))))))))))))))))) S (i := 0) rfl rfl ?_
 intro w3 S
 refine asg1 rfl rfl ?_
 refine Ro.nil ?_
 refine Nrm.code ?_
 refine Run.seq ?_
 refine Run.seq ?_
 refine Run.region ?_
 refine mv1 rfl rfl ?_
 refine neq1 rfl rfl rfl ?_
 refine Ro.nil ?_
 refine Nrm.code ?_
 refine Run.cond rfl (fun hc2 => ?_) (fun hc2 => ?_)
 ·
  try simp only [Bool.or_eq_true, Bool.and_eq_true, Bool.or_eq_false_iff, Bool.and_eq_false_iff, decide_eq_true_eq, decide_eq_false_iff_not, Bool.not_eq_true', Bool.not_eq_false', Bool.not_eq_true, Bool.not_eq_false] at hc2
  refine Run.seq ?_
  refine Run.region ?_
  refine asg1 rfl rfl ?_
  refine Ro.nil ?_
  refine Nrm.code ?_
  refine Run.ret ?_
  refine Rt.one rfl rfl ?_
  exact ⟨by rw [canB, decide_eq_false hc2]; rfl, (SS.tran hN1 S).bl⟩
 ·
  try simp only [Bool.or_eq_true, Bool.and_eq_true, Bool.or_eq_false_iff, Bool.and_eq_false_iff, decide_eq_true_eq, decide_eq_false_iff_not, Bool.not_eq_true', Bool.not_eq_false', Bool.not_eq_true, Bool.not_eq_false] at hc2
  replace hc2 : parE b = 0 := by omega
  have hbl := par_facts hc2
  refine Run.skip ?_
  refine Nrm.code ?_
  refine Run.seq ?_
  refine Run.region ?_
  refine ldW rfl T28 S (i := 0) rfl rfl rfl rfl rfl ?_
  refine call (vs := [_]) ⟨⟨_, _, rfl, rfl⟩, trivial⟩ k115 rfl (c115 _ _ _ _ (ho3.now S) (hd3.now S) (by omega) (by omega) hpk.1 hpk.2.1) ?_
  rintro _ w4 ⟨u5, rfl, hF⟩
  have S := S.fb hF
  have hby_u5 := serL_byt hpk.1 hpk.2.1 ho3.byt hd3.1
  refine mv1 rfl rfl ?_
  refine extr1 rfl rfl rfl ?_
  refine extr1 rfl rfl rfl ?_
  refine asg1 rfl rfl ?_
  refine asg1 rfl rfl ?_
  refine Ro.nil ?_
  refine Nrm.code ?_
  refine Run.seq ?_
  refine Run.region ?_
  refine mv1 rfl rfl ?_
  refine eql1 rfl rfl rfl ?_
  refine mv1 rfl rfl ?_
  refine mv rfl rfl rfl rfl ?_
  refine mv rfl rfl rfl rfl ?_
  refine calg (vs := [_, _]) rfl ⟨⟨_, _, rfl, rfl⟩, ⟨_, _, rfl, rfl⟩, trivial⟩ k37 rfl (fun hG => c37 _ _ _ _ _ (hb.now S) (S.bsI (i := 0) rfl hby_u5)) ?_
  intro w5 B_; have S := S.call B_
  refine pkA rfl rfl rfl rfl rfl rfl ?_
  refine asg1 rfl rfl ?_
  refine Ro.nil ?_
  refine Nrm.code ?_
  refine Run.ret ?_
  refine Rt.one rfl rfl ?_
  exact ⟨by rw [canB, hc2]; rfl, (SS.tran hN1 S).bl⟩
set_option maxHeartbeats 1000000 in
theorem c49 (v : Value) (b : List Int) (w : World) (hb : BS [] w v b) (hl : b.length ≤ 1099511627776) :
  CallsV Tryd.prog 49 #[v] w (fun r w' => ∃ u, r = .tuple #[u, .int .i64 (hopE b)] ∧ FB w w' u (hopB b)) := by
 refine enter Tryd.func49 rfl Tryd.ntmps49 (l := [(0, [], _)]) rfl rfl ?_
 have S := St.refl [] w
 have hB := byt_getD hb.1
 refine Run.seq ?_
 refine Run.region ?_
 refine asg1 rfl rfl ?_
 refine asg1 rfl rfl ?_
 refine Ro.nil ?_
 refine Nrm.code ?_
 refine Run.seq ?_
 refine Run.region ?_
 refine mv1 rfl rfl ?_
 have S0 := S
 refine call (vs := [_]) ⟨⟨_, _, rfl, rfl⟩, trivial⟩ k42 rfl (c42 _ _ _ (hb.now S)) ?_
 rintro _ w1 ⟨o4, d4, rfl, hFH⟩
 have S := S.call hFH.1
 have ho4 := (hFH.2 _ S0.lt).1
 have hd4 := (hFH.2 _ S0.lt).2
 obtain ⟨N1, hN1, S_1⟩ := S.reb
 have hb := hb.st S; rw [hN1] at hb
 rw [hN1] at ho4
 rw [hN1] at hd4
 have SS := S
 have S := S_1
 refine mv1 rfl rfl ?_
 refine extr1 rfl rfl rfl ?_
 refine extr1 rfl rfl rfl ?_
 refine alc T28 S rfl ?_
 intro b4 w2 hb4 S B_
 refine stW rfl rfl T28 rfl rfl (one_cons rfl (one_cons rfl (one_cons rfl (one_cons rfl (one_cons rfl (one_cons rfl (one_cons rfl (one_cons rfl (one_cons rfl (one_cons rfl (one_cons rfl (one_cons rfl (one_cons rfl (one_cons rfl (one_cons rfl (one_cons rfl (one_cons rfl (one_cons rfl (one_cons rfl (one_cons rfl (one_cons rfl (one_cons rfl (one_cons rfl (one_cons rfl (one_cons rfl (one_cons rfl (one_cons rfl (one_cons rfl (one_cons rfl (one_cons rfl (one_cons rfl (one_cons rfl (one_cons rfl (one_cons rfl (one_cons rfl (one_cons rfl (one_cons rfl (one_cons rfl (one_cons rfl (one_cons rfl (one_cons rfl (one_cons ho4.one (one_cons hd4.one one_nil))))))))))))))))))))))))))))))))))))))))))) S (i := 0) rfl rfl ?_
 intro w3 S
 refine asg1 rfl rfl ?_
 refine Ro.nil ?_
 refine Nrm.code ?_
 refine Run.seq ?_
 refine Run.seq ?_
 refine Run.region ?_
 refine mv1 rfl rfl ?_
 refine neq1 rfl rfl rfl ?_
 refine Ro.nil ?_
 refine Nrm.code ?_
 refine Run.cond rfl (fun hc2 => ?_) (fun hc2 => ?_)
 ·
  try simp only [Bool.or_eq_true, Bool.and_eq_true, Bool.or_eq_false_iff, Bool.and_eq_false_iff, decide_eq_true_eq, decide_eq_false_iff_not, Bool.not_eq_true', Bool.not_eq_false', Bool.not_eq_true, Bool.not_eq_false] at hc2
  refine Run.seq ?_
  refine Run.region ?_
  refine mv1 rfl rfl ?_
  refine call (vs := [_]) ⟨⟨_, _, rfl, rfl⟩, trivial⟩ k39 rfl (c39 _ _ _ (hb.now S) (by omega)) ?_
  rintro u17 w4 hF
  have S := S.fb hF
  refine mv1 rfl rfl ?_
  refine asg1 rfl rfl ?_
  refine asg1 rfl rfl ?_
  refine Ro.nil ?_
  refine Nrm.code ?_
  refine Run.ret ?_
  refine Rt.two rfl rfl rfl ?_
  have he : hopE b = parE b := by unfold hopE; rw [if_pos hc2]
  exact ⟨u17, by first | (rw [he]; done) | (rw [he]; rfl), by rw [show hopB b = b from by unfold hopB; rw [if_neg (by omega)]]; exact (SS.tran hN1 S).toFB (i := 0) rfl⟩
 ·
  try simp only [Bool.or_eq_true, Bool.and_eq_true, Bool.or_eq_false_iff, Bool.and_eq_false_iff, decide_eq_true_eq, decide_eq_false_iff_not, Bool.not_eq_true', Bool.not_eq_false', Bool.not_eq_true, Bool.not_eq_false] at hc2
  replace hc2 : parE b = 0 := by omega
  have hpf := par_facts hc2
  have htl := parH_ttl hc2
  refine Run.skip ?_
  refine Nrm.code ?_
  refine Run.seq ?_
  refine Run.seq ?_
  refine Run.region ?_
  refine fld (o' := 5) rfl fo28_5 rfl rfl rfl rfl ?_
  refine ld1 rfl T3 S (i := 0) rfl rfl rfl rfl rfl ?_
  refine lss1 rfl rfl rfl ?_
  refine Ro.nil ?_
  refine Nrm.code ?_
  refine Run.cond rfl (fun hc4 => ?_) (fun hc4 => ?_)
  ·
   try simp only [Bool.or_eq_true, Bool.and_eq_true, Bool.or_eq_false_iff, Bool.and_eq_false_iff, decide_eq_true_eq, decide_eq_false_iff_not, Bool.not_eq_true', Bool.not_eq_false', Bool.not_eq_true, Bool.not_eq_false] at hc4
   refine Run.seq ?_
   refine Run.region ?_
   refine mv1 rfl rfl ?_
   refine call (vs := [_]) ⟨⟨_, _, rfl, rfl⟩, trivial⟩ k39 rfl (c39 _ _ _ (hb.now S) (by omega)) ?_
   rintro u23 w4 hF
   have S := S.fb hF
   refine asg1 rfl rfl ?_
   refine asg1 rfl rfl ?_
   refine Ro.nil ?_
   refine Nrm.code ?_
   refine Run.ret ?_
   refine Rt.two rfl rfl rfl ?_
   have he : hopE b = 67 := by unfold hopE; rw [if_neg (by omega), if_pos (by omega)]
   exact ⟨u23, by first | (rw [he]; done) | (rw [he]; rfl), by rw [show hopB b = b from by unfold hopB; rw [if_neg (by omega)]]; exact (SS.tran hN1 S).toFB (i := 0) rfl⟩
  ·
   try simp only [Bool.or_eq_true, Bool.and_eq_true, Bool.or_eq_false_iff, Bool.and_eq_false_iff, decide_eq_true_eq, decide_eq_false_iff_not, Bool.not_eq_true', Bool.not_eq_false', Bool.not_eq_true, Bool.not_eq_false] at hc4
   have hb8 : 2 ≤ b.getD 8 0 := by omega
   refine Run.skip ?_
   refine Nrm.code ?_
   refine Run.seq ?_
   refine Run.region ?_
   refine mv1 rfl rfl ?_
   refine call (vs := [_]) ⟨⟨_, _, rfl, rfl⟩, trivial⟩ k39 rfl (c39 _ _ _ (hb.now S) (by omega)) ?_
   rintro u25 w4 hF
   have S := S.fb hF
   refine asg1 rfl rfl ?_
   refine Ro.nil ?_
   refine Nrm.code ?_
   refine Run.seq ?_
   refine Run.region ?_
   refine mv1 rfl rfl ?_
   refine ixa rfl rfl (S.slI (i := 0) rfl) e26 rfl rfl rfl rfl (fun _ => by first | omega | (simp only [List.length_cons, List.length_nil]; omega)) ?_
   refine ldB rfl (S.bsI (i := 0) rfl hb.1) (St.refl [] _) T5 rfl rfl rfl (fun _ => by omega) ?_
   intro q28 hq28 hbq28
   try simp only [Int.toNat_natCast, Nat.mul_one, Int.reduceToNat] at hq28
   refine rem1 rfl rfl rfl (by decide) (r64 (by omega)) ?_
   refine cvi1 rfl rfl Tryd.underlying5 Tryd.underlying3 (w64 (by omega)) ?_
   refine mul1 rfl rfl rfl ((show IntKind.i64.wrap (_ * 4) = (hdN b : Int) from by rw [w64 (by omega)]; have hH : 4 * (b.getD 0 0 % 16) = (hdN b : Int) := (by unfold hdN; omega); omega)) ?_
   refine asg1 rfl rfl ?_
   refine Ro.nil ?_
   refine Nrm.code ?_
   refine Run.seq ?_
   refine Run.region ?_
   refine mv1 rfl rfl ?_
   refine mv1 rfl rfl ?_
   refine ixa rfl rfl (S.slI (i := 0) rfl) e26 rfl rfl rfl rfl (fun _ => by first | omega | (simp only [List.length_cons, List.length_nil]; omega)) ?_
   refine ldB rfl (S.bsI (i := 0) rfl hb.1) (St.refl [] _) T5 rfl rfl rfl (fun _ => by omega) ?_
   intro q35 hq35 hbq35
   try simp only [Int.toNat_natCast, Nat.mul_one, Int.reduceToNat] at hq35
   refine sub1 rfl rfl rfl (w8of rfl (by omega)) ?_
   subst hq35
   have hMb : byt (b.set 8 (b.getD 8 0 - 1)) := byt_set hb.1 _ (by omega)
   have hCb := hopC_bd (b := b) hMb
   refine ixa rfl rfl (S.slI (i := 0) rfl) e26 rfl rfl rfl rfl (fun _ => by omega) ?_
   refine stB rfl rfl T5 S (i := 0) rfl (by omega) rfl ?_
   intro w5 S
   refine Ro.nil ?_
   refine Nrm.code ?_
   refine Run.seq ?_
   refine Run.heldB (by kernel_rfl) S [true, true] rfl rfl rfl ?_
   intro w6 BD S SC
   refine Hb.take (i := 0) SC (fun _ _ S B => S.call B) Pp.body rfl (by kernel_rfl) (by kernel_rfl) (by kernel_rfl) rfl rfl ?_
   have hr25 := S.bsI (i := 0) (l := b.set 8 (b.getD 8 0 - 1)) rfl hMb
   refine qmv rfl rfl rfl rfl ?_
   refine Hb.back ?_
   refine Hb.take (i := 1) SC (fun _ _ S B => S.call B) Pp.body rfl (by kernel_rfl) (by kernel_rfl) (by kernel_rfl) rfl rfl ?_
   refine qslC (lo := 0) (hi := 10) (mx := capV u25) rfl hr25 e26 rfl rfl rfl (i1 := none) (i2 := some 10) (i3 := none) trivial ⟨_, _, _, rfl, rfl⟩ trivial rfl rfl rfl (fun h => by first | rfl | cases h) (fun _ => by have := hr25.cap; rw [List.length_set] at *; omega) ?_
   refine Hb.back ?_
   refine Hb.take (i := 2) SC (fun _ _ S B => S.call B) Pp.body rfl (by kernel_rfl) (by kernel_rfl) (by kernel_rfl) rfl rfl ?_
   refine qmv rfl rfl rfl rfl ?_
   refine Hb.back ?_
   refine Hb.take (i := 3) SC (fun _ _ S B => S.call B) Pp.body rfl (by kernel_rfl) (by kernel_rfl) (by kernel_rfl) rfl rfl ?_
   refine qmv rfl rfl rfl rfl ?_
   refine Hb.back ?_
   refine Hb.take (i := 4) SC (fun _ _ S B => S.call B) Pp.body rfl (by kernel_rfl) (by kernel_rfl) (by kernel_rfl) rfl rfl ?_
   refine qslC (lo := 12) (hi := hdN b) (mx := capV u25) rfl hr25 e26 rfl rfl rfl (i1 := some 12) (i2 := some (hdN b)) (i3 := none) ⟨_, _, _, rfl, rfl⟩ ⟨_, _, _, rfl, rfl⟩ trivial rfl rfl rfl (fun h => by first | rfl | cases h) (fun _ => by have := hr25.cap; rw [List.length_set] at *; omega) ?_
   refine Hb.back ?_
   refine Hb.one (i := 5) (by kernel_rfl) rfl rfl ?_
   intro w7 BD; have S := S.call BD
   refine bsl e102 (qs := [(_, _), (_, _)]) ⟨⟨_, _, _, rfl, rfl, cells1 hr25.cutOne, rfl, List.cons_ne_nil _ _⟩, ⟨_, _, _, rfl, rfl, cells1 hr25.cutOne, rfl, List.cons_ne_nil _ _⟩, trivial⟩ rfl rfl rfl rfl S ?_
   intro u43 w8 S B_
   have SC := S.pick [false, true, true] rfl
   refine Hb.on SC ?_
   refine Hb.one (i := 6) (by kernel_rfl) rfl rfl ?_
   intro w9 BD; have S := S.call BD
   have hr := S.bsI (i := 1) (l := (b.set 8 (b.getD 8 0 - 1))) rfl hMb
   have hck : CallsD Tryd.prog 117 #[u43] w9 (.int .i64 (hopC b)) := by
    have := c117 u43 [((hopM b).drop 0).take (10 - 0), ((hopM b).drop 12).take (hdN b - 12)] w9 ⟨[_, _], S.slI (i := 0) rfl, hr.cut (lo := 0) (hi := 10) (mx := capV u25) (by have := hr.cap; rw [List.length_set] at *; omega), hr.cut (lo := 12) (hi := hdN b) (mx := capV u25) (by have := hr.cap; rw [List.length_set] at *; omega), trivial⟩ (by simp [hopM]; omega) (by simp)
    rw [show [((hopM b).drop 0).take (10 - 0), ((hopM b).drop 12).take (hdN b - 12)].flatten = (hopM b).take 10 ++ ((hopM b).drop 12).take (hdN b - 12) from by simp] at this
    exact this
   refine calg (vs := [_]) rfl ⟨⟨_, _, rfl, rfl⟩, trivial⟩ k117 rfl (fun hG => hck) ?_
   intro w10 B_; have S := S.call B_
   have SC := S.pick [false, true, true] rfl
   refine Hb.on SC ?_
   refine Hb.take (i := 7) SC (fun _ _ S B => S.call B) Pp.body rfl (by kernel_rfl) (by kernel_rfl) (by kernel_rfl) rfl rfl ?_
   refine qasg rfl rfl rfl rfl ?_
   refine Hb.back ?_
   refine Hb.done (by kernel_rfl) ?_
   intro w11 BD; have S := S.call BD
   refine Nrm.code ?_
   refine Run.seq ?_
   refine Run.region ?_
   refine mv1 rfl rfl ?_
   refine mv1 rfl rfl ?_
   refine quo1 rfl rfl rfl (by decide) (q64 (by omega)) ?_
   refine cvi1 rfl rfl Tryd.underlying3 Tryd.underlying5 (w8of rfl (by omega)) ?_
   refine ixa rfl rfl (S.slI (i := 1) rfl) e26 rfl rfl rfl rfl (by simp; omega) ?_
   refine stB rfl rfl T5 S (i := 1) rfl (by simp; omega) rfl ?_
   intro w12 S
   refine Ro.nil ?_
   refine Nrm.code ?_
   refine Run.seq ?_
   refine Run.region ?_
   refine mv1 rfl rfl ?_
   refine mv1 rfl rfl ?_
   refine rem1 rfl rfl rfl (by decide) (r64 (by omega)) ?_
   refine cvi1 rfl rfl Tryd.underlying3 Tryd.underlying5 (w8of rfl (by omega)) ?_
   refine ixa rfl rfl (S.slI (i := 1) rfl) e26 rfl rfl rfl rfl (by simp; omega) ?_
   refine stB rfl rfl T5 S (i := 1) rfl (by simp; omega) rfl ?_
   intro w13 S
   refine Ro.nil ?_
   refine Nrm.code ?_
   refine Run.seq ?_
   refine Run.region ?_
   refine mv1 rfl rfl ?_
   refine asg1 rfl rfl ?_
   refine asg1 rfl rfl ?_
   refine Ro.nil ?_
   refine Nrm.code ?_
   refine Run.ret ?_
   refine Rt.two rfl rfl rfl ?_
   have he : hopE b = 0 := by unfold hopE; rw [if_neg (by omega), if_neg (by omega)]
   exact ⟨u25, by first | (rw [he]; done) | (rw [he]; rfl), by rw [show hopB b = hopW b from by unfold hopB; rw [if_pos he]]; exact (SS.tran hN1 S).toFB (i := 1) rfl⟩
end Go.Proofs.YtkahmepenjhcpaaDoor.W
/- The walk of weirlaw6.Ip4Back. No statement of the seat is proved here. -/
namespace Go.Proofs.YtkahmepenjhcpaaDoor.W
open Go
set_option linter.unusedSimpArgs false
set_option linter.unusedVariables false
theorem chkE_bd (h : Ip4) : 0 ≤ chkE h ∧ chkE h ≤ 68 := by
  have := fragE_or h.mf h.off h.data.length
  have : putE h.opts = 0 ∨ putE h.opts = 65 := by unfold putE; split <;> simp
  unfold chkE
  (repeat' split) <;> omega
theorem parE_bd (b : List Int) : 0 ≤ parE b ∧ parE b ≤ 66 := by
  have := optE_le (optB4 b)
  have := fragE_or (decide (b.getD 6 0 / 32 % 2 = 1)) (8 * offW b) ((totN b : Int) - hdN b)
  unfold parE
  (repeat' split) <;> omega
end Go.Proofs.YtkahmepenjhcpaaDoor.W
/- Plain facts: what is read may be written. No statement of the seat is proved here. -/
namespace Go.Proofs.YtkahmepenjhcpaaDoor.W
open Go
set_option linter.unusedVariables false
set_option linter.unusedSimpArgs false
end Go.Proofs.YtkahmepenjhcpaaDoor.W
/- Contracts: Hop. No statement of the seat is proved here. -/
namespace Go.Proofs.YtkahmepenjhcpaaDoor.W
open Go
set_option linter.unusedSimpArgs false
set_option linter.unusedVariables false
theorem St.bsV {N0 : List Nat} {w0 w : World} {L : List Own} {i j : Nat} {v : Value} {l : List Int} {o : Own} (S : St N0 w0 L w) (hk : getN L i = some (oB v l)) (hj : getN L j = some o) (hn : i ≠ j) (hb : byt l) {n mx : Nat} (hc : n ≤ l.length ∧ n ≤ mx ∧ mx ≤ capV v) : BS o.ids w (cut v 0 n mx) (l.take n) :=
  (S.bsN hk hj hn hb).cut0 hc
theorem twelve {b : List Int} (h : 12 ≤ b.length) : ∃ x0 x1 x2 x3 x4 x5 x6 x7 x8 x9 x10 x11 r, b = x0 :: x1 :: x2 :: x3 :: x4 :: x5 :: x6 :: x7 :: x8 :: x9 :: x10 :: x11 :: r := by
  rcases b with _ | ⟨x0, _ | ⟨x1, _ | ⟨x2, _ | ⟨x3, _ | ⟨x4, _ | ⟨x5, _ | ⟨x6, _ | ⟨x7, _ | ⟨x8, _ | ⟨x9, _ | ⟨x10, _ | ⟨x11, r⟩⟩⟩⟩⟩⟩⟩⟩⟩⟩⟩⟩ <;> first
    | (simp at h; done)
    | exact ⟨_, _, _, _, _, _, _, _, _, _, _, _, _, rfl⟩
theorem foldS_cong {a b : Int} (ha : 0 < a) (hb : 0 < b) (h : a % 65535 = b % 65535) : foldS a = foldS b := by
  unfold foldS
  rw [if_neg (by omega), if_neg (by omega)]
  omega
theorem foldS_full {a : Int} (ha : 0 ≤ a) (h : foldS a = 65535) : a % 65535 = 0 := by
  unfold foldS at h
  split at h <;> omega
theorem hop_fix {b : List Int} (hb : byt b) (hp : parE b = 0) (h8 : 2 ≤ b.getD 8 0) :
    65535 - foldS (65535 - (b.getD 10 0 * 256 + b.getD 11 0) + 65535 - (b.getD 8 0 * 256 + b.getD 9 0) + (b.getD 8 0 * 256 + b.getD 9 0 - 256)) = hopC b := by
  have hf := par_facts hp
  obtain ⟨h20, _, h4, hh20, hhb, _, _, hs, _⟩ := hf
  have hB := byt_getD hb
  have B0 := hB 0
  have B1 := hB 1
  have B2 := hB 2
  have B3 := hB 3
  have B4 := hB 4
  have B5 := hB 5
  have B6 := hB 6
  have B7 := hB 7
  have B8 := hB 8
  have B9 := hB 9
  have B10 := hB 10
  have B11 := hB 11
  have hbr : byt (b.drop 12) := byt_drop hb 12
  generalize hm : hdN b = m at *
  obtain ⟨x0, x1, x2, x3, x4, x5, x6, x7, x8, x9, x10, x11, r, rfl⟩ := twelve (b := b) (by omega)
  obtain ⟨m', rfl⟩ : ∃ m', m = m' + 12 := ⟨m - 12, by omega⟩
  simp only [List.getD_cons_zero, List.getD_cons_succ] at *
  simp only [List.drop_succ_cons, List.drop_zero] at hbr
  have hw := wsum_bd (r.take m') true (byt_take hbr m')
  have e1 : sumS ((x0 :: x1 :: x2 :: x3 :: x4 :: x5 :: x6 :: x7 :: x8 :: x9 :: x10 :: x11 :: r).take (m' + 12)) = foldS (x0 * 256 + x1 + x2 * 256 + x3 + x4 * 256 + x5 + x6 * 256 + x7 + x8 * 256 + x9 + x10 * 256 + x11 + wsum true (r.take m')) := by
    simp only [List.take_succ_cons, sumS, wsum]
    congr 1
    omega
  have e2 : hopC (x0 :: x1 :: x2 :: x3 :: x4 :: x5 :: x6 :: x7 :: x8 :: x9 :: x10 :: x11 :: r) = 65535 - foldS (x0 * 256 + x1 + x2 * 256 + x3 + x4 * 256 + x5 + x6 * 256 + x7 + (x8 - 1) * 256 + x9 + wsum true (r.take m')) := by
    unfold hopC hopM
    rw [hm]
    simp only [List.getD_cons_zero, List.getD_cons_succ, List.set_cons_succ, List.set_cons_zero, List.take_succ_cons, List.take_zero, List.drop_succ_cons, List.drop_zero, Nat.add_sub_cancel, List.cons_append, List.nil_append, sumS, wsum]
    congr 2
    omega
  rw [e1] at hs
  have h0 := foldS_full (by omega) hs
  rw [e2]
  congr 1
  exact foldS_cong (by omega) (by omega) (by omega)
theorem hop_row {bs : List Int} {n : Nat} {c : Int} (hn : n ≤ bs.length) (h12 : 12 ≤ n) (he : hopE (bs.take n) = 0) (hc : c = hopC (bs.take n)) :
    ((bs.set 8 ((bs.take n).getD 8 0 - 1)).set 10 (c / 256)).set 11 (c % 256) = hopB (bs.take n) ++ bs.drop n := by
  have hl : (bs.take n).length = n := by rw [List.length_take]; omega
  unfold hopB
  rw [if_pos he]
  unfold hopW hopM
  rw [hc]
  conv => lhs; rw [← List.take_append_drop n bs]
  rw [List.set_append_left _ _ (by omega), List.set_append_left _ _ (by simp; omega), List.set_append_left _ _ (by simp; omega)]
  simp
set_option maxHeartbeats 1000000 in
theorem c108 (v : Value) (b : List Int) (i bx : Nat) (w : World) (hv : (Own.var bx 26 [v]).holds w) (hb : BS [bx] w v b) (hi : i + 1 < b.length) (hl : b.length ≤ 1099511627776) :
  CallsV Tryd.prog 108 #[.int .i64 i, .pointer (some ⟨bx, 0, none⟩)] w (fun r w' => r = .int .i64 (b.getD i 0 * 256 + b.getD (i + 1) 0) ∧ Tn w w' (.var bx 26 [v]) (.var bx 26 [v])) := by
 refine enter Tryd.func108 rfl Tryd.ntmps108 (l := [(0, [], _), (1, [], _)]) rfl rfl ?_
 have S := St.own0 hv
 refine Run.seq ?_
 refine Run.region ?_
 refine asg1 rfl rfl ?_
 refine Ro.nil ?_
 refine Nrm.code ?_
 refine Run.seq ?_
 refine Run.draw (by kernel_rfl) (by kernel_rfl) S ?_
 refine qld1 rfl T26 (fun _ S => S) (i := 0) rfl rfl rfl rfl rfl ?_
 refine qmv rfl rfl rfl rfl ?_
 refine qixa rfl rfl hb.2 e26 rfl rfl rfl rfl (fun _ => by first | omega | (simp only [List.length_cons, List.length_nil]; omega)) ?_
 refine qldB rfl hb (fun _ S => S) T5 rfl rfl rfl (fun _ => by omega) ?_
 intro q7 hq7 hbq7
 try simp only [Int.toNat_natCast, Nat.mul_one, Int.reduceToNat] at hq7
 refine qcvi rfl rfl rfl rfl Tryd.underlying5 Tryd.underlying3 (fun _ => w64 (by omega)) ?_
 refine qshl rfl rfl rfl rfl rfl rfl (fun _ => by decide) (fun _ => sl8 (by omega)) ?_
 refine qld1 rfl T26 (fun _ S => S) (i := 0) rfl rfl rfl rfl rfl ?_
 refine qmv rfl rfl rfl rfl ?_
 refine qadd rfl rfl rfl rfl rfl rfl (fun _ => w64 (by omega)) ?_
 refine qixa rfl rfl hb.2 e26 rfl rfl rfl rfl (fun _ => by first | omega | (simp only [List.length_cons, List.length_nil]; omega)) ?_
 refine qldB rfl hb (fun _ S => S) T5 rfl rfl rfl (fun _ => by omega) ?_
 intro q14 hq14 hbq14
 try simp only [Int.toNat_natCast, Nat.mul_one, Int.reduceToNat] at hq14
 refine qcvi rfl rfl rfl rfl Tryd.underlying5 Tryd.underlying3 (fun _ => w64 (by omega)) ?_
 refine qbor rfl rfl rfl rfl rfl rfl (fun _ => or8 (by omega) (by omega)) ?_
 refine qasg rfl rfl rfl rfl ?_
 refine Qo.nil (fun w1 S => ?_)
 refine Nrm.code ?_
 refine Run.ret ?_
 refine Rt.one rfl rfl ?_
 have e1 : q7 = b.getD i 0 := hq7
 have e2 : q14 = b.getD (i + 1) 0 := hq14
 exact ⟨by rw [← e1, ← e2], S.toTn (i := 0) rfl⟩
set_option maxHeartbeats 1000000 in
theorem c40 (v : Value) (bs : List Int) (n mx : Nat) (w : World) (hv : (oB v bs).holds w) (hb : byt bs) (hc : n ≤ bs.length ∧ n ≤ mx ∧ mx ≤ capV v) (hl : bs.length ≤ 1099511627776) (hg : GV (oB v bs).ids w 0 130 (W4.map i64)) :
  CallsV Tryd.prog 40 #[cut v 0 n mx] w (fun r w' => r = .int .i64 (hopE (bs.take n)) ∧ Tn w w' (oB v bs) (oB v (hopB (bs.take n) ++ bs.drop n))) := by
 refine enter Tryd.func40 rfl Tryd.ntmps40 (l := [(0, [], _)]) rfl rfl ?_
 have S := St.own0 hv
 have hbt : byt (bs.take n) := byt_take hb n
 have hB := byt_getD hbt
 have hlt : (bs.take n).length = n := by rw [List.length_take]; omega
 refine Run.seq ?_
 refine Run.region ?_
 refine boxS rfl ((S.bsI (i := 0) rfl hb).cut0 hc).one S rfl ?_
 intro b1 w1 hb1 S B_
 refine asg1 rfl rfl ?_
 refine Ro.nil ?_
 refine Nrm.code ?_
 refine Run.seq ?_
 refine Run.seq ?_
 refine Run.region ?_
 refine ld1 rfl T26 S (i := 0) rfl rfl rfl rfl rfl ?_
 refine call (vs := [_]) ⟨⟨_, _, rfl, rfl⟩, trivial⟩ k33 rfl (c33 _ _ _ ((S.bsI (i := 1) rfl hb).cut0 hc) (hg.now S)) ?_
 rintro _ w2 ⟨o3, d3, vs3, rfl, hF, hw3⟩
 have S := S.fo hF
 have hd3 := (hw3 _ _ ((S.bsI (i := 2) rfl hb).cut0 hc)).2
 have ho3 := (hw3 _ _ ((S.bsI (i := 2) rfl hb).cut0 hc)).1
 refine mv1 rfl rfl ?_
 refine extr1 rfl rfl rfl ?_
 refine extr1 rfl rfl rfl ?_
 refine alc T28 S rfl ?_
 intro b3 w3 hb3 S B_
 refine stW rfl rfl T28 rfl rfl (one_cons rfl (one_cons rfl (one_cons rfl (one_cons rfl (one_cons rfl (one_cons rfl (one_cons rfl (one_cons rfl (one_cons rfl (one_cons rfl (one_cons rfl (one_cons rfl (one_cons rfl (one_cons rfl (one_cons rfl (one_cons rfl (one_cons rfl (one_cons rfl (one_cons rfl (one_cons rfl (one_cons rfl (one_cons rfl (one_cons rfl (one_cons rfl (one_cons rfl (one_cons rfl (one_cons rfl (one_cons rfl (one_cons rfl (one_cons rfl (one_cons rfl (one_cons rfl (one_cons rfl (one_cons rfl (one_cons rfl (one_cons rfl (one_cons rfl (one_cons rfl (one_cons rfl (one_cons rfl (one_cons rfl (one_cons (S.slI (i := 1) rfl).one (one_cons hd3.one one_nil))))))))))))))))))))))))))))))))))))))))))) S (i := 0) rfl rfl ?_
 intro w4 S
 refine asg1 rfl rfl ?_
 refine Ro.nil ?_
 refine Nrm.code ?_
 refine Run.seq ?_
 refine Run.region ?_
 refine mv1 rfl rfl ?_
 refine neq1 rfl rfl rfl ?_
 refine Ro.nil ?_
 refine Nrm.code ?_
 refine Run.cond rfl (fun hc2 => ?_) (fun hc2 => ?_)
 ·
  try simp only [Bool.or_eq_true, Bool.and_eq_true, Bool.or_eq_false_iff, Bool.and_eq_false_iff, decide_eq_true_eq, decide_eq_false_iff_not, Bool.not_eq_true', Bool.not_eq_false', Bool.not_eq_true, Bool.not_eq_false] at hc2
  refine Run.seq ?_
  refine Run.region ?_
  refine mv1 rfl rfl ?_
  refine asg1 rfl rfl ?_
  refine Ro.nil ?_
  refine Nrm.code ?_
  refine Run.ret ?_
  refine Rt.one rfl rfl ?_
  have he : hopE (bs.take n) = parE (bs.take n) := by unfold hopE; rw [if_pos hc2]
  exact ⟨by first | (rw [he]; done) | (rw [he]; rfl), by rw [show hopB (bs.take n) ++ bs.drop n = bs from by unfold hopB; rw [if_neg (by omega), List.take_append_drop]]; exact S.toTn (i := 3) rfl⟩
 ·
  try simp only [Bool.or_eq_true, Bool.and_eq_true, Bool.or_eq_false_iff, Bool.and_eq_false_iff, decide_eq_true_eq, decide_eq_false_iff_not, Bool.not_eq_true', Bool.not_eq_false', Bool.not_eq_true, Bool.not_eq_false] at hc2
  replace hc2 : parE (bs.take n) = 0 := by omega
  have hpf := par_facts hc2
  have heP : eP (cut v 0 n mx) = eP v := eP_cut0 hv (by intro e; rw [e] at hpf; simp at hpf)
  refine Run.skip ?_
  refine Nrm.code ?_
  refine Run.seq ?_
  refine Run.seq ?_
  refine Run.region ?_
  refine ld1 rfl T26 S (i := 2) rfl rfl rfl rfl rfl ?_
  refine ixa rfl rfl ((S.bsI (i := 3) rfl hb).cut0 hc).2 e26 rfl rfl rfl rfl (fun _ => by first | omega | (simp only [List.length_cons, List.length_nil]; omega)) ?_
  refine ldB rfl ((S.bsI (i := 3) rfl hb).cut0 hc) (St.refl [] _) T5 rfl rfl rfl (fun _ => by omega) ?_
  intro q19 hq19 hbq19
  try simp only [Int.toNat_natCast, Nat.mul_one, Int.reduceToNat] at hq19
  refine lss1 rfl rfl rfl ?_
  refine Ro.nil ?_
  refine Nrm.code ?_
  refine Run.cond rfl (fun hc4 => ?_) (fun hc4 => ?_)
  ·
   try simp only [Bool.or_eq_true, Bool.and_eq_true, Bool.or_eq_false_iff, Bool.and_eq_false_iff, decide_eq_true_eq, decide_eq_false_iff_not, Bool.not_eq_true', Bool.not_eq_false', Bool.not_eq_true, Bool.not_eq_false] at hc4
   refine Run.seq ?_
   refine Run.region ?_
   refine asg1 rfl rfl ?_
   refine Ro.nil ?_
   refine Nrm.code ?_
   refine Run.ret ?_
   refine Rt.one rfl rfl ?_
   have he : hopE (bs.take n) = 67 := by unfold hopE; rw [if_neg (by omega), if_pos (by omega)]
   exact ⟨by first | (rw [he]; done) | (rw [he]; rfl), by rw [show hopB (bs.take n) ++ bs.drop n = bs from by unfold hopB; rw [if_neg (by omega), List.take_append_drop]]; exact S.toTn (i := 3) rfl⟩
  ·
   try simp only [Bool.or_eq_true, Bool.and_eq_true, Bool.or_eq_false_iff, Bool.and_eq_false_iff, decide_eq_true_eq, decide_eq_false_iff_not, Bool.not_eq_true', Bool.not_eq_false', Bool.not_eq_true, Bool.not_eq_false] at hc4
   have hb8 : 2 ≤ (bs.take n).getD 8 0 := by omega
   refine Run.skip ?_
   refine Nrm.code ?_
   refine Run.seq ?_
   refine Run.region ?_
   refine mkf (vs := [_]) ⟨⟨_, _, rfl, rfl⟩, trivial⟩ rfl ?_
   refine asg1 rfl rfl ?_
   refine Ro.nil ?_
   refine Nrm.code ?_
   refine Run.seq ?_
   refine Run.region ?_
   refine mv1 rfl rfl ?_
   refine callC (vs := [_]) (caps := [_]) rfl ⟨⟨_, _, rfl, rfl⟩, trivial⟩ k108 rfl (c108 _ (bs.take n) 8 b1 _ (S.hold_at (i := 2) rfl) (S.bsV (i := 3) (j := 2) rfl rfl (by decide) hb hc) (by omega) (by omega)) ?_
   rintro _ w5 ⟨rfl, hT⟩
   have S := S.tn (i := 2) rfl rfl hT
   refine asg1 rfl rfl ?_
   refine Ro.nil ?_
   refine Nrm.code ?_
   refine Run.seq ?_
   refine Run.region ?_
   refine mv1 rfl rfl ?_
   have B8 := hB 8
   have B9 : 0 ≤ (bs.take n).getD (8 + 1) 0 ∧ (bs.take n).getD (8 + 1) 0 < 256 := hB 9
   have B10 := hB 10
   have B11 : 0 ≤ (bs.take n).getD (10 + 1) 0 ∧ (bs.take n).getD (10 + 1) 0 < 256 := hB 11
   refine callC (vs := [_]) (caps := [_]) rfl ⟨⟨_, _, rfl, rfl⟩, trivial⟩ k108 rfl (c108 _ (bs.take n) 10 b1 _ (S.hold_at (i := 2) rfl) (S.bsV (i := 3) (j := 2) rfl rfl (by decide) hb hc) (by omega) (by omega)) ?_
   rintro _ w6 ⟨rfl, hT⟩
   have S := S.tn (i := 2) rfl rfl hT
   refine mv1 rfl rfl ?_
   refine mv1 rfl rfl ?_
   refine sub1 rfl rfl rfl (w64 (by omega)) ?_
   refine calg (vs := [_, _, _]) rfl ⟨⟨_, _, rfl, rfl⟩, ⟨_, _, rfl, rfl⟩, ⟨_, _, rfl, rfl⟩, trivial⟩ k109 rfl (fun hG => c109 _ _ _ _ (by omega) (by omega) (by omega)) ?_
   intro w7 B_; have S := S.call B_
   refine mv1 rfl rfl ?_
   refine extr1 rfl rfl rfl ?_
   have hfb := foldS_bd (n := 65535 - ((bs.take n).getD 10 0 * 256 + (bs.take n).getD (10 + 1) 0) + 65535 - ((bs.take n).getD 8 0 * 256 + (bs.take n).getD (8 + 1) 0) + ((bs.take n).getD 8 0 * 256 + (bs.take n).getD (8 + 1) 0 - 256)) (by omega)
   refine extr1 rfl rfl rfl ?_
   refine asg1 rfl rfl ?_
   refine asg1 rfl rfl ?_
   refine Ro.nil ?_
   refine Nrm.code ?_
   refine Run.seq ?_
   refine Run.seq ?_
   refine Run.region ?_
   refine mv1 rfl rfl ?_
   refine neq1 rfl rfl rfl ?_
   refine Ro.nil ?_
   refine Nrm.code ?_
   refine Run.cond rfl (fun hc9 => ?_) (fun hc9 => ?_)
   ·
    try simp only [Bool.or_eq_true, Bool.and_eq_true, Bool.or_eq_false_iff, Bool.and_eq_false_iff, decide_eq_true_eq, decide_eq_false_iff_not, Bool.not_eq_true', Bool.not_eq_false', Bool.not_eq_true, Bool.not_eq_false] at hc9
    exfalso; omega
   ·
    try simp only [Bool.or_eq_true, Bool.and_eq_true, Bool.or_eq_false_iff, Bool.and_eq_false_iff, decide_eq_true_eq, decide_eq_false_iff_not, Bool.not_eq_true', Bool.not_eq_false', Bool.not_eq_true, Bool.not_eq_false] at hc9
    refine Run.skip ?_
    refine Nrm.code ?_
    refine Run.seq ?_
    refine Run.region ?_
    refine ld1 rfl T26 S (i := 2) rfl rfl rfl rfl rfl ?_
    refine ixa rfl rfl ((S.bsI (i := 3) rfl hb).cut0 hc).2 e26 rfl rfl rfl rfl (fun _ => by first | omega | (simp only [List.length_cons, List.length_nil]; omega)) ?_
    refine ldB rfl ((S.bsI (i := 3) rfl hb).cut0 hc) (St.refl [] _) T5 rfl rfl rfl (fun _ => by omega) ?_
    intro q38 hq38 hbq38
    try simp only [Int.toNat_natCast, Nat.mul_one, Int.reduceToNat] at hq38
    refine sub1 rfl rfl rfl (w8 (by omega)) ?_
    refine ixa rfl rfl ((S.bsI (i := 3) rfl hb).cut0 hc).2 e26 rfl rfl rfl rfl (fun _ => by first | omega | (simp only [List.length_cons, List.length_nil]; omega)) ?_
    refine stB (j := 8) (by rw [← heP]; rfl) rfl T5 S (i := 3) rfl (by (try simp only [List.length_set]); omega) rfl ?_
    intro w8 S
    subst hq38
    have hb8 : byt (bs.set 8 ((bs.take n).getD 8 0 - 1)) := byt_set hb _ (by omega)
    have hc8 : n ≤ (bs.set 8 ((bs.take n).getD 8 0 - 1)).length ∧ n ≤ mx ∧ mx ≤ capV v := by rw [List.length_set]; exact hc
    have hcutS := ((S.bsI (i := 3) (l := bs.set 8 ((bs.take n).getD 8 0 - 1)) rfl hb8).cut0 hc8)
    refine Ro.nil ?_
    refine Nrm.code ?_
    refine Run.seq ?_
    refine Run.heldB (by kernel_rfl) S [true, true, true, false] rfl rfl rfl ?_
    intro w9 BD S SC
    refine Hb.take (i := 0) SC (fun _ _ S B => S.call B) Pp.body rfl (by kernel_rfl) (by kernel_rfl) (by kernel_rfl) rfl rfl ?_
    refine qld1 rfl T26 (fun _ S => S) (i := 2) rfl rfl rfl rfl rfl ?_
    refine Hb.back ?_
    refine Hb.take (i := 1) SC (fun _ _ S B => S.call B) Pp.body rfl (by kernel_rfl) (by kernel_rfl) (by kernel_rfl) rfl rfl ?_
    refine qld1 rfl T26 (fun _ S => S) (i := 2) rfl rfl rfl rfl rfl ?_
    refine Hb.back ?_
    refine Hb.take (i := 2) SC (fun _ _ S B => S.call B) Pp.body rfl (by kernel_rfl) (by kernel_rfl) (by kernel_rfl) rfl rfl ?_
    refine qmv rfl rfl rfl rfl ?_
    refine Hb.back ?_
    refine Hb.take (i := 3) SC (fun _ _ S B => S.call B) Pp.body rfl (by kernel_rfl) (by kernel_rfl) (by kernel_rfl) rfl rfl ?_
    refine qshr rfl rfl rfl rfl rfl rfl (fun _ => by decide) (fun _ => sh8 _) ?_
    refine Hb.back ?_
    refine Hb.take (i := 4) SC (fun _ _ S B => S.call B) Pp.body rfl (by kernel_rfl) (by kernel_rfl) (by kernel_rfl) rfl rfl ?_
    refine qcvi rfl rfl rfl rfl Tryd.underlying3 Tryd.underlying5 (fun _ => w8of rfl (by omega)) ?_
    refine Hb.back ?_
    refine Hb.take (i := 5) SC (fun _ _ S B => S.call B) Pp.body rfl (by kernel_rfl) (by kernel_rfl) (by kernel_rfl) rfl rfl ?_
    refine qmv rfl rfl rfl rfl ?_
    refine Hb.back ?_
    refine Hb.take (i := 6) SC (fun _ _ S B => S.call B) Pp.body rfl (by kernel_rfl) (by kernel_rfl) (by kernel_rfl) rfl rfl ?_
    refine qcvi rfl rfl rfl rfl Tryd.underlying3 Tryd.underlying5 (fun _ => w8m _) ?_
    refine Hb.back ?_
    refine Hb.take (i := 7) SC (fun _ _ S B => S.call B) Pp.body rfl (by kernel_rfl) (by kernel_rfl) (by kernel_rfl) rfl rfl ?_
    refine qixa rfl rfl hcutS.2 e26 rfl rfl rfl rfl (fun _ => by rw [List.length_take, List.length_set]; omega) ?_
    refine Hb.back ?_
    refine Hb.one (i := 8) (by kernel_rfl) rfl rfl ?_
    intro w10 BD; have S := S.call BD
    refine stB (j := 10) (by rw [← heP]; rfl) rfl T5 S (i := 3) rfl (by (try simp only [List.length_set]); omega) rfl ?_
    intro w11 S
    have SC := S.pick [true, true, true, false] rfl
    refine Hb.on SC ?_
    refine Hb.take (i := 9) SC (fun _ _ S B => S.call B) Pp.body rfl (by kernel_rfl) (by kernel_rfl) (by kernel_rfl) rfl rfl ?_
    refine qixa rfl rfl hcutS.2 e26 rfl rfl rfl rfl (fun _ => by rw [List.length_take, List.length_set]; omega) ?_
    refine Hb.back ?_
    refine Hb.one (i := 10) (by kernel_rfl) rfl rfl ?_
    intro w12 BD; have S := S.call BD
    refine stB (j := 11) (by rw [← heP]; rfl) rfl T5 S (i := 3) rfl (by (try simp only [List.length_set]); omega) rfl ?_
    intro w13 S
    have SC := S.pick [true, true, true, false] rfl
    refine Hb.on SC ?_
    refine Hb.done (by kernel_rfl) ?_
    intro w14 BD; have S := S.call BD
    refine Nrm.code ?_
    refine Run.seq ?_
    refine Run.region ?_
    refine asg1 rfl rfl ?_
    refine Ro.nil ?_
    refine Nrm.code ?_
    refine Run.ret ?_
    refine Rt.one rfl rfl ?_
    have he : hopE (bs.take n) = 0 := by unfold hopE; rw [if_neg (by omega), if_neg (by omega)]
    have hrow := hop_row (bs := bs) (n := n) hc.1 (by omega) he (hop_fix hbt hc2 (by omega))
    exact ⟨by first | (rw [he]; done) | (rw [he]; rfl), by rw [← hrow]; exact S.toTn (i := 3) rfl⟩
end Go.Proofs.YtkahmepenjhcpaaDoor.W
/- Contracts: options laid apart. No statement of the seat is proved here. -/
namespace Go.Proofs.YtkahmepenjhcpaaDoor.W
open Go
set_option linter.unusedSimpArgs false
set_option linter.unusedVariables false
abbrev oM (o : Opt) : List Int := o.data ++ marks
theorem BSs.snoc' {N : List Nat} {w : World} {vs : List Value} {ls : List (List Int)} {q : Value} {l : List Int} (h : BSs N w vs ls) (h2 : BS N w q l) : BSs N w (vs ++ [q]) (ls ++ [l]) := BSs.snoc h h2
theorem BS.cutM {N : List Nat} {w : World} {q : Value} {l : List Int} (h : BS N w q (l ++ marks)) : BS N w (W.cut q 0 l.length (capV q)) l := by
  have h2 := h.cut0 (n := l.length) (mx := capV q) (by have := h.cap; rw [List.length_append] at *; omega)
  rwa [take_marks'] at h2
theorem sub_base {N1 : List Nat} {L : List Own} {N : List Nat} (h : idsL L = N1) : ∀ i ∈ N1, i ∈ idsL L ++ N := fun i hi => List.mem_append_left _ (by rw [h]; exact hi)
set_option maxHeartbeats 1000000 in
theorem c146 (v : Value) (os : List Opt) (w : World) (hO : OS [] w v os) (hl : os.length ≤ 1099511627776) (hdl : ∀ o ∈ os, o.data.length ≤ 1099511627776) :
  CallsV Tryd.prog 146 #[v] w (fun r w' => ∃ u vw, r = .tuple #[u, vw] ∧ Bl w w' ∧ ∀ N, (∀ i ∈ N, i < w.heap.size) → OS N w' u (os ++ [⟨99, []⟩]) ∧ SS N w' vw (os.map oM)) := by
 refine enter Tryd.func146 rfl Tryd.ntmps146 (l := [(0, [], _)]) rfl rfl ?_
 have S := St.refl [] w
 obtain ⟨ds, hOS, hOB⟩ := hO
 refine Run.seq ?_
 refine Run.region ?_
 refine asg1 rfl rfl ?_
 refine asg1 rfl rfl ?_
 refine Ro.nil ?_
 refine Nrm.code ?_
 refine Run.seq ?_
 refine Run.region ?_
 refine asg1 rfl rfl ?_
 have S := S.nilO
 refine Ro.nil ?_
 refine Nrm.code ?_
 refine Run.seq ?_
 refine Run.region ?_
 refine asg1 rfl rfl ?_
 have S := S.nilS
 refine Ro.nil ?_
 refine Nrm.code ?_
 refine Run.seq ?_
 refine Run.seq ?_
 refine Run.region ?_
 refine asg1 rfl rfl ?_
 refine Ro.nil ?_
 refine Nrm.code ?_
 refine Run.block ?_
 refine Run.loop6 (fun (i : Nat) (u : Value) (acc : List Opt) (vs : List Value) (vw : Value) (vws : List Value) w_ => i ≤ os.length ∧ vs.length = acc.length ∧ acc = os.take i ∧ vws.length = i ∧ (∀ N, (∀ j ∈ N, j < w.heap.size) → OSs (idsL [oS vw vws, oO u acc vs] ++ N) w_ vs acc ∧ BSs (idsL [oS vw vws, oO u acc vs] ++ N) w_ vws ((os.take i).map oM)) ∧ St [] w [oS vw vws, oO u acc vs] w_) (fun (i : Nat) (u : Value) (acc : List Opt) (vs : List Value) (vw : Value) (vws : List Value) => [(0, [], v), (4, [], u), (5, [], vw), (6, [], .int .i64 i)]) (fun (i : Nat) (u : Value) (acc : List Opt) (vs : List Value) (vw : Value) (vws : List Value) => os.length - i) (0) (_) ([]) ([]) (_) ([]) ⟨Nat.zero_le _, rfl, rfl, rfl, fun _ _ => ⟨trivial, trivial⟩, S⟩ ⟨rfl, rfl, rfl, rfl, trivial⟩ ?_
 rintro i u acc vs vw vws w1 ⟨hi, hvl, hacc, hvwl, hvs, S⟩
 have hal : acc.length = i := by rw [hacc, List.length_take]; omega
 refine Run.seq ?_
 refine Run.seq ?_
 refine Run.region ?_
 refine mv1 rfl rfl ?_
 refine mv1 rfl rfl ?_
 refine lenS rfl hOS Tryd.underlying25 rfl rfl rfl ?_
 refine lss1 rfl rfl rfl ?_
 refine Ro.nil ?_
 refine Nrm.code ?_
 refine Run.cond rfl (fun hc4 => ?_) (fun hc4 => ?_)
 ·
  try simp only [Bool.or_eq_true, Bool.and_eq_true, Bool.or_eq_false_iff, Bool.and_eq_false_iff, decide_eq_true_eq, decide_eq_false_iff_not, Bool.not_eq_true', Bool.not_eq_false', Bool.not_eq_true, Bool.not_eq_false] at hc4
  refine Run.skip ?_
  refine Nrm.code ?_
  refine Run.seq ?_
  refine Run.block ?_
  refine Run.seq ?_
  refine Run.region ?_
  obtain ⟨p1, hp1, hb1⟩ := hOB.at (i := i) (by omega)
  have hil : i < os.length := by omega
  refine mv1 rfl rfl ?_
  refine mv1 rfl rfl ?_
  refine ixa rfl rfl hOS e25 rfl rfl rfl rfl (fun _ => by first | omega | (simp only [List.length_cons, List.length_nil]; omega)) ?_
  refine flE rfl hOS fo93_1 rfl rfl rfl (fun _ => hOB.lt (by omega)) ?_
  refine ldE rfl hOS S T26 rfl rfl rfl (fun _ => hOB.k1 (by omega) hp1) ?_
  have S0 := S
  refine call (vs := [_]) ⟨⟨_, _, rfl, rfl⟩, trivial⟩ k145 rfl (c145 _ _ _ (hb1.now S) (by have := hdl _ (getD_mem' (d := o0) (show i < os.length by omega)); omega)) ?_
  rintro q w2 hF
  have hqby : byt (oM (os.getD i o0)) := byt_app hb1.1 marks_byt
  have S := S.call hF.1
  have hq := hF.bs hqby S0.lt
  have hqN : ∀ N, (∀ j ∈ N, j < w.heap.size) → BS (idsL [oS vw vws, oO u acc vs] ++ N) w2 q (oM (os.getD i o0)) := fun N hN => hF.bs hqby (below_app S0 hN)
  have hvs := fun N hN => And.intro ((hvs N hN).1.bl hF.1) (BSs.bl hF.1 (hvs N hN).2)
  obtain ⟨N1, hN1, S_1⟩ := S.reb
  have hOS := hOS.st S; rw [hN1] at hOS
  have hOB := hOB.st S; rw [hN1] at hOB
  rw [hN1] at hq
  have SS := S
  have SL := S
  have S := S_1
  have hqc := hq.cutM
  refine asg1 rfl rfl ?_
  refine Ro.nil ?_
  refine Nrm.code ?_
  refine Run.seq ?_
  refine Run.region ?_
  refine mv1 rfl rfl ?_
  refine mv1 rfl rfl ?_
  refine apSF rfl e102 (qs := [(_, _)]) ⟨⟨_, _, _, rfl, rfl, cells1 hq.one, rfl, List.cons_ne_nil _ _⟩, trivial⟩ rfl hq.one S (i := 0) rfl rfl rfl (fun t e => by cases e; rfl) (fun _ => rfl) (by first | omega | (simp only [List.length_nil, List.length_append, List.length_cons]; omega)) ?_
  intro u_ vw2 w3 S B_
  refine asg1 rfl rfl ?_
  refine Ro.nil ?_
  refine Nrm.code ?_
  refine Run.held (by kernel_rfl) S [true, false] rfl rfl rfl ?_
  intro w4 BD S SC
  refine Ho.take (i := 0) SC Pp.body rfl (by kernel_rfl) (by kernel_rfl) (by kernel_rfl) rfl rfl ?_
  refine qmv rfl rfl rfl rfl ?_
  refine Ho.back ?_
  refine Ho.take (i := 1) SC Pp.body rfl (by kernel_rfl) (by kernel_rfl) (by kernel_rfl) rfl rfl ?_
  refine qmv rfl rfl rfl rfl ?_
  refine Ho.back ?_
  refine Ho.take (i := 2) SC Pp.body rfl (by kernel_rfl) (by kernel_rfl) (by kernel_rfl) rfl rfl ?_
  refine qmv rfl rfl rfl rfl ?_
  refine Ho.back ?_
  refine Ho.take (i := 3) SC Pp.body rfl (by kernel_rfl) (by kernel_rfl) (by kernel_rfl) rfl rfl ?_
  refine qixa rfl rfl hOS e25 rfl rfl rfl rfl (fun _ => by first | omega | (simp only [List.length_cons, List.length_nil]; omega)) ?_
  refine Ho.back ?_
  refine Ho.take (i := 4) SC Pp.body rfl (by kernel_rfl) (by kernel_rfl) (by kernel_rfl) rfl rfl ?_
  refine qflE rfl hOS fo93_0 rfl rfl rfl (fun _ => hOB.lt (by omega)) ?_
  refine Ho.back ?_
  refine Ho.take (i := 5) SC Pp.body rfl (by kernel_rfl) (by kernel_rfl) (by kernel_rfl) rfl rfl ?_
  refine qldE rfl hOS (fun _ S => S) T3 rfl rfl rfl (fun _ => hOB.k0 (by omega) hp1) ?_
  refine Ho.back ?_
  refine Ho.take (i := 6) SC Pp.body rfl (by kernel_rfl) (by kernel_rfl) (by kernel_rfl) rfl rfl ?_
  refine qmv rfl rfl rfl rfl ?_
  refine Ho.back ?_
  refine Ho.take (i := 7) SC Pp.body rfl (by kernel_rfl) (by kernel_rfl) (by kernel_rfl) rfl rfl ?_
  refine qmv rfl rfl rfl rfl ?_
  refine Ho.back ?_
  refine Ho.take (i := 8) SC Pp.body rfl (by kernel_rfl) (by kernel_rfl) (by kernel_rfl) rfl rfl ?_
  refine qmv rfl rfl rfl rfl ?_
  refine Ho.back ?_
  refine Ho.take (i := 9) SC Pp.body rfl (by kernel_rfl) (by kernel_rfl) (by kernel_rfl) rfl rfl ?_
  refine qixa rfl rfl hOS e25 rfl rfl rfl rfl (fun _ => by first | omega | (simp only [List.length_cons, List.length_nil]; omega)) ?_
  refine Ho.back ?_
  refine Ho.take (i := 10) SC Pp.body rfl (by kernel_rfl) (by kernel_rfl) (by kernel_rfl) rfl rfl ?_
  refine qflE rfl hOS fo93_1 rfl rfl rfl (fun _ => hOB.lt (by omega)) ?_
  refine Ho.back ?_
  refine Ho.take (i := 11) SC Pp.body rfl (by kernel_rfl) (by kernel_rfl) (by kernel_rfl) rfl rfl ?_
  refine qldE rfl hOS (fun _ S => S) T26 rfl rfl rfl (fun _ => hOB.k1 (by omega) hp1) ?_
  refine Ho.back ?_
  refine Ho.take (i := 12) SC Pp.body rfl (by kernel_rfl) (by kernel_rfl) (by kernel_rfl) rfl rfl ?_
  refine qlenS rfl hb1.2 Tryd.underlying26 rfl rfl rfl ?_
  refine Ho.back ?_
  refine Ho.take (i := 13) SC Pp.body rfl (by kernel_rfl) (by kernel_rfl) (by kernel_rfl) rfl rfl ?_
  refine qslC (lo := 0) (hi := (os.getD i o0).data.length) (mx := capV q) rfl hq e26 rfl rfl rfl (i1 := none) (i2 := some ((os.getD i o0).data.length)) (i3 := none) trivial ⟨_, _, _, rfl, rfl⟩ trivial rfl rfl rfl (fun h => by first | rfl | cases h) (fun _ => by have := hq.cap; rw [List.length_append] at *; omega) ?_
  refine Ho.back ?_
  refine Ho.take (i := 14) SC Pp.body rfl (by kernel_rfl) (by kernel_rfl) (by kernel_rfl) rfl rfl ?_
  refine qbld B93 (qs := [(_, _), (_, _)]) ⟨⟨_, _, _, rfl, rfl, rfl, rfl, by first | (simp [Value.cells]; done) | simp [Value.cells, encIP]⟩, ⟨_, _, _, rfl, rfl, cells1 hq.cutOne, rfl, List.cons_ne_nil _ _⟩, trivial⟩ rfl rfl rfl ?_
  refine Ho.back ?_
  refine Ho.one (i := 15) (by kernel_rfl) rfl rfl ?_
  refine bsl e25 (qs := [(_, _)]) ⟨⟨_, _, _, rfl, rfl, rfl, rfl, by first | (simp [Value.cells]; done) | simp [Value.cells, encIP]⟩, trivial⟩ rfl rfl rfl rfl S ?_
  intro u39 w5 S B_
  have SC := S.pick [false, true, false] rfl
  refine Ho.on SC ?_
  refine Ho.one (i := 16) (by kernel_rfl) rfl rfl ?_
  refine apO (i := 2) ((os.getD i o0).data) rfl rfl e25 (S.slI (i := 0) rfl) hqc.one hvl S rfl rfl (fun v' => rfl) (by omega) ?_
  intro u2 w6 S B_
  have SC := S.pick [false, true, false] rfl
  refine Ho.on SC ?_
  refine Ho.take (i := 17) SC Pp.body rfl (by kernel_rfl) (by kernel_rfl) (by kernel_rfl) rfl rfl ?_
  refine qasg rfl rfl rfl rfl ?_
  refine Ho.back ?_
  refine Ho.done (by kernel_rfl) ?_
  refine Nrm.blk ?_
  refine Nrm.code ?_
  refine Run.region ?_
  refine mv1 rfl rfl ?_
  refine add1 rfl rfl rfl (w64 (by omega)) ?_
  refine asg1 rfl rfl ?_
  refine Ro.nil ?_
  refine Nrm.loop6 (i + 1) (_) (_) (_) (_) (_) ⟨by omega, by simp [hvl], by rw [take_succ_getD (show i < os.length by omega) (d := o0), hacc], by simp [hvwl],
   fun N hN => ⟨((OSs.stN (sub_base hN1) S.drop0 (hvs N hN).1).snoc ((hqN N hN).cutM.stN (sub_base hN1) S.drop0)).weak mid_drop', by rw [take_succ_getD (show i < os.length by omega) (d := o0), List.map_append]; exact ((BSs.stN (sub_base hN1) S.drop0 (hvs N hN).2).snoc' ((hqN N hN).stN (sub_base hN1) S.drop0)).weak mid_drop'⟩, SL.tran hN1 S.drop0⟩ (by omega) ⟨rfl, rfl, rfl, rfl, trivial⟩
 ·
  try simp only [Bool.or_eq_true, Bool.and_eq_true, Bool.or_eq_false_iff, Bool.and_eq_false_iff, decide_eq_true_eq, decide_eq_false_iff_not, Bool.not_eq_true', Bool.not_eq_false', Bool.not_eq_true, Bool.not_eq_false] at hc4
  refine Run.exit ?_
  refine Lv.code ?_
  refine Lv.back ?_
  refine Lv.hit ?_
  refine Nrm.code ?_
  refine Run.seq ?_
  refine Run.region ?_
  have e : i = os.length := by omega
  subst e
  rw [List.take_length] at hacc
  rw [List.take_length] at hvs
  subst hacc
  obtain ⟨N2, hN2, S_2⟩ := S.reb
  have hOS := hOS.st S; rw [hN2] at hOS
  have hOB := hOB.st S; rw [hN2] at hOB
  have SS := S
  have S := S_2
  refine mv1 rfl rfl ?_
  refine bld B93 (qs := [(_, _)]) ⟨⟨_, _, _, rfl, rfl, rfl, rfl, by first | (simp [Value.cells]; done) | simp [Value.cells, encIP]⟩, trivial⟩ rfl rfl rfl ?_
  refine apOF (dt := []) rfl e25 (qs := [(_, _)]) ⟨⟨_, _, _, rfl, rfl, rfl, rfl, by first | (simp [Value.cells]; done) | simp [Value.cells, encIP]⟩, trivial⟩ rfl rfl hvl S (i := 1) rfl rfl rfl (fun t e => by cases e; rfl) (fun _ => rfl) (by first | omega | (simp only [List.length_nil, List.length_append, List.length_cons]; omega)) ?_
  intro u_ u9 w2 S B_
  refine asg1 rfl rfl ?_
  refine Ro.nil ?_
  refine Nrm.code ?_
  refine Run.seq ?_
  refine Run.region ?_
  refine mv1 rfl rfl ?_
  refine mv1 rfl rfl ?_
  refine asg1 rfl rfl ?_
  refine asg1 rfl rfl ?_
  refine Ro.nil ?_
  refine Nrm.code ?_
  refine Run.ret ?_
  refine Rt.two rfl rfl rfl ?_
  exact ⟨u9, vw, rfl, (SS.tran hN2 S).bl, fun N hN => ⟨⟨vs ++ [.slice none 0 0], Own.sl (S.hold_at (i := 1) rfl) N (fun j hj hn => by have h1 := (SS.tran hN2 S).fresh (i := 1) rfl j hj; have h2 := hN j hn; omega), OSs.snoc (o := ⟨99, []⟩) (BSs.weak (fun j hj => List.mem_append_right _ (List.mem_append_right _ hj)) (OSs.stN (sub_base hN2) S (hvs N hN).1)) (BS.nil _ _)⟩, ⟨vws, by rw [List.length_map, ← hvwl]; exact Own.sl (S.hold_at (i := 0) rfl) N (fun j hj hn => by have h1 := (SS.tran hN2 S).fresh (i := 0) rfl j hj; have h2 := hN j hn; omega), BSs.weak (fun j hj => List.mem_append_right _ (List.mem_append_right _ hj)) (BSs.stN (sub_base hN2) S (hvs N hN).2)⟩⟩⟩
set_option maxHeartbeats 1000000 in
theorem c149 (v vw u : Value) (ls : List Opt) (w : World) (hM : OS [] w v (ls ++ [⟨99, []⟩])) (hW : SS [] w vw (ls.map oM)) (hO : OS [] w u ls) (hl : ls.length ≤ 1099511627776) (hdl : ∀ o ∈ ls, o.data.length ≤ 1099511627776) :
  CallsD Tryd.prog 149 #[v, vw, u] w (.bool true) := by
 refine enter Tryd.func149 rfl Tryd.ntmps149 (l := [(0, [], _), (1, [], _), (2, [], _)]) rfl rfl ?_
 have S := St.refl [] w
 obtain ⟨ms, hMS, hMB⟩ := hM
 obtain ⟨ws, hWS, hWB⟩ := hW
 obtain ⟨ds, hOS, hOB⟩ := hO
 obtain ⟨pm, hpm, hbm⟩ := hMB.at (i := ls.length) (by simp)
 have hk : ((ls ++ [(⟨99, []⟩ : Opt)]).getD ls.length o0).kind = 99 := by simp [List.getD_eq_getElem?_getD]
 have hml : (ls ++ [(⟨99, []⟩ : Opt)]).length = ls.length + 1 := by simp
 have htk : (ls ++ [(⟨99, []⟩ : Opt)]).take ls.length = ls := by simp
 refine Run.seq ?_
 refine Run.region ?_
 refine asg1 rfl rfl ?_
 refine Ro.nil ?_
 refine Nrm.code ?_
 refine Run.seq ?_
 refine Run.region ?_
 refine mv1 rfl rfl ?_
 refine lenS rfl hOS Tryd.underlying25 rfl rfl rfl ?_
 refine asg1 rfl rfl ?_
 refine Ro.nil ?_
 refine Nrm.code ?_
 refine Run.seq ?_
 refine Run.seq ?_
 refine Run.region ?_
 refine mv1 rfl rfl ?_
 refine lenS rfl hMS Tryd.underlying25 rfl rfl rfl ?_
 refine mv1 rfl rfl ?_
 refine add1 rfl rfl rfl (w64 (by omega)) ?_
 refine neq1 rfl rfl rfl ?_
 refine mv1 rfl rfl ?_
 refine mv rfl rfl rfl rfl ?_
 refine mv rfl rfl rfl rfl ?_
 refine ixa rfl rfl hMS e25 rfl rfl rfl rfl (fun _ => by rw [hml]; omega) ?_
 refine flE rfl hMS fo93_0 rfl rfl rfl (fun hG => by first | exact hMB.lt (by simp) | (simp [allT] at hG; exact hMB.lt (by simp))) ?_
 refine ldE rfl hMS S T3 rfl rfl rfl (fun hG => by first | exact hMB.k0 (by simp) hpm | (simp [allT] at hG; exact hMB.k0 (by simp) hpm)) ?_
 refine neq rfl rfl rfl rfl rfl rfl ?_
 refine pkO rfl rfl rfl rfl rfl rfl ?_
 refine mv1 rfl rfl ?_
 refine mv rfl rfl rfl rfl ?_
 refine mv rfl rfl rfl rfl ?_
 refine slS (lo := 0) (hi := ls.length) (mx := capV v) rfl hMS e25 rfl rfl rfl (i1 := none) (i2 := some ls.length) (i3 := none) trivial ⟨_, _, _, rfl, rfl⟩ trivial rfl rfl rfl (fun h => by first | rfl | cases h) (fun _ => by have := hMS.cap; rw [List.length_append] at *; omega) ?_
 intro vc hvc
 refine mv rfl rfl rfl rfl ?_
 refine calg (vs := [_, _]) rfl ⟨⟨_, _, rfl, rfl⟩, ⟨_, _, rfl, rfl⟩, trivial⟩ k46 rfl (fun hG => by have h46 := c46 _ _ _ _ _ ((OS.take hMB hMB.len (by rw [hml]; omega) (hvc hG).1).now S) (OS.now ⟨ds, hOS, hOB⟩ S) (by rw [htk]; exact hl); rw [htk, sameOs_iff.2 rfl] at h46; exact h46) ?_
 intro w1 B_; have S := S.call B_
 refine nt rfl rfl rfl rfl ?_
 refine pkO rfl rfl rfl rfl rfl rfl ?_
 refine Ro.nil ?_
 refine Nrm.code ?_
 refine Run.cond rfl (fun hc2 => ?_) (fun hc2 => ?_)
 ·
  try simp only [Bool.or_eq_true, Bool.and_eq_true, Bool.or_eq_false_iff, Bool.and_eq_false_iff, decide_eq_true_eq, decide_eq_false_iff_not, Bool.not_eq_true', Bool.not_eq_false', Bool.not_eq_true, Bool.not_eq_false] at hc2
  exfalso; (rcases hc2 with (h | h) | h <;> first | (exact h (by rw [hml]; omega)) | (exact h hk) | (simp at h))
 ·
  try simp only [Bool.or_eq_true, Bool.and_eq_true, Bool.or_eq_false_iff, Bool.and_eq_false_iff, decide_eq_true_eq, decide_eq_false_iff_not, Bool.not_eq_true', Bool.not_eq_false', Bool.not_eq_true, Bool.not_eq_false] at hc2
  refine Run.skip ?_
  refine Nrm.code ?_
  refine Run.seq ?_
  refine Run.seq ?_
  refine Run.region ?_
  refine asg1 rfl rfl ?_
  refine Ro.nil ?_
  refine Nrm.code ?_
  refine Run.block ?_
  refine Run.loop1 (fun (i : Nat) w_ => i ≤ ls.length ∧ St [] w [] w_) (fun (i : Nat) => [(1, [], vw), (2, [], u), (7, [], .int .i64 ls.length), (8, [], .int .i64 i)]) (fun (i : Nat) => ls.length - i) (0) ⟨Nat.zero_le _, S⟩ ⟨rfl, rfl, rfl, rfl, trivial⟩ ?_
  rintro i w2 ⟨hi, S⟩
  refine Run.seq ?_
  refine Run.seq ?_
  refine Run.region ?_
  refine mv1 rfl rfl ?_
  refine mv1 rfl rfl ?_
  refine lss1 rfl rfl rfl ?_
  refine Ro.nil ?_
  refine Nrm.code ?_
  refine Run.cond rfl (fun hc5 => ?_) (fun hc5 => ?_)
  ·
   try simp only [Bool.or_eq_true, Bool.and_eq_true, Bool.or_eq_false_iff, Bool.and_eq_false_iff, decide_eq_true_eq, decide_eq_false_iff_not, Bool.not_eq_true', Bool.not_eq_false', Bool.not_eq_true, Bool.not_eq_false] at hc5
   refine Run.skip ?_
   refine Nrm.code ?_
   refine Run.seq ?_
   refine Run.block ?_
   refine Run.seq ?_
   refine Run.draw (by kernel_rfl) (by kernel_rfl) S ?_
   obtain ⟨pw, hpw, hbw⟩ := hWB.at (i := i) (by rw [List.length_map]; omega)
   obtain ⟨pl, hpl, hbl⟩ := hOB.at (i := i) (by omega)
   rw [show (ls.map oM).getD i [] = (ls.getD i o0).data ++ marks from by simp [List.getD_eq_getElem?_getD, List.getElem?_map, List.getElem?_eq_getElem (show i < ls.length by omega)]] at hbw
   refine qmv rfl rfl rfl rfl ?_
   refine qmv rfl rfl rfl rfl ?_
   refine qixa rfl rfl hWS e102 rfl rfl rfl rfl (fun _ => by rw [List.length_map]; omega) ?_
   refine qldE rfl hWS (fun _ S => S) T26 rfl rfl rfl (fun _ => by simpa using hpw) ?_
   refine qmv rfl rfl rfl rfl ?_
   refine qmv rfl rfl rfl rfl ?_
   refine qixa rfl rfl hOS e25 rfl rfl rfl rfl (fun _ => by first | omega | (simp only [List.length_cons, List.length_nil]; omega)) ?_
   refine qflE rfl hOS fo93_1 rfl rfl rfl (fun _ => hOB.lt (by omega)) ?_
   refine qldE rfl hOS (fun _ S => S) T26 rfl rfl rfl (fun _ => hOB.k1 (by omega) hpl) ?_
   refine qcal (vs := [_, _]) rfl ⟨⟨_, _, rfl, rfl⟩, ⟨_, _, rfl, rfl⟩, trivial⟩ k148 rfl (fun _ _ S B => S.call B) (fun hG w_ S => c148 _ _ _ _ _ (hbw.now S) (hbl.now S) (by have := hdl _ (getD_mem' (d := o0) (show i < ls.length by omega)); omega)) ?_
   refine qasg rfl rfl rfl rfl ?_
   refine Qo.nil (fun w3 S => ?_)
   refine Nrm.code ?_
   refine Run.seq ?_
   refine Run.region ?_
   refine mv1 rfl rfl ?_
   refine nt1 rfl rfl ?_
   refine Ro.nil ?_
   refine Nrm.code ?_
   refine Run.cond rfl (fun hc8 => ?_) (fun hc8 => ?_)
   ·
    try simp only [Bool.or_eq_true, Bool.and_eq_true, Bool.or_eq_false_iff, Bool.and_eq_false_iff, decide_eq_true_eq, decide_eq_false_iff_not, Bool.not_eq_true', Bool.not_eq_false', Bool.not_eq_true, Bool.not_eq_false] at hc8
    exfalso; simp at hc8
   ·
    try simp only [Bool.or_eq_true, Bool.and_eq_true, Bool.or_eq_false_iff, Bool.and_eq_false_iff, decide_eq_true_eq, decide_eq_false_iff_not, Bool.not_eq_true', Bool.not_eq_false', Bool.not_eq_true, Bool.not_eq_false] at hc8
    refine Run.skip ?_
    refine Nrm.blk ?_
    refine Nrm.code ?_
    refine Run.region ?_
    refine mv1 rfl rfl ?_
    refine add1 rfl rfl rfl (w64 (by omega)) ?_
    refine asg1 rfl rfl ?_
    refine Ro.nil ?_
    refine Nrm.loop1 (i + 1) ⟨by omega, S⟩ (by omega) ⟨rfl, rfl, rfl, rfl, trivial⟩
  ·
   try simp only [Bool.or_eq_true, Bool.and_eq_true, Bool.or_eq_false_iff, Bool.and_eq_false_iff, decide_eq_true_eq, decide_eq_false_iff_not, Bool.not_eq_true', Bool.not_eq_false', Bool.not_eq_true, Bool.not_eq_false] at hc5
   refine Run.exit ?_
   refine Lv.code ?_
   refine Lv.back ?_
   refine Lv.hit ?_
   refine Nrm.code ?_
   refine Run.seq ?_
   refine Run.region ?_
   refine asg1 rfl rfl ?_
   refine Ro.nil ?_
   refine Nrm.code ?_
   refine Run.ret ?_
   refine Rt.one rfl rfl ?_
   exact ⟨rfl, S.bl⟩
end Go.Proofs.YtkahmepenjhcpaaDoor.W
/- Contracts: the calls of layer 6 over bytes. No statement of the seat is proved here. -/
namespace Go.Proofs.YtkahmepenjhcpaaDoor.W
open Go
set_option linter.unusedSimpArgs false
set_option linter.unusedVariables false
theorem GV.stI {N0 : List Nat} {w0 w : World} {L : List Own} {o : Own} {i g : Nat} {T : TypeId} {c : List Value} (h : GV N0 w0 g T c) (S : St N0 w0 L w) (hk : getN L i = some o) : GV o.ids w g T c := Rd.weak (h.st S) (ids_sub hk)
theorem sameB_refl (x : IP) : sameB x x = true := sameB_iff.2 ⟨rfl, fun _ _ => rfl⟩
theorem sameOs_refl (l : List Opt) : sameOs l l = true := sameOs_iff.2 rfl
theorem sameH_refl (h : Ip4) : sameH h h = true := by simp [sameH, diffH, sameB_refl, sameOs_refl]
theorem hopE_zero {b : List Int} (h : hopE b = 0) : parE b = 0 ∧ 2 ≤ b.getD 8 0 := by
  unfold hopE at h
  by_cases h1 : parE b ≠ 0
  · rw [if_pos h1] at h; omega
  rw [if_neg h1] at h
  by_cases h2 : b.getD 8 0 < 2
  · rw [if_pos h2] at h; omega
  exact ⟨by omega, by omega⟩
theorem hopE_bd (b : List Int) : 0 ≤ hopE b ∧ hopE b ≤ 67 := by
  have := parE_bd b
  unfold hopE; (repeat' split) <;> omega
theorem hopB_byt {b : List Int} (h : byt b) : byt (hopB b) := by
  unfold hopB
  split
  · rename_i he
    have h2 := hopM_byt h (hopE_zero he).2
    have h3 := hopC_bd h2
    exact byt_set (byt_set h2 _ (by omega)) _ (by omega)
  · exact h
theorem hopB_len (b : List Int) : (hopB b).length = b.length := by
  unfold hopB; split
  · simp [hopW, hopM]
  · rfl
theorem c40w (v : Value) (b : List Int) (w : World) (hv : (oB v (b ++ marks)).holds w) (hb : byt b) (hl : b.length ≤ 1099511627000) (hg : GV (oB v (b ++ marks)).ids w 0 130 (W4.map i64)) :
  CallsV Tryd.prog 40 #[cut v 0 b.length (capV v)] w (fun r w' => r = .int .i64 (hopE b) ∧ Tn w w' (oB v (b ++ marks)) (oB v (hopB b ++ marks))) := by
 have hc := own_cap hv
 have h1 := c40 v (b ++ marks) b.length (capV v) w hv (byt_app hb marks_byt) ⟨by simp, by simp at hc; omega, Nat.le_refl _⟩ (by simp; omega) hg
 rw [take_marks', List.drop_left] at h1
 exact h1
structure Op6 where
  kind : Int
  b : List Int
  h : Ip4
  l : List Opt
def encOp6 (p : Op6) (vB o d vL : Value) : List Value := [i64 p.kind, vB] ++ (encIp4 p.h o d ++ [vL])
set_option maxHeartbeats 1000000 in
theorem c107 (p : Op6) (vB o d vL : Value) (w : World) (hB : BS [] w vB p.b) (hl : p.b.length ≤ 1099511627000) (hg : GV [] w 0 130 (W4.map i64)) :
  CallsD Tryd.prog 107 #[.agg (encOp6 p vB o d vL).toArray] w (.bool true) := by
 refine enter Tryd.func107 rfl Tryd.ntmps107 (l := [(0, [], _)]) rfl rfl ?_
 have S := St.refl [] w
 have hpk := parH_ok hB.1
 have hpe := parE_bd p.b
 have hoe := optE_le p.b
 have hhe := hopE_bd p.b
 refine Run.seq ?_
 refine Run.region ?_
 refine boxA rfl S rfl ?_
 intro b1 w1 hb1 S B_
 refine asg1 rfl rfl ?_
 refine Ro.nil ?_
 refine Nrm.code ?_
 refine Run.seq ?_
 refine Run.region ?_
 refine fld (o' := 1) rfl fo144_1 rfl rfl rfl rfl ?_
 refine ld1 rfl T26 S (i := 0) rfl rfl rfl rfl rfl ?_
 refine call (vs := [_]) ⟨⟨_, _, rfl, rfl⟩, trivial⟩ k145 rfl (c145 _ _ _ (hB.now S) (by omega)) ?_
 rintro u3 w2 hF
 have S := S.fb hF
 have hby_u3 : byt (p.b ++ marks) := byt_app hB.1 marks_byt
 refine asg1 rfl rfl ?_
 refine Ro.nil ?_
 refine Nrm.code ?_
 refine Run.seq ?_
 refine Run.region ?_
 refine mv1 rfl rfl ?_
 refine fld (o' := 1) rfl fo144_1 rfl rfl rfl rfl ?_
 refine ld1 rfl T26 S (i := 1) rfl rfl rfl rfl rfl ?_
 refine lenS rfl hB.2 Tryd.underlying26 rfl rfl rfl ?_
 have hr3 := S.bsI (i := 0) rfl hby_u3
 refine slC (lo := 0) (hi := p.b.length) (mx := capV u3) rfl hr3 e26 rfl rfl rfl (i1 := none) (i2 := some p.b.length) (i3 := none) trivial ⟨_, _, _, rfl, rfl⟩ trivial rfl rfl rfl (fun h => by first | rfl | cases h) (fun _ => by have := hr3.cap; rw [List.length_append] at *; omega) ?_
 refine asg1 rfl rfl ?_
 refine Ro.nil ?_
 refine Nrm.code ?_
 refine Run.seq ?_
 refine Run.region ?_
 refine asg1 rfl rfl ?_
 refine Ro.nil ?_
 refine Nrm.code ?_
 refine Run.seq ?_
 refine Run.seq ?_
 refine Run.region ?_
 refine fld (o' := 0) rfl fo144_0 rfl rfl rfl rfl ?_
 refine ld1 rfl T3 S (i := 1) rfl rfl rfl rfl rfl ?_
 refine Ro.nil ?_
 refine Nrm.code ?_
 refine Run.block ?_
 refine Run.seq ?_
 refine Run.region ?_
 refine eql1 rfl rfl rfl ?_
 refine asg1 rfl rfl ?_
 refine Ro.nil ?_
 refine Nrm.code ?_
 refine Run.cond rfl (fun hc5 => ?_) (fun hc5 => ?_)
 ·
  try simp only [Bool.or_eq_true, Bool.and_eq_true, Bool.or_eq_false_iff, Bool.and_eq_false_iff, decide_eq_true_eq, decide_eq_false_iff_not, Bool.not_eq_true', Bool.not_eq_false', Bool.not_eq_true, Bool.not_eq_false] at hc5
  obtain ⟨hu3, S⟩ := S.layBI (i := 0) rfl rfl hby_u3
  obtain ⟨N1, hN1, S_1⟩ := S.reb
  have hB := hB.st S; rw [hN1] at hB
  have hg := hg.st S; rw [hN1] at hg
  rw [hN1] at hu3
  have SS := S
  have S := S_1
  have hc4 := hu3.cutM
  refine Run.seq ?_
  refine Run.region ?_
  refine mv1 rfl rfl ?_
  refine call (vs := [_]) ⟨⟨_, _, rfl, rfl⟩, trivial⟩ k33 rfl (c33 _ _ _ (hc4.now S) (hg.now S)) ?_
  rintro _ w3 ⟨o6, d6, vs6, rfl, hF, hw6⟩
  have S := S.fo hF
  have hd6 := (hw6 _ _ hc4).2
  have ho6 := (hw6 _ _ hc4).1
  refine mv1 rfl rfl ?_
  refine extr1 rfl rfl rfl ?_
  refine extr1 rfl rfl rfl ?_
  refine alc T28 S rfl ?_
  intro b6 w4 hb6 S B_
  refine stW rfl rfl T28 rfl rfl (one_cons rfl (one_cons rfl (one_cons rfl (one_cons rfl (one_cons rfl (one_cons rfl (one_cons rfl (one_cons rfl (one_cons rfl (one_cons rfl (one_cons rfl (one_cons rfl (one_cons rfl (one_cons rfl (one_cons rfl (one_cons rfl (one_cons rfl (one_cons rfl (one_cons rfl (one_cons rfl (one_cons rfl (one_cons rfl (one_cons rfl (one_cons rfl (one_cons rfl (one_cons rfl (one_cons rfl (one_cons rfl (one_cons rfl (one_cons rfl (one_cons rfl (one_cons rfl (one_cons rfl (one_cons rfl (one_cons rfl (one_cons rfl (one_cons rfl (one_cons rfl (one_cons rfl (one_cons rfl (one_cons rfl (one_cons (S.slI (i := 1) rfl).one (one_cons hd6.one one_nil))))))))))))))))))))))))))))))))))))))))))) S (i := 0) rfl rfl ?_
  intro w5 S
  refine asg1 rfl rfl ?_
  refine Ro.nil ?_
  refine Nrm.code ?_
  refine Run.seq ?_
  refine Run.region ?_
  refine fld (o' := 1) rfl fo144_1 rfl rfl rfl rfl ?_
  refine ld1 rfl T26 S (i := 2) rfl rfl rfl rfl rfl ?_
  have S0 := S
  refine call (vs := [_]) ⟨⟨_, _, rfl, rfl⟩, trivial⟩ k42 rfl (c42 _ _ _ (hB.now S)) ?_
  rintro _ w6 ⟨o8, d8, rfl, hFH⟩
  have S := S.call hFH.1
  have ho8 := (hFH.2 _ S0.lt).1
  have hd8 := (hFH.2 _ S0.lt).2
  obtain ⟨N2, hN2, S_2⟩ := S.reb
  have hB := hB.st S; rw [hN2] at hB
  have hg := hg.st S; rw [hN2] at hg
  have hu3 := hu3.st S; rw [hN2] at hu3
  have hc4 := hc4.st S; rw [hN2] at hc4
  have hd6 := hd6.st S; rw [hN2] at hd6
  have ho6 := ho6.st S; rw [hN2] at ho6
  rw [hN2] at ho8
  rw [hN2] at hd8
  have SS := SS.tran hN1 S
  have S := S_2
  refine mv1 rfl rfl ?_
  refine extr1 rfl rfl rfl ?_
  refine extr1 rfl rfl rfl ?_
  refine alc T28 S rfl ?_
  intro b8 w7 hb8 S B_
  refine stW rfl rfl T28 rfl rfl (one_cons rfl (one_cons rfl (one_cons rfl (one_cons rfl (one_cons rfl (one_cons rfl (one_cons rfl (one_cons rfl (one_cons rfl (one_cons rfl (one_cons rfl (one_cons rfl (one_cons rfl (one_cons rfl (one_cons rfl (one_cons rfl (one_cons rfl (one_cons rfl (one_cons rfl (one_cons rfl (one_cons rfl (one_cons rfl (one_cons rfl (one_cons rfl (one_cons rfl (one_cons rfl (one_cons rfl (one_cons rfl (one_cons rfl (one_cons rfl (one_cons rfl (one_cons rfl (one_cons rfl (one_cons rfl (one_cons rfl (one_cons rfl (one_cons rfl (one_cons rfl (one_cons rfl (one_cons rfl (one_cons rfl (one_cons ho8.one (one_cons hd8.one one_nil))))))))))))))))))))))))))))))))))))))))))) S (i := 0) rfl rfl ?_
  intro w8 S
  refine asg1 rfl rfl ?_
  refine Ro.nil ?_
  refine Nrm.code ?_
  refine Run.region ?_
  refine mv1 rfl rfl ?_
  refine calg (vs := [_]) rfl ⟨⟨_, _, rfl, rfl⟩, trivial⟩ k31 rfl (fun hG => c31 _ _ (by omega)) ?_
  intro w9 B_; have S := S.call B_
  refine mv1 rfl rfl ?_
  refine eql1 rfl rfl rfl ?_
  refine mv1 rfl rfl ?_
  refine ldW rfl T28 S (i := 1) rfl rfl rfl rfl rfl ?_
  refine ldW rfl T28 S (i := 0) rfl rfl rfl rfl rfl ?_
  refine calg (vs := [_, _]) rfl ⟨⟨_, _, rfl, rfl⟩, ⟨_, _, rfl, rfl⟩, trivial⟩ k34 rfl (fun hG => c34 _ _ _ _ _ _ _ (S.osI (i := 2) rfl (ho6.now S)) (hd6.now S) (ho8.now S) (hd8.now S) (by have := hpk.2.2.1; omega)) ?_
  intro w10 B_; have S := S.call B_
  refine pkA rfl rfl rfl rfl rfl rfl ?_
  refine asg1 rfl rfl ?_
  refine Ro.nil ?_
  refine Nrm.blk ?_
  refine Nrm.code ?_
  refine Run.seq ?_
  refine Run.region ?_
  refine mv1 rfl rfl ?_
  refine mv1 rfl rfl ?_
  refine mv rfl rfl rfl rfl ?_
  refine fld (o' := 1) rfl fo144_1 rfl rfl rfl rfl ?_
  refine ld1 rfl T26 S (i := 3) rfl rfl rfl rfl rfl ?_
  refine calg (vs := [_, _]) rfl ⟨⟨_, _, rfl, rfl⟩, ⟨_, _, rfl, rfl⟩, trivial⟩ k148 rfl (fun hG => c148 _ _ _ _ _ (hu3.now S) (hB.now S) (by omega)) ?_
  intro w11 B_; have S := S.call B_
  refine pkA rfl rfl rfl rfl rfl rfl ?_
  refine asg1 rfl rfl ?_
  refine Ro.nil ?_
  refine Nrm.code ?_
  refine Run.ret ?_
  refine Rt.one rfl rfl ?_
  exact ⟨by simp [sameH_refl, sameOs_refl], (SS.tran hN2 S).bl⟩
 ·
  try simp only [Bool.or_eq_true, Bool.and_eq_true, Bool.or_eq_false_iff, Bool.and_eq_false_iff, decide_eq_true_eq, decide_eq_false_iff_not, Bool.not_eq_true', Bool.not_eq_false', Bool.not_eq_true, Bool.not_eq_false] at hc5
  refine Run.seq ?_
  refine Run.region ?_
  refine eql1 rfl rfl rfl ?_
  refine asg1 rfl rfl ?_
  refine Ro.nil ?_
  refine Nrm.code ?_
  refine Run.cond rfl (fun hc9 => ?_) (fun hc9 => ?_)
  ·
   try simp only [Bool.or_eq_true, Bool.and_eq_true, Bool.or_eq_false_iff, Bool.and_eq_false_iff, decide_eq_true_eq, decide_eq_false_iff_not, Bool.not_eq_true', Bool.not_eq_false', Bool.not_eq_true, Bool.not_eq_false] at hc9
   obtain ⟨hu3, S⟩ := S.layBI (i := 0) rfl rfl hby_u3
   obtain ⟨N3, hN3, S_3⟩ := S.reb
   have hB := hB.st S; rw [hN3] at hB
   have hg := hg.st S; rw [hN3] at hg
   rw [hN3] at hu3
   have SS := S
   have S := S_3
   have hc4 := hu3.cutM
   refine Run.draw (by kernel_rfl) (by kernel_rfl) S ?_
   refine qmv rfl rfl rfl rfl ?_
   refine qcal (vs := [_]) rfl ⟨⟨_, _, rfl, rfl⟩, trivial⟩ k35 rfl (fun _ _ S B => S.call B) (fun hG w_ S => c35 _ _ _ (hc4.now S) (hg.now S)) ?_
   refine qfld (o' := 1) rfl fo144_1 rfl rfl rfl rfl ?_
   refine qld1 rfl T26 (fun _ S => S) (i := 0) rfl rfl rfl rfl rfl ?_
   refine qcal (vs := [_]) rfl ⟨⟨_, _, rfl, rfl⟩, trivial⟩ k43 rfl (fun _ _ S B => S.call B) (fun hG w_ S => c43 _ _ _ (hB.now S)) ?_
   refine qeqB rfl rfl Tryd.underlying4 rfl rfl rfl rfl ?_
   refine qasg rfl rfl rfl rfl ?_
   refine Qo.nil (fun w3 S => ?_)
   refine Nrm.blk ?_
   refine Nrm.code ?_
   refine Run.seq ?_
   refine Run.region ?_
   refine mv1 rfl rfl ?_
   refine mv1 rfl rfl ?_
   refine mv rfl rfl rfl rfl ?_
   refine fld (o' := 1) rfl fo144_1 rfl rfl rfl rfl ?_
   refine ld1 rfl T26 S (i := 0) rfl rfl rfl rfl rfl ?_
   refine calg (vs := [_, _]) rfl ⟨⟨_, _, rfl, rfl⟩, ⟨_, _, rfl, rfl⟩, trivial⟩ k148 rfl (fun hG => c148 _ _ _ _ _ (hu3.now S) (hB.now S) (by omega)) ?_
   intro w4 B_; have S := S.call B_
   refine pkA rfl rfl rfl rfl rfl rfl ?_
   refine asg1 rfl rfl ?_
   refine Ro.nil ?_
   refine Nrm.code ?_
   refine Run.ret ?_
   refine Rt.one rfl rfl ?_
   exact ⟨by simp [sameH_refl, sameOs_refl], (SS.tran hN3 S).bl⟩
  ·
   try simp only [Bool.or_eq_true, Bool.and_eq_true, Bool.or_eq_false_iff, Bool.and_eq_false_iff, decide_eq_true_eq, decide_eq_false_iff_not, Bool.not_eq_true', Bool.not_eq_false', Bool.not_eq_true, Bool.not_eq_false] at hc9
   refine Run.seq ?_
   refine Run.region ?_
   refine eql1 rfl rfl rfl ?_
   refine asg1 rfl rfl ?_
   refine Ro.nil ?_
   refine Nrm.code ?_
   refine Run.cond rfl (fun hc11 => ?_) (fun hc11 => ?_)
   ·
    try simp only [Bool.or_eq_true, Bool.and_eq_true, Bool.or_eq_false_iff, Bool.and_eq_false_iff, decide_eq_true_eq, decide_eq_false_iff_not, Bool.not_eq_true', Bool.not_eq_false', Bool.not_eq_true, Bool.not_eq_false] at hc11
    obtain ⟨hu3, S⟩ := S.layBI (i := 0) rfl rfl hby_u3
    obtain ⟨N4, hN4, S_4⟩ := S.reb
    have hB := hB.st S; rw [hN4] at hB
    have hg := hg.st S; rw [hN4] at hg
    rw [hN4] at hu3
    have SS := S
    have S := S_4
    have hc4 := hu3.cutM
    refine Run.seq ?_
    refine Run.region ?_
    refine mv1 rfl rfl ?_
    refine call (vs := [_]) ⟨⟨_, _, rfl, rfl⟩, trivial⟩ k44 rfl (c44 _ _ _ (hc4.now S)) ?_
    rintro _ w3 ⟨u10, vs, rfl, hF, hwin⟩
    have S := S.fo hF
    have ho10 := hwin _ _ hc4
    refine mv1 rfl rfl ?_
    refine extr1 rfl rfl rfl ?_
    refine extr1 rfl rfl rfl ?_
    refine asg1 rfl rfl ?_
    refine asg1 rfl rfl ?_
    refine Ro.nil ?_
    refine Nrm.code ?_
    refine Run.seq ?_
    refine Run.region ?_
    refine fld (o' := 1) rfl fo144_1 rfl rfl rfl rfl ?_
    refine ld1 rfl T26 S (i := 1) rfl rfl rfl rfl rfl ?_
    have S0 := S
    have SS0 := (SS.tran hN4 S)
    refine call (vs := [_]) ⟨⟨_, _, rfl, rfl⟩, trivial⟩ k45 rfl (c45 _ _ _ (hB.now S)) ?_
    rintro _ w4 ⟨o12, rfl, hFO⟩
    have S := S.call hFO.1
    have ho12 := hFO.2 _ S0.lt
    have ho12F := hFO.2 _ SS0.ltR
    obtain ⟨N5, hN5, S_5⟩ := S.reb
    have hB := hB.st S; rw [hN5] at hB
    have hg := hg.st S; rw [hN5] at hg
    have hu3 := hu3.st S; rw [hN5] at hu3
    have hc4 := hc4.st S; rw [hN5] at hc4
    have ho10 := ho10.st S; rw [hN5] at ho10
    rw [hN5] at ho12
    rw [hN5] at ho12F
    have SS := SS.tran hN4 S
    have S := S_5
    refine mv1 rfl rfl ?_
    refine extr1 rfl rfl rfl ?_
    refine extr1 rfl rfl rfl ?_
    refine asg1 rfl rfl ?_
    refine asg1 rfl rfl ?_
    refine Ro.nil ?_
    refine Nrm.code ?_
    refine Run.region ?_
    refine mv1 rfl rfl ?_
    refine calg (vs := [_]) rfl ⟨⟨_, _, rfl, rfl⟩, trivial⟩ k31 rfl (fun hG => c31 _ _ (by omega)) ?_
    intro w5 B_; have S := S.call B_
    refine mv1 rfl rfl ?_
    refine eql1 rfl rfl rfl ?_
    refine mv1 rfl rfl ?_
    refine mv rfl rfl rfl rfl ?_
    refine mv rfl rfl rfl rfl ?_
    refine calg (vs := [_, _]) rfl ⟨⟨_, _, rfl, rfl⟩, ⟨_, _, rfl, rfl⟩, trivial⟩ k46 rfl (fun hG => c46 _ _ _ _ _ (S.osI (i := 0) rfl (ho10.now S)) (ho12.now S) (by have := optL_len p.b; omega)) ?_
    intro w6 B_; have S := S.call B_
    refine pkA rfl rfl rfl rfl rfl rfl ?_
    refine asg1 rfl rfl ?_
    refine Ro.nil ?_
    refine Nrm.blk ?_
    refine Nrm.code ?_
    refine Run.seq ?_
    refine Run.region ?_
    refine mv1 rfl rfl ?_
    refine mv1 rfl rfl ?_
    refine mv rfl rfl rfl rfl ?_
    refine fld (o' := 1) rfl fo144_1 rfl rfl rfl rfl ?_
    refine ld1 rfl T26 S (i := 1) rfl rfl rfl rfl rfl ?_
    refine calg (vs := [_, _]) rfl ⟨⟨_, _, rfl, rfl⟩, ⟨_, _, rfl, rfl⟩, trivial⟩ k148 rfl (fun hG => c148 _ _ _ _ _ (hu3.now S) (hB.now S) (by omega)) ?_
    intro w7 B_; have S := S.call B_
    refine pkA rfl rfl rfl rfl rfl rfl ?_
    refine asg1 rfl rfl ?_
    refine Ro.nil ?_
    refine Nrm.code ?_
    refine Run.ret ?_
    refine Rt.one rfl rfl ?_
    exact ⟨by simp [sameH_refl, sameOs_refl], (SS.tran hN5 S).bl⟩
   ·
    try simp only [Bool.or_eq_true, Bool.and_eq_true, Bool.or_eq_false_iff, Bool.and_eq_false_iff, decide_eq_true_eq, decide_eq_false_iff_not, Bool.not_eq_true', Bool.not_eq_false', Bool.not_eq_true, Bool.not_eq_false] at hc11
    refine Run.seq ?_
    refine Run.region ?_
    refine eql1 rfl rfl rfl ?_
    refine asg1 rfl rfl ?_
    refine Ro.nil ?_
    refine Nrm.code ?_
    refine Run.cond rfl (fun hc15 => ?_) (fun hc15 => ?_)
    ·
     try simp only [Bool.or_eq_true, Bool.and_eq_true, Bool.or_eq_false_iff, Bool.and_eq_false_iff, decide_eq_true_eq, decide_eq_false_iff_not, Bool.not_eq_true', Bool.not_eq_false', Bool.not_eq_true, Bool.not_eq_false] at hc15
     refine Run.seq ?_
     refine Run.region ?_
     refine mv1 rfl rfl ?_
     refine call (vs := [_]) ⟨⟨_, _, rfl, rfl⟩, trivial⟩ k40 rfl (c40w _ _ _ (S.hold_at (i := 0) rfl) hB.1 (by omega) (hg.stI S (i := 0) rfl)) ?_
     rintro _ w3 ⟨rfl, hT⟩
     have S := S.tn (i := 0) rfl rfl hT
     refine asg1 rfl rfl ?_
     refine Ro.nil ?_
     refine Nrm.code ?_
     refine Run.seq ?_
     refine Run.region ?_
     refine fld (o' := 1) rfl fo144_1 rfl rfl rfl rfl ?_
     refine ld1 rfl T26 S (i := 1) rfl rfl rfl rfl rfl ?_
     refine call (vs := [_]) ⟨⟨_, _, rfl, rfl⟩, trivial⟩ k49 rfl (c49 _ _ _ (hB.now S) (by omega)) ?_
     rintro _ w4 ⟨u15, rfl, hF⟩
     have S := S.fb hF
     have hby_u15 := hopB_byt hB.1
     have hby_u3 := byt_app hby_u15 marks_byt
     refine mv1 rfl rfl ?_
     refine extr1 rfl rfl rfl ?_
     refine extr1 rfl rfl rfl ?_
     refine asg1 rfl rfl ?_
     refine asg1 rfl rfl ?_
     refine Ro.nil ?_
     refine Nrm.code ?_
     refine Run.seq ?_
     refine Run.region ?_
     refine mv1 rfl rfl ?_
     refine calg (vs := [_]) rfl ⟨⟨_, _, rfl, rfl⟩, trivial⟩ k31 rfl (fun hG => c31 _ _ (by omega)) ?_
     intro w5 B_; have S := S.call B_
     refine mv1 rfl rfl ?_
     refine eql1 rfl rfl rfl ?_
     refine mv1 rfl rfl ?_
     refine mv rfl rfl rfl rfl ?_
     refine mv rfl rfl rfl rfl ?_
     refine calg (vs := [_, _]) rfl ⟨⟨_, _, rfl, rfl⟩, ⟨_, _, rfl, rfl⟩, trivial⟩ k148 rfl (fun hG => c148 _ _ _ _ _ (S.bsI (i := 1) rfl hby_u3) (S.bsI (i := 0) rfl hby_u15) (by rw [hopB_len]; omega)) ?_
     intro w6 B_; have S := S.call B_
     refine pkA rfl rfl rfl rfl rfl rfl ?_
     refine asg1 rfl rfl ?_
     refine Ro.nil ?_
     refine Nrm.code ?_
     refine Run.ret ?_
     refine Rt.one rfl rfl ?_
     exact ⟨by simp [sameH_refl, sameOs_refl], S.bl⟩
    ·
     try simp only [Bool.or_eq_true, Bool.and_eq_true, Bool.or_eq_false_iff, Bool.and_eq_false_iff, decide_eq_true_eq, decide_eq_false_iff_not, Bool.not_eq_true', Bool.not_eq_false', Bool.not_eq_true, Bool.not_eq_false] at hc15
     obtain ⟨hu3, S⟩ := S.layBI (i := 0) rfl rfl hby_u3
     obtain ⟨N6, hN6, S_6⟩ := S.reb
     have hB := hB.st S; rw [hN6] at hB
     have hg := hg.st S; rw [hN6] at hg
     rw [hN6] at hu3
     have SS := S
     have S := S_6
     have hc4 := hu3.cutM
     refine Run.skip ?_
     refine Nrm.blk ?_
     refine Nrm.code ?_
     refine Run.seq ?_
     refine Run.region ?_
     refine mv1 rfl rfl ?_
     refine mv1 rfl rfl ?_
     refine mv rfl rfl rfl rfl ?_
     refine fld (o' := 1) rfl fo144_1 rfl rfl rfl rfl ?_
     refine ld1 rfl T26 S (i := 0) rfl rfl rfl rfl rfl ?_
     refine calg (vs := [_, _]) rfl ⟨⟨_, _, rfl, rfl⟩, ⟨_, _, rfl, rfl⟩, trivial⟩ k148 rfl (fun hG => c148 _ _ _ _ _ (hu3.now S) (hB.now S) (by omega)) ?_
     intro w3 B_; have S := S.call B_
     refine pkA rfl rfl rfl rfl rfl rfl ?_
     refine asg1 rfl rfl ?_
     refine Ro.nil ?_
     refine Nrm.code ?_
     refine Run.ret ?_
     refine Rt.one rfl rfl ?_
     exact ⟨by simp [sameH_refl, sameOs_refl], (SS.tran hN6 S).bl⟩
end Go.Proofs.YtkahmepenjhcpaaDoor.W
/- Plain facts: what a hop leaves. No statement of the seat is proved here. -/
namespace Go.Proofs.YtkahmepenjhcpaaDoor.W
open Go
set_option linter.unusedVariables false
set_option linter.unusedSimpArgs false
theorem getD_set_ne {l : List Int} {i j : Nat} {x : Int} (h : i ≠ j) : (l.set i x).getD j 0 = l.getD j 0 := by
  rw [List.getD_eq_getElem?_getD, List.getD_eq_getElem?_getD, List.getElem?_set_ne h]
end Go.Proofs.YtkahmepenjhcpaaDoor.W
/- Plain laws of layer 9: what is written is read again. No program walked here; no statement of the seat is proved here. -/
namespace Go.Proofs.YtkahmepenjhcpaaDoor.W
open Go
set_option linter.unusedVariables false
set_option linter.unusedSimpArgs false
def pw (s d : IP) (p : Int) (b : List Int) : Int := wsum true (pseL s d p b.length) + wsum true b
/-! ### UDP -/
/-! ### TCP -/
/-! ### read, then written -/
end Go.Proofs.YtkahmepenjhcpaaDoor.W
/- The walks of L4UdpBack and L4TcpBack. No statement of the seat is proved here. -/
namespace Go.Proofs.YtkahmepenjhcpaaDoor.W
open Go
set_option linter.unusedSimpArgs false
set_option linter.unusedVariables false
end Go.Proofs.YtkahmepenjhcpaaDoor.W
/- Plain laws of layer 9: what Clamp leaves. No program walked here; no statement of the seat is proved here. -/
namespace Go.Proofs.YtkahmepenjhcpaaDoor.W
open Go
set_option linter.unusedVariables false
set_option linter.unusedSimpArgs false
theorem cl_len {m f : Int} {o : Opt} : (clampO m f o).data.length = o.data.length ∧ (clampO m f o).kind = o.kind := by
  unfold clampO
  split
  · rename_i h
    have h2 := told_len (clB_parts h).1
    exact ⟨by simp only [List.length_cons, List.length_nil]; omega, rfl⟩
  · exact ⟨rfl, rfl⟩
theorem clM_of {m : Int} (h : 0 ≤ m) : clM m = m := by unfold clM; rw [if_neg (by omega)]
theorem clM_neg {m : Int} (h : m < 0) : clM m = 0 := by unfold clM; rw [if_pos h]
end Go.Proofs.YtkahmepenjhcpaaDoor.W
/- Contracts: segments cloned, each part one's own. No statement of the seat is proved here. -/
namespace Go.Proofs.YtkahmepenjhcpaaDoor.W
open Go
set_option linter.unusedSimpArgs false
set_option linter.unusedVariables false
theorem St.perms {N0 : List Nat} {w0 w : World} {L L' X : List Own} (S : St N0 w0 L w) (h : L.Perm (L' ++ X)) : St N0 w0 L' w :=
  S.perm (fun o ho => h.mem_iff.2 (List.mem_append_left _ ho)) (by
    have h1 := (h.flatMap_right Own.ids).nodup S.nodup
    rw [List.flatMap_append] at h1
    exact (List.nodup_append.1 h1).1)
theorem St.front {N0 : List Nat} {w0 w : World} {P A B : List Own} {x : Own} (S : St N0 w0 (P ++ (A ++ x :: B)) w) : St N0 w0 (x :: (P ++ (A ++ B))) w :=
  S.perms (X := []) (by rw [List.append_nil, ← List.append_assoc, ← List.append_assoc]; exact List.perm_middle)
theorem St.backR {N0 : List Nat} {w0 w : World} {P A B : List Own} {x : Own} (S : St N0 w0 (x :: (P ++ (A ++ B))) w) : St N0 w0 (P ++ (A ++ x :: B)) w :=
  S.perms (X := []) (by rw [List.append_nil, ← List.append_assoc, ← List.append_assoc]; exact List.perm_middle.symm)
/-- what a callee leaves as one's own -/
theorem St.join {N0 : List Nat} {w0 w w' : World} {L L' : List Own} (S : St N0 w0 L w) (S' : St [] w L' w') : St N0 w0 (L' ++ L) w' := by
  have S2 := S.call S'.bl
  have hf : ∀ j ∈ idsL L', w.heap.size ≤ j := fun j hj => by
    rcases Nat.lt_or_ge j w.heap.size with h | h
    · exact absurd hj (S'.off j h (by simp))
    · exact h
  refine ⟨S2.os, S2.tape, S2.output, S2.size, S2.keep, ?_, ?_, ?_⟩
  · intro i h1 h2 h3
    rw [idsL, List.flatMap_append] at h3
    rcases List.mem_append.1 h3 with h | h
    · have := hf i h; have := S.size; omega
    · exact S.off i h1 h2 h
  · intro o ho
    rcases List.mem_append.1 ho with h | h
    · exact S'.hold o h
    · exact S2.hold o h
  · rw [idsL, List.flatMap_append]
    refine List.nodup_append.2 ⟨S'.nodup, S.nodup, ?_⟩
    intro a ha b hb e
    subst e
    have h1 := hf a ha
    have h2 := S.lt a hb
    omega
theorem St.joinT {N0 : List Nat} {w0 w w' : World} {L A R : List Own} (S : St N0 w0 L w) (S' : St [] w (A ++ R) w') : St N0 w0 (A ++ (L ++ R)) w' :=
  (S.join S').perms (X := []) (by
    rw [List.append_nil, List.append_assoc]
    exact List.Perm.append_left A List.perm_append_comm)
/-- the options' bytes, each one's own -/
def rowsO (vs : List Value) (os : List Opt) : List Own := List.zipWith (fun v o => oB v o.data) vs os
theorem rowsO_snoc {vs : List Value} {os : List Opt} {q : Value} {o : Opt} (h : vs.length = os.length) : rowsO (vs ++ [q]) (os ++ [o]) = rowsO vs os ++ [oB q o.data] := by
  unfold rowsO; rw [List.zipWith_append h]; rfl
theorem St.snocO {N0 : List Nat} {w0 w : World} {vs : List Value} {os : List Opt} {q : Value} {o : Opt} {a b : Own} (S : St N0 w0 (a :: oB q o.data :: b :: rowsO vs os) w) (h : vs.length = os.length) : St N0 w0 (b :: rowsO (vs ++ [q]) (os ++ [o])) w := by
  rw [rowsO_snoc h]
  refine S.perms (X := [a]) ?_
  have h1 : (oB q o.data :: b :: rowsO vs os).Perm (b :: (rowsO vs os ++ [oB q o.data])) := (List.Perm.swap _ _ _).trans (List.Perm.cons _ (List.perm_append_comm (l₁ := [oB q o.data]) (l₂ := rowsO vs os)))
  exact (List.Perm.cons a h1).trans (List.perm_append_comm (l₁ := [a]) (l₂ := b :: (rowsO vs os ++ [oB q o.data])))
theorem rowsO_split {vs : List Value} {os done : List Opt} {i : Nat} {p : Value} (hp : vs[i]? = some p) (hi : i < os.length) : rowsO (vs.take i) done ++ rowsO (vs.drop i) (os.drop i) = rowsO (vs.take i) done ++ oB p (os.getD i o0).data :: rowsO (vs.drop (i + 1)) (os.drop (i + 1)) := by
  obtain ⟨h, e⟩ := List.getElem?_eq_some_iff.1 hp
  rw [List.drop_eq_getElem_cons h, List.drop_eq_getElem_cons hi, e]
  show _ = rowsO (vs.take i) done ++ oB p (os.getD i o0).data :: _
  rw [List.getD_eq_getElem?_getD, List.getElem?_eq_getElem hi]
  rfl
theorem rowsO_next {vs : List Value} {done : List Opt} {i : Nat} {p : Value} {o : Opt} {B : List Own} (hp : vs[i]? = some p) (hd : done.length = i) : rowsO (vs.take i) done ++ oB p o.data :: B = rowsO (vs.take (i + 1)) (done ++ [o]) ++ B := by
  obtain ⟨h, e⟩ := List.getElem?_eq_some_iff.1 hp
  rw [List.take_succ_eq_append_getElem h, e, rowsO_snoc (by rw [List.length_take]; omega), List.append_assoc]
  rfl
theorem optC_two {vs : List Value} {os : List Opt} {i : Nat} {p : Value} (h : vs.length = os.length) (hi : i < os.length) (hp : vs[i]? = some p) : (i : Int).toNat * 2 + 2 ≤ (optC os vs).length ∧ ((optC os vs).drop ((i : Int).toNat * 2)).take 2 = [i64 (os.getD i o0).kind, p] := by
  have h1 := optC_len h
  obtain ⟨h2, h3⟩ := optC_at hi hp
  rw [Int.toNat_natCast]
  refine ⟨by omega, ?_⟩
  have ha : i * 2 < (optC os vs).length := by omega
  have hb : i * 2 + 1 < (optC os vs).length := by omega
  rw [List.drop_eq_getElem_cons ha, List.drop_eq_getElem_cons hb]
  rw [List.getElem?_eq_getElem ha] at h2
  rw [List.getElem?_eq_getElem hb] at h3
  simp only [Option.some.injEq] at h2 h3
  rw [h2, h3]; rfl
theorem optC_kinds {f : Opt → Opt} (hk : ∀ o, (f o).kind = o.kind) : ∀ (os : List Opt) (vs : List Value), optC (os.map f) vs = optC os vs
  | [], vs => by cases vs <;> rfl
  | o :: os, [] => rfl
  | o :: os, v :: vs => by simp only [List.map_cons, optC, hk, optC_kinds hk os vs]
theorem rowsO_OSs {w0 w : World} {L : List Own} {N : List Nat} (S : St [] w0 L w) (hN : ∀ i ∈ N, i < w0.heap.size) : ∀ (vs : List Value) (os : List Opt), vs.length = os.length → (∀ o ∈ os, byt o.data) → (∀ r ∈ rowsO vs os, r ∈ L) → OSs N w vs os
  | [], [], _, _, _ => trivial
  | [], _ :: _, h, _, _ => by simp at h
  | _ :: _, [], h, _, _ => by simp at h
  | v :: vs, o :: os, h, hb, hm => by
    refine ⟨⟨hb o (by simp), Own.sl (T := 5) (S.hold _ (hm (oB v o.data) (by simp [rowsO]))) N (fun j hj hn => ?_)⟩, rowsO_OSs S hN vs os (by simpa using h) (fun p hp => hb p (by simp [hp])) (fun r hr => hm r (by simp only [rowsO, List.zipWith_cons_cons, List.mem_cons]; exact .inr hr))⟩
    have h2 := hN j hn
    exact S.off j h2 (by simp) (List.mem_flatMap.2 ⟨_, hm (oB v o.data) (by simp [rowsO]), hj⟩)
theorem pickB_nil (L : List Own) : pickB L [] = L := by cases L <;> rfl
theorem set_two {l : List Int} {x y : Int} (h : l.length = 2) : (l.set 0 x).set 1 y = [x, y] := by
  match l, h with
  | [a, b], _ => rfl
set_option maxHeartbeats 1000000 in
theorem c93R (v : Value) (os : List Opt) (w : World) (hO : OS [] w v os) (hl : os.length ≤ 1099511627776) (hdl : ∀ o ∈ os, o.data.length ≤ 140737488355328) :
  CallsV Tryd.prog 93 #[v] w (fun r w' => ∃ vs, vs.length = os.length ∧ St [] w (oO r os vs :: rowsO vs os) w') := by
 refine enter Tryd.func93 rfl Tryd.ntmps93 (l := [(0, [], _)]) rfl rfl ?_
 have S := St.refl [] w
 obtain ⟨ds, hOS, hOB⟩ := hO
 refine Run.seq ?_
 refine Run.region ?_
 refine asg1 rfl rfl ?_
 refine Ro.nil ?_
 refine Nrm.code ?_
 refine Run.seq ?_
 refine Run.region ?_
 refine asg1 rfl rfl ?_
 have S := S.nilO
 refine Ro.nil ?_
 refine Nrm.code ?_
 refine Run.seq ?_
 refine Run.seq ?_
 refine Run.region ?_
 refine asg1 rfl rfl ?_
 refine Ro.nil ?_
 refine Nrm.code ?_
 refine Run.block ?_
 refine Run.loop4 (fun (i : Nat) (u : Value) (acc : List Opt) (vs : List Value) w_ => i ≤ os.length ∧ vs.length = acc.length ∧ acc = os.take i ∧ St [] w (oO u acc vs :: rowsO vs acc) w_) (fun (i : Nat) (u : Value) (acc : List Opt) (vs : List Value) => [(0, [], v), (3, [], u), (4, [], .int .i64 i)]) (fun (i : Nat) (u : Value) (acc : List Opt) (vs : List Value) => os.length - i) (0) (_) ([]) ([]) ⟨Nat.zero_le _, rfl, rfl, S⟩ ⟨rfl, rfl, rfl, trivial⟩ ?_
 rintro i u acc vs w1 ⟨hi, hvl, hacc, S⟩
 have hal : acc.length = i := by rw [hacc, List.length_take]; omega
 refine Run.seq ?_
 refine Run.seq ?_
 refine Run.region ?_
 refine mv1 rfl rfl ?_
 refine mv1 rfl rfl ?_
 refine lenS rfl hOS Tryd.underlying25 rfl rfl rfl ?_
 refine lss1 rfl rfl rfl ?_
 refine Ro.nil ?_
 refine Nrm.code ?_
 refine Run.cond rfl (fun hc3 => ?_) (fun hc3 => ?_)
 ·
  try simp only [Bool.or_eq_true, Bool.and_eq_true, Bool.or_eq_false_iff, Bool.and_eq_false_iff, decide_eq_true_eq, decide_eq_false_iff_not, Bool.not_eq_true', Bool.not_eq_false', Bool.not_eq_true, Bool.not_eq_false] at hc3
  refine Run.skip ?_
  refine Nrm.code ?_
  refine Run.seq ?_
  refine Run.block ?_
  refine Run.held (by kernel_rfl) S [false] rfl rfl rfl ?_
  intro w2 BD S SC
  refine Ho.take (i := 0) SC Pp.body rfl (by kernel_rfl) (by kernel_rfl) (by kernel_rfl) rfl rfl ?_
  obtain ⟨p1, hp1, hb1⟩ := hOB.at (i := i) (by omega)
  refine qmv rfl rfl rfl rfl ?_
  refine Ho.back ?_
  refine Ho.take (i := 1) SC Pp.body rfl (by kernel_rfl) (by kernel_rfl) (by kernel_rfl) rfl rfl ?_
  refine qmv rfl rfl rfl rfl ?_
  refine Ho.back ?_
  refine Ho.take (i := 2) SC Pp.body rfl (by kernel_rfl) (by kernel_rfl) (by kernel_rfl) rfl rfl ?_
  refine qmv rfl rfl rfl rfl ?_
  refine Ho.back ?_
  refine Ho.take (i := 3) SC Pp.body rfl (by kernel_rfl) (by kernel_rfl) (by kernel_rfl) rfl rfl ?_
  refine qixa rfl rfl hOS e25 rfl rfl rfl rfl (fun _ => by first | omega | (simp only [List.length_cons, List.length_nil]; omega)) ?_
  refine Ho.back ?_
  refine Ho.take (i := 4) SC Pp.body rfl (by kernel_rfl) (by kernel_rfl) (by kernel_rfl) rfl rfl ?_
  refine qflE rfl hOS fo93_0 rfl rfl rfl (fun _ => hOB.lt (by omega)) ?_
  refine Ho.back ?_
  refine Ho.take (i := 5) SC Pp.body rfl (by kernel_rfl) (by kernel_rfl) (by kernel_rfl) rfl rfl ?_
  refine qldE rfl hOS (fun _ S => S) T3 rfl rfl rfl (fun _ => hOB.k0 (by omega) hp1) ?_
  refine Ho.back ?_
  refine Ho.take (i := 6) SC Pp.body rfl (by kernel_rfl) (by kernel_rfl) (by kernel_rfl) rfl rfl ?_
  refine qmv rfl rfl rfl rfl ?_
  refine Ho.back ?_
  refine Ho.take (i := 7) SC Pp.body rfl (by kernel_rfl) (by kernel_rfl) (by kernel_rfl) rfl rfl ?_
  refine qmv rfl rfl rfl rfl ?_
  refine Ho.back ?_
  refine Ho.take (i := 8) SC Pp.body rfl (by kernel_rfl) (by kernel_rfl) (by kernel_rfl) rfl rfl ?_
  refine qixa rfl rfl hOS e25 rfl rfl rfl rfl (fun _ => by first | omega | (simp only [List.length_cons, List.length_nil]; omega)) ?_
  refine Ho.back ?_
  refine Ho.take (i := 9) SC Pp.body rfl (by kernel_rfl) (by kernel_rfl) (by kernel_rfl) rfl rfl ?_
  refine qflE rfl hOS fo93_1 rfl rfl rfl (fun _ => hOB.lt (by omega)) ?_
  refine Ho.back ?_
  refine Ho.take (i := 10) SC Pp.body rfl (by kernel_rfl) (by kernel_rfl) (by kernel_rfl) rfl rfl ?_
  refine qldE rfl hOS (fun _ S => S) T26 rfl rfl rfl (fun _ => hOB.k1 (by omega) hp1) ?_
  refine Ho.back ?_
  refine Ho.one (i := 11) (by kernel_rfl) rfl rfl ?_
  refine call (vs := [_]) ⟨⟨_, _, rfl, rfl⟩, trivial⟩ k39 rfl (c39 _ _ _ (hb1.now S) (by have := hdl _ (getD_mem' (d := o0) (show i < os.length by omega)); omega)) ?_
  rintro q w3 hF
  have S := S.fb hF
  have SC := S.pick [false, false] rfl
  refine Ho.on SC ?_
  refine Ho.take (i := 12) SC Pp.body rfl (by kernel_rfl) (by kernel_rfl) (by kernel_rfl) rfl rfl ?_
  refine qbld B93 (qs := [(_, _), (_, _)]) ⟨⟨_, _, _, rfl, rfl, rfl, rfl, by first | (simp [Value.cells]; done) | simp [Value.cells, encIP]⟩, ⟨_, _, _, rfl, rfl, cells1 (S.slI (i := 0) rfl).one, rfl, List.cons_ne_nil _ _⟩, trivial⟩ rfl rfl rfl ?_
  refine Ho.back ?_
  refine Ho.one (i := 13) (by kernel_rfl) rfl rfl ?_
  refine bsl e25 (qs := [(_, _)]) ⟨⟨_, _, _, rfl, rfl, rfl, rfl, by first | (simp [Value.cells]; done) | simp [Value.cells, encIP]⟩, trivial⟩ rfl rfl rfl rfl S ?_
  intro u24 w4 S B_
  have SC := S.pick [false, false, false] rfl
  refine Ho.on SC ?_
  refine Ho.one (i := 14) (by kernel_rfl) rfl rfl ?_
  refine apO (i := 2) ((os.getD i o0).data) rfl rfl e25 (S.slI (i := 0) rfl) (S.slI (i := 1) rfl).one hvl S rfl rfl (fun v' => rfl) (by omega) ?_
  intro u2 w5 S B_
  have SC := S.pick [false, false, false] rfl
  refine Ho.on SC ?_
  refine Ho.take (i := 15) SC Pp.body rfl (by kernel_rfl) (by kernel_rfl) (by kernel_rfl) rfl rfl ?_
  refine qasg rfl rfl rfl rfl ?_
  refine Ho.back ?_
  refine Ho.done (by kernel_rfl) ?_
  refine Nrm.blk ?_
  refine Nrm.code ?_
  refine Run.region ?_
  refine mv1 rfl rfl ?_
  refine add1 rfl rfl rfl (w64 (by omega)) ?_
  refine asg1 rfl rfl ?_
  refine Ro.nil ?_
  refine Nrm.loop4 (i + 1) (_) (_) (_) ⟨by omega, by simp [hvl], by rw [take_succ_getD (show i < os.length by omega) (d := o0), hacc], S.snocO (o := os.getD i o0) hvl⟩ (by omega) ⟨rfl, rfl, rfl, trivial⟩
 ·
  try simp only [Bool.or_eq_true, Bool.and_eq_true, Bool.or_eq_false_iff, Bool.and_eq_false_iff, decide_eq_true_eq, decide_eq_false_iff_not, Bool.not_eq_true', Bool.not_eq_false', Bool.not_eq_true, Bool.not_eq_false] at hc3
  refine Run.exit ?_
  refine Lv.code ?_
  refine Lv.back ?_
  refine Lv.hit ?_
  refine Nrm.code ?_
  refine Run.seq ?_
  refine Run.region ?_
  refine mv1 rfl rfl ?_
  refine asg1 rfl rfl ?_
  refine Ro.nil ?_
  refine Nrm.code ?_
  refine Run.ret ?_
  refine Rt.one rfl rfl ?_
  have e : i = os.length := by omega
  rw [e, List.take_length] at hacc
  subst hacc
  exact ⟨vs, hvl, S⟩
set_option maxHeartbeats 1000000 in
theorem c72R (t : Tcp) (o d : Value) (w : World) (hO : OS [] w o t.opts) (hd : BS [] w d t.data) (hol : t.opts.length ≤ 1099511627776) (hoo : ∀ p ∈ t.opts, p.data.length ≤ 1099511627776) (hdl : t.data.length ≤ 1099511627776) :
  CallsV Tryd.prog 72 #[.agg (encTcp t o d).toArray] w (fun r w' => ∃ o' d' vs, r = .agg (encTcp t o' d').toArray ∧ vs.length = t.opts.length ∧ St [] w (oO o' t.opts vs :: oB d' t.data :: rowsO vs t.opts) w') := by
 refine enter Tryd.func72 rfl Tryd.ntmps72 (l := [(0, [], _)]) rfl rfl ?_
 have S := St.refl [] w
 have hdo : ∀ o ∈ t.opts, o.data.length ≤ 140737488355328 := fun p hp => by have := hoo p hp; omega
 refine Run.seq ?_
 refine Run.region ?_
 refine boxA rfl S rfl ?_
 intro b1 w1 hb1 S B_
 refine alc T82 S rfl ?_
 intro b2 w2 hb2 S B_
 refine Ro.nil ?_
 refine Nrm.code ?_
 refine Run.seq ?_
 refine Run.region ?_
 refine fld (o' := 7) rfl fo82_7 rfl rfl rfl rfl ?_
 refine ld1 rfl T25 S (i := 1) rfl rfl rfl rfl rfl ?_
 refine call (vs := [_]) ⟨⟨_, _, rfl, rfl⟩, trivial⟩ k93 rfl (c93R _ _ _ (hO.now S) hol hdo) ?_
 rintro q w3 ⟨vs, hvl, SR⟩
 have S := S.joinT (A := [oO q t.opts vs]) SR
 have S : St [] w (oO q t.opts vs :: .var b2 82 [.int .i64 0, .int .i64 0, .int .i64 0, .int .i64 0, .int .i64 0, .int .i64 0, .int .i64 0, .slice none 0 0, .slice none 0 0] :: .var b1 82 (encTcp t o d) :: rowsO vs t.opts) w3 := S
 refine fld (o' := 7) rfl fo82_7 rfl rfl rfl rfl ?_
 refine st1 rfl rfl T25 (S.slI (i := 0) rfl).one S (i := 2) rfl rfl rfl ?_
 intro w4 S
 refine Ro.nil ?_
 refine Nrm.code ?_
 refine Run.seq ?_
 refine Run.region ?_
 refine fld (o' := 8) rfl fo82_8 rfl rfl rfl rfl ?_
 refine ld1 rfl T26 S (i := 2) rfl rfl rfl rfl rfl ?_
 refine call (vs := [_]) ⟨⟨_, _, rfl, rfl⟩, trivial⟩ k39 rfl (c39 _ _ _ (hd.now S) (by omega)) ?_
 rintro r w5 hF
 have S := S.fb hF
 refine fld (o' := 8) rfl fo82_8 rfl rfl rfl rfl ?_
 refine st1 rfl rfl T26 (S.slI (i := 0) rfl).one S (i := 3) rfl rfl rfl ?_
 intro w6 S
 refine Ro.nil ?_
 refine Nrm.code ?_
 refine Run.seq ?_
 refine Run.region ?_
 refine ldW rfl T82 S (i := 3) rfl rfl rfl rfl rfl ?_
 refine stW rfl rfl T82 rfl rfl (one_cons rfl (one_cons rfl (one_cons rfl (one_cons rfl (one_cons rfl (one_cons rfl (one_cons rfl (one_cons (S.slI (i := 1) rfl).one (one_cons (S.slI (i := 0) rfl).one one_nil))))))))) S (i := 2) rfl rfl ?_
 intro w7 S
 refine Ro.nil ?_
 refine Nrm.code ?_
 refine Run.ret ?_
 refine Rt.cell1 rfl rfl T82 S (i := 2) rfl rfl ?_
 have S2 : St [] w (oB r t.data :: oO q t.opts vs :: rowsO vs t.opts) w7 := S.pick [true, true, false, false] (by show _ :: _ :: pickB (rowsO vs t.opts) [] = _; rw [pickB_nil])
 exact ⟨q, r, vs, rfl, hvl, S2.perms (X := []) (by rw [List.append_nil]; exact List.Perm.swap _ _ _)⟩
end Go.Proofs.YtkahmepenjhcpaaDoor.W
/- Contracts: the reference bounds what a segment may hold. No statement of the seat is proved here. -/
namespace Go.Proofs.YtkahmepenjhcpaaDoor.W
open Go
set_option linter.unusedSimpArgs false
set_option linter.unusedVariables false
theorem clB_ref {m f : Int} {o : Opt} : ((toldB o && decide (synN f ≠ 0)) && decide (m < wd2 o.data 0)) = clB m f o := by
  unfold clB toldN
  cases toldB o with
  | true => simp [Bool.and_comm]
  | false => simp
theorem set_twoI {l : List Int} {x y : Int} (h : l.length = 2) : (l.set (Int.toNat 0) x).set (Int.toNat 1) y = [x, y] := set_two h
theorem drop_all {α : Type} {l : List α} {n : Nat} (h : l.length = n) : l.drop n = [] := List.drop_eq_nil_of_le (by omega)
theorem take_all {α : Type} {l : List α} {n : Nat} (h : l.length = n) : l.take n = l := List.take_of_length_le (by omega)
set_option maxHeartbeats 1000000 in
theorem c83 (t : Tcp) (m : Int) (o dv : Value) (w : World) (hO : OS [] w o t.opts) (hd : BS [] w dv t.data) (hol : t.opts.length ≤ 1099511627776) (hoo : ∀ p ∈ t.opts, p.data.length ≤ 1099511627776) (hdl : t.data.length ≤ 1099511627776) :
    CallsV Tryd.prog 83 #[.agg (encTcp t o dv).toArray, .int .i64 m] w (fun r w' => ∃ o' d', r = .agg (encTcp (clampT t m) o' d').toArray ∧ Bl w w' ∧ ∀ N, (∀ i ∈ N, i < w.heap.size) → OS N w' o' (clampT t m).opts ∧ BS N w' d' t.data) := by
  refine enter Tryd.func83 rfl Tryd.ntmps83 (l := [(0, [], _), (1, [], _)]) rfl rfl ?_
  have S := St.refl [] w
  have hcm := clM_bd m
  refine Run.seq ?_
  refine Run.region ?_
  refine boxA rfl S rfl ?_
  intro b2 w1 hb2 S B_
  refine alc T82 S rfl ?_
  intro b4 w2 hb4 S B_
  refine Ro.nil ?_
  refine Nrm.code ?_
  refine Run.seq ?_
  refine Run.region ?_
  refine ldW rfl T82 S (i := 1) rfl rfl rfl rfl rfl ?_
  refine call (vs := [_]) ⟨⟨_, _, rfl, rfl⟩, trivial⟩ k72 rfl (c72R _ _ _ _ (hO.now S) (hd.now S) hol hoo hdl) ?_
  rintro _ w3 ⟨o5, d5, vs, rfl, hvl, SR⟩
  have S := S.joinT (A := [oO o5 t.opts vs, oB d5 t.data]) SR
  have S : St [] w (oO o5 t.opts vs :: oB d5 t.data :: .var b4 82 [.int .i64 0, .int .i64 0, .int .i64 0, .int .i64 0, .int .i64 0, .int .i64 0, .int .i64 0, .slice none 0 0, .slice none 0 0] :: .var b2 82 (encTcp t o dv) :: rowsO vs t.opts) w3 := S
  refine alc T82 S rfl ?_
  intro b5 w4 hb5 S B_
  refine stW rfl rfl T82 rfl rfl (one_cons rfl (one_cons rfl (one_cons rfl (one_cons rfl (one_cons rfl (one_cons rfl (one_cons rfl (one_cons (S.slI (i := 1) rfl).one (one_cons (S.slI (i := 2) rfl).one one_nil))))))))) S (i := 0) rfl rfl ?_
  intro w5 S
  refine Ro.nil ?_
  refine Nrm.code ?_
  refine Run.cut (γ := Unit) (fun g w_ => St [] w (.var b5 82 (encTcp t o5 d5) :: oO o5 t.opts vs :: oB d5 t.data :: .var b4 82 [.int .i64 0, .int .i64 0, .int .i64 0, .int .i64 0, .int .i64 0, .int .i64 0, .int .i64 0, .slice none 0 0, .slice none 0 0] :: .var b2 82 (encTcp t o dv) :: rowsO vs t.opts) w_) (fun g => [(1, [], .int .i64 (clM m)), (2, [], .pointer (some ⟨b2, 0, none⟩)), (4, [], .pointer (some ⟨b4, 0, none⟩)), (5, [], .pointer (some ⟨b5, 0, none⟩))]) ?_ ?_
  ·
    refine Run.seq ?_
    refine Run.region ?_
    refine mv1 rfl rfl ?_
    refine lss1 rfl rfl rfl ?_
    refine Ro.nil ?_
    refine Nrm.code ?_
    refine Run.cond rfl (fun hc2 => ?_) (fun hc2 => ?_)
    ·
      try simp only [Bool.or_eq_true, Bool.and_eq_true, Bool.or_eq_false_iff, Bool.and_eq_false_iff, decide_eq_true_eq, decide_eq_false_iff_not, Bool.not_eq_true', Bool.not_eq_false', Bool.not_eq_true, Bool.not_eq_false] at hc2
      refine Run.region ?_
      refine asg1 rfl rfl ?_
      refine Ro.nil ?_
      exact Nrm.cut () S ⟨(by rw [clM_neg (by omega)]; rfl), rfl, rfl, rfl, trivial⟩
    ·
      try simp only [Bool.or_eq_true, Bool.and_eq_true, Bool.or_eq_false_iff, Bool.and_eq_false_iff, decide_eq_true_eq, decide_eq_false_iff_not, Bool.not_eq_true', Bool.not_eq_false', Bool.not_eq_true, Bool.not_eq_false] at hc2
      refine Run.skip ?_
      exact Nrm.cut () S ⟨(by rw [clM_of (by omega)]; rfl), rfl, rfl, rfl, trivial⟩
  ·
    rintro g4 w6 S
    refine Run.seq ?_
    refine Run.seq ?_
    refine Run.region ?_
    refine asg1 rfl rfl ?_
    refine Ro.nil ?_
    refine Nrm.code ?_
    refine Run.block ?_
    refine Run.loop1 (fun (i : Nat) w_ => i ≤ t.opts.length ∧ St [] w (.var b5 82 (encTcp t o5 d5) :: oO o5 t.opts vs :: oB d5 t.data :: .var b4 82 [.int .i64 0, .int .i64 0, .int .i64 0, .int .i64 0, .int .i64 0, .int .i64 0, .int .i64 0, .slice none 0 0, .slice none 0 0] :: .var b2 82 (encTcp t o dv) :: (rowsO (vs.take i) ((t.opts.take i).map (clampO (clM m) t.flags)) ++ rowsO (vs.drop i) (t.opts.drop i))) w_) (fun (i : Nat) => [(1, [], .int .i64 (clM m)), (2, [], .pointer (some ⟨b2, 0, none⟩)), (4, [], .pointer (some ⟨b4, 0, none⟩)), (5, [], .pointer (some ⟨b5, 0, none⟩)), (6, [], .int .i64 i)]) (fun (i : Nat) => t.opts.length - i) (0) ⟨Nat.zero_le _, S⟩ ⟨rfl, rfl, rfl, rfl, rfl, trivial⟩ ?_
    rintro i w7 ⟨hi, S⟩
    refine Run.seq ?_
    refine Run.seq ?_
    refine Run.region ?_
    refine mv1 rfl rfl ?_
    refine fld (o' := 7) rfl fo82_7 rfl rfl rfl rfl ?_
    refine ld1 rfl T25 S (i := 0) rfl rfl rfl rfl rfl ?_
    refine lenS rfl (S.slI (i := 1) rfl) Tryd.underlying25 rfl rfl rfl ?_
    refine lss1 rfl rfl rfl ?_
    refine Ro.nil ?_
    refine Nrm.code ?_
    refine Run.cond rfl (fun hc5 => ?_) (fun hc5 => ?_)
    ·
      try simp only [Bool.or_eq_true, Bool.and_eq_true, Bool.or_eq_false_iff, Bool.and_eq_false_iff, decide_eq_true_eq, decide_eq_false_iff_not, Bool.not_eq_true', Bool.not_eq_false', Bool.not_eq_true, Bool.not_eq_false] at hc5
      refine Run.skip ?_
      refine Nrm.code ?_
      refine Run.seq ?_
      refine Run.block ?_
      refine Run.seq ?_
      refine Run.region ?_
      obtain ⟨p1, hp1⟩ : ∃ p, vs[i]? = some p := ⟨vs[i]'(by omega), List.getElem?_eq_getElem (by omega)⟩
      have hbi : byt (t.opts.getD i o0).data := hO.byt _ (getD_mem' (d := o0) (show i < t.opts.length by omega))
      have hli := hoo _ (getD_mem' (d := o0) (show i < t.opts.length by omega))
      have S : St [] w (oB p1 (t.opts.getD i o0).data :: .var b5 82 (encTcp t o5 d5) :: oO o5 t.opts vs :: oB d5 t.data :: .var b4 82 [.int .i64 0, .int .i64 0, .int .i64 0, .int .i64 0, .int .i64 0, .int .i64 0, .int .i64 0, .slice none 0 0, .slice none 0 0] :: .var b2 82 (encTcp t o dv) :: (rowsO (vs.take i) ((t.opts.take i).map (clampO (clM m) t.flags)) ++ rowsO (vs.drop (i + 1)) (t.opts.drop (i + 1)))) w7 := St.front (P := [.var b5 82 (encTcp t o5 d5), oO o5 t.opts vs, oB d5 t.data, .var b4 82 [.int .i64 0, .int .i64 0, .int .i64 0, .int .i64 0, .int .i64 0, .int .i64 0, .int .i64 0, .slice none 0 0, .slice none 0 0], .var b2 82 (encTcp t o dv)]) (by have S2 := S; rw [rowsO_split hp1 (by omega)] at S2; exact S2)
      refine fld (o' := 7) rfl fo82_7 rfl rfl rfl rfl ?_
      refine ld1 rfl T25 S (i := 1) rfl rfl rfl rfl rfl ?_
      refine mv1 rfl rfl ?_
      refine ixa rfl rfl (S.slI (i := 2) rfl) e25 rfl rfl rfl rfl (fun _ => by first | omega | (simp only [List.length_cons, List.length_nil]; omega)) ?_
      refine ldEA rfl (S.slI (i := 2) rfl) (St.refl [] _) T93 rfl rfl rfl (by decide) rfl (fun _ => optC_two hvl (by omega) hp1) ?_
      refine calg (vs := [_]) rfl ⟨⟨_, _, rfl, rfl⟩, trivial⟩ k137 rfl (fun hG => c137 (t.opts.getD i o0) p1 _ (S.bsI (i := 0) rfl hbi)) ?_
      intro w8 B_; have S := S.call B_
      refine asg1 rfl rfl ?_
      refine Ro.nil ?_
      refine Nrm.code ?_
      refine Run.seq ?_
      refine Run.region ?_
      refine mv1 rfl rfl ?_
      refine mv1 rfl rfl ?_
      refine fld (o' := 4) rfl fo82_4 rfl rfl rfl rfl ?_
      refine ld1 rfl T3 S (i := 5) rfl rfl rfl rfl rfl ?_
      refine band rfl rfl rfl rfl rfl rfl (fun hG => by first | exact rfl | (simp [allT] at hG; exact rfl)) ?_
      refine neq rfl rfl rfl rfl rfl rfl ?_
      refine pkA rfl rfl rfl rfl rfl rfl ?_
      refine mv1 rfl rfl ?_
      refine fld (o' := 7) rfl fo82_7 rfl rfl rfl rfl ?_
      refine ld1 rfl T25 S (i := 1) rfl rfl rfl rfl rfl ?_
      refine mv rfl rfl rfl rfl ?_
      refine ixa rfl rfl (S.slI (i := 2) rfl) e25 rfl rfl rfl rfl (fun hG => by (try simp [allT] at hG); omega) ?_
      refine flE rfl (S.slI (i := 2) rfl) fo93_1 rfl rfl rfl (fun _ => by have h_ := optC_len hvl; simp only [Int.toNat_natCast]; omega) ?_
      refine ldE rfl (S.slI (i := 2) rfl) (St.refl [] _) T26 rfl rfl rfl (fun _ => (optC_at (by omega) hp1).2) ?_
      refine calg (vs := [_, _, _]) rfl ⟨⟨_, _, rfl, rfl⟩, ⟨_, _, rfl, rfl⟩, ⟨_, _, rfl, rfl⟩, trivial⟩ k131 rfl (fun hG => (by have hG1 : toldB (t.opts.getD i o0) = true := by {(simp [allT] at hG); exact hG.1}; have ht := told_len hG1; have := c131 _ (t.opts.getD i o0).data 0 2 _ (S.bsI (i := 0) rfl hbi) (by omega) (by decide) (by omega); rw [numN_2] at this; exact this)) ?_
      intro w9 B_; have S := S.call B_
      refine mv rfl rfl rfl rfl ?_
      refine gtr rfl rfl rfl rfl rfl rfl ?_
      refine pkA rfl rfl rfl rfl rfl rfl ?_
      refine Ro.nil ?_
      refine Nrm.code ?_
      refine Run.cond rfl (fun hc8 => ?_) (fun hc8 => ?_)
      ·
        refine Run.seq ?_
        refine Run.region ?_
        replace hc8 : clB (clM m) t.flags (t.opts.getD i o0) = true := by rw [← clB_ref]; exact hc8
        have hcl := clB_parts hc8
        have htb := told_bd hbi
        refine fld (o' := 7) rfl fo82_7 rfl rfl rfl rfl ?_
        refine ld1 rfl T25 S (i := 1) rfl rfl rfl rfl rfl ?_
        refine mv1 rfl rfl ?_
        refine ixa rfl rfl (S.slI (i := 2) rfl) e25 rfl rfl rfl rfl (fun _ => by first | omega | (simp only [List.length_cons, List.length_nil]; omega)) ?_
        refine flE rfl (S.slI (i := 2) rfl) fo93_1 rfl rfl rfl (fun _ => by have h_ := optC_len hvl; simp only [Int.toNat_natCast]; omega) ?_
        refine ldE rfl (S.slI (i := 2) rfl) (St.refl [] _) T26 rfl rfl rfl (fun _ => (optC_at (by omega) hp1).2) ?_
        refine mv1 rfl rfl ?_
        refine quo1 rfl rfl rfl (by decide) (q64 (by omega)) ?_
        refine cvi1 rfl rfl Tryd.underlying3 Tryd.underlying5 (w8of (y := clM m / 256) rfl (by omega)) ?_
        refine ixa rfl rfl (S.slI (i := 0) rfl) e26 rfl rfl rfl rfl (fun _ => by have ht := (told_len hcl.1).2; omega) ?_
        refine stB rfl rfl T5 S (i := 0) rfl (by have ht := (told_len hcl.1).2; omega) rfl ?_
        intro w10 S
        refine Ro.nil ?_
        refine Nrm.code ?_
        refine Run.region ?_
        refine fld (o' := 7) rfl fo82_7 rfl rfl rfl rfl ?_
        refine ld1 rfl T25 S (i := 1) rfl rfl rfl rfl rfl ?_
        refine mv1 rfl rfl ?_
        refine ixa rfl rfl (S.slI (i := 2) rfl) e25 rfl rfl rfl rfl (fun _ => by first | omega | (simp only [List.length_cons, List.length_nil]; omega)) ?_
        refine flE rfl (S.slI (i := 2) rfl) fo93_1 rfl rfl rfl (fun _ => by have h_ := optC_len hvl; simp only [Int.toNat_natCast]; omega) ?_
        refine ldE rfl (S.slI (i := 2) rfl) (St.refl [] _) T26 rfl rfl rfl (fun _ => (optC_at (by omega) hp1).2) ?_
        refine mv1 rfl rfl ?_
        refine rem1 rfl rfl rfl (by decide) (r64 (by omega)) ?_
        refine cvi1 rfl rfl Tryd.underlying3 Tryd.underlying5 (w8of (y := clM m % 256) rfl (by omega)) ?_
        refine ixa rfl rfl (S.slI (i := 0) rfl) e26 rfl rfl rfl rfl (fun _ => by have ht := (told_len hcl.1).2; rw [List.length_set]; omega) ?_
        refine stB rfl rfl T5 S (i := 0) rfl (by have ht := (told_len hcl.1).2; rw [List.length_set]; omega) rfl ?_
        intro w11 S
        refine Ro.nil ?_
        refine Nrm.blk ?_
        refine Nrm.code ?_
        refine Run.region ?_
        refine mv1 rfl rfl ?_
        refine add1 rfl rfl rfl (w64 (by omega)) ?_
        refine asg1 rfl rfl ?_
        refine Ro.nil ?_
        have S : St [] w (oB p1 (clampO (clM m) t.flags (t.opts.getD i o0)).data :: .var b5 82 (encTcp t o5 d5) :: oO o5 t.opts vs :: oB d5 t.data :: .var b4 82 [.int .i64 0, .int .i64 0, .int .i64 0, .int .i64 0, .int .i64 0, .int .i64 0, .int .i64 0, .slice none 0 0, .slice none 0 0] :: .var b2 82 (encTcp t o dv) :: (rowsO (vs.take i) ((t.opts.take i).map (clampO (clM m) t.flags)) ++ rowsO (vs.drop (i + 1)) (t.opts.drop (i + 1)))) w11 := by have S2 := S; rw [set_twoI (told_len hcl.1).2] at S2; rw [clampO, if_pos hc8]; exact S2
        have S := St.backR (P := [.var b5 82 (encTcp t o5 d5), oO o5 t.opts vs, oB d5 t.data, .var b4 82 [.int .i64 0, .int .i64 0, .int .i64 0, .int .i64 0, .int .i64 0, .int .i64 0, .int .i64 0, .slice none 0 0, .slice none 0 0], .var b2 82 (encTcp t o dv)]) S
        rw [rowsO_next hp1 (by rw [List.length_map, List.length_take]; omega), show (t.opts.take i).map (clampO (clM m) t.flags) ++ [clampO (clM m) t.flags (t.opts.getD i o0)] = (t.opts.take (i + 1)).map (clampO (clM m) t.flags) from by rw [take_succ_getD (show i < t.opts.length by omega) (d := o0), List.map_append]; rfl] at S
        refine Nrm.loop1 (i + 1) ⟨by omega, S⟩ (by omega) ⟨rfl, rfl, rfl, rfl, rfl, trivial⟩
      ·
        refine Run.skip ?_
        refine Nrm.blk ?_
        refine Nrm.code ?_
        refine Run.region ?_
        replace hc8 : clB (clM m) t.flags (t.opts.getD i o0) = false := by rw [← clB_ref]; exact hc8
        refine mv1 rfl rfl ?_
        refine add1 rfl rfl rfl (w64 (by omega)) ?_
        refine asg1 rfl rfl ?_
        refine Ro.nil ?_
        have S : St [] w (oB p1 (clampO (clM m) t.flags (t.opts.getD i o0)).data :: .var b5 82 (encTcp t o5 d5) :: oO o5 t.opts vs :: oB d5 t.data :: .var b4 82 [.int .i64 0, .int .i64 0, .int .i64 0, .int .i64 0, .int .i64 0, .int .i64 0, .int .i64 0, .slice none 0 0, .slice none 0 0] :: .var b2 82 (encTcp t o dv) :: (rowsO (vs.take i) ((t.opts.take i).map (clampO (clM m) t.flags)) ++ rowsO (vs.drop (i + 1)) (t.opts.drop (i + 1)))) w9 := by rw [clampO, if_neg (by rw [hc8]; simp)]; exact S
        have S := St.backR (P := [.var b5 82 (encTcp t o5 d5), oO o5 t.opts vs, oB d5 t.data, .var b4 82 [.int .i64 0, .int .i64 0, .int .i64 0, .int .i64 0, .int .i64 0, .int .i64 0, .int .i64 0, .slice none 0 0, .slice none 0 0], .var b2 82 (encTcp t o dv)]) S
        rw [rowsO_next hp1 (by rw [List.length_map, List.length_take]; omega), show (t.opts.take i).map (clampO (clM m) t.flags) ++ [clampO (clM m) t.flags (t.opts.getD i o0)] = (t.opts.take (i + 1)).map (clampO (clM m) t.flags) from by rw [take_succ_getD (show i < t.opts.length by omega) (d := o0), List.map_append]; rfl] at S
        refine Nrm.loop1 (i + 1) ⟨by omega, S⟩ (by omega) ⟨rfl, rfl, rfl, rfl, rfl, trivial⟩
    ·
      try simp only [Bool.or_eq_true, Bool.and_eq_true, Bool.or_eq_false_iff, Bool.and_eq_false_iff, decide_eq_true_eq, decide_eq_false_iff_not, Bool.not_eq_true', Bool.not_eq_false', Bool.not_eq_true, Bool.not_eq_false] at hc5
      refine Run.exit ?_
      refine Lv.code ?_
      refine Lv.back ?_
      refine Lv.hit ?_
      refine Nrm.code ?_
      refine Run.seq ?_
      refine Run.region ?_
      refine ldW rfl T82 S (i := 0) rfl rfl rfl rfl rfl ?_
      refine stW rfl rfl T82 rfl rfl (one_cons rfl (one_cons rfl (one_cons rfl (one_cons rfl (one_cons rfl (one_cons rfl (one_cons rfl (one_cons (S.slI (i := 1) rfl).one (one_cons (S.slI (i := 2) rfl).one one_nil))))))))) S (i := 3) rfl rfl ?_
      intro w8 S
      refine Ro.nil ?_
      refine Nrm.code ?_
      refine Run.ret ?_
      refine Rt.cell1 rfl rfl T82 S (i := 3) rfl rfl ?_
      have e : i = t.opts.length := by omega
      subst e
      rw [take_all hvl, drop_all hvl, List.take_length, List.drop_length, show rowsO [] [] = [] from rfl, List.append_nil] at S
      refine ⟨o5, d5, rfl, S.bl, fun N hN => ⟨⟨vs, ?_, rowsO_OSs S hN vs _ (by rw [hvl]; simp [clampT]) ?_ (fun r hr => List.mem_cons_of_mem _ (List.mem_cons_of_mem _ (List.mem_cons_of_mem _ (List.mem_cons_of_mem _ (List.mem_cons_of_mem _ (hr))))))⟩, (S.toFB (i := 2) rfl).bs hd.1 hN⟩⟩
      · show Sl _ _ _ _ (t.opts.map (clampO (clM m) t.flags)).length (optC (t.opts.map (clampO (clM m) t.flags)) vs)
        rw [List.length_map, optC_kinds (fun _ => cl_len.2)]
        exact Own.sl (S.rowI (i := 1) rfl) N (fun j hj hn => by have h1 := S.fresh (i := 1) rfl j hj; have h2 := hN j hn; omega)
      · intro p hp
        obtain ⟨q, hq, rfl⟩ := List.mem_map.1 hp
        exact clampO_byt (clM_bd m) (hO.byt q hq)
end Go.Proofs.YtkahmepenjhcpaaDoor.W
/- Contracts: the calls of layer 6 over values. No statement of the seat is proved here. -/
namespace Go.Proofs.YtkahmepenjhcpaaDoor.W
open Go
set_option linter.unusedSimpArgs false
set_option linter.unusedVariables false
theorem SS.one {N : List Nat} {w : World} {v : Value} {ls : List (List Int)} (h : SS N w v ls) : v.oneCell' = true := let ⟨_, h1, _⟩ := h; h1.one
theorem putE_bd (l : List Opt) : putE l = 0 ∨ putE l = 65 := by unfold putE; split <;> simp
theorem OS.parts {N : List Nat} {w : World} {v : Value} {os : List Opt} (h : OS N w v os) : ∃ ds, Sl N w 2 v os.length (optC os ds) ∧ OSs N w ds os := h
set_option maxHeartbeats 1000000 in
theorem c106 (p : Op6) (vB o d vL : Value) (w : World) (hvB : vB.oneCell' = true) (hO : OS [] w o p.h.opts) (hd : BS [] w d p.h.data) (hL : OS [] w vL p.l) (hol : p.h.opts.length ≤ 1099511627000) (hdl : p.h.data.length ≤ 1099511627000) (hdo : ∀ o ∈ p.h.opts, o.data.length ≤ 1099511627000) (hll : p.l.length ≤ 1099511627000) (hld : ∀ o ∈ p.l, o.data.length ≤ 1099511627000) (hs : p.h.src.ok) (ht : p.h.dst.ok) (hg : GV [] w 0 130 (W4.map i64)) :
  CallsD Tryd.prog 106 #[.agg (encOp6 p vB o d vL).toArray] w (.bool true) := by
 refine enter Tryd.func106 rfl Tryd.ntmps106 (l := [(0, [], _)]) rfl rfl ?_
 have S := St.refl [] w
 obtain ⟨dsO, hOS, hOB⟩ := hO.parts
 obtain ⟨dsL, hLS, hLB⟩ := hL.parts
 have hol' : p.h.opts.length ≤ 1099511627776 := by omega
 have hdl' : p.h.data.length ≤ 1099511627776 := by omega
 have hdo' : ∀ o ∈ p.h.opts, o.data.length ≤ 1099511627776 := fun o h => by have := hdo o h; omega
 have hll' : p.l.length ≤ 1099511627776 := by omega
 have hld' : ∀ o ∈ p.l, o.data.length ≤ 1099511627776 := fun o h => by have := hld o h; omega
 have hce := chkE_bd p.h
 have hpe := putE_bd p.l
 have hodt := hO.byt
 refine Run.seq ?_
 refine Run.region ?_
 refine boxA rfl S rfl ?_
 intro b1 w1 hb1 S B_
 refine asg1 rfl rfl ?_
 refine Ro.nil ?_
 refine Nrm.code ?_
 refine Run.seq ?_
 refine Run.region ?_
 refine fld (o' := 2) rfl fo144_2 rfl rfl rfl rfl ?_
 refine ldA (cs := encIp4 p.h o d) rfl T28 S (i := 0) rfl rfl rfl (by decide) rfl rfl rfl ?_
 refine alc T28 S rfl ?_
 intro b3 w2 hb3 S B_
 refine stW rfl rfl T28 rfl rfl (one_cons rfl (one_cons rfl (one_cons rfl (one_cons rfl (one_cons rfl (one_cons rfl (one_cons rfl (one_cons rfl (one_cons rfl (one_cons rfl (one_cons rfl (one_cons rfl (one_cons rfl (one_cons rfl (one_cons rfl (one_cons rfl (one_cons rfl (one_cons rfl (one_cons rfl (one_cons rfl (one_cons rfl (one_cons rfl (one_cons rfl (one_cons rfl (one_cons rfl (one_cons rfl (one_cons rfl (one_cons rfl (one_cons rfl (one_cons rfl (one_cons rfl (one_cons rfl (one_cons rfl (one_cons rfl (one_cons rfl (one_cons rfl (one_cons rfl (one_cons rfl (one_cons rfl (one_cons rfl (one_cons rfl (one_cons hO.one (one_cons hd.one one_nil))))))))))))))))))))))))))))))))))))))))))) S (i := 0) rfl rfl ?_
 intro w3 S
 refine Ro.nil ?_
 refine Nrm.code ?_
 refine Run.seq ?_
 refine Run.region ?_
 refine fld (o' := 42) rfl fo28_10 rfl rfl rfl rfl ?_
 refine ld1 rfl T26 S (i := 0) rfl rfl rfl rfl rfl ?_
 refine call (vs := [_]) ⟨⟨_, _, rfl, rfl⟩, trivial⟩ k145 rfl (c145 _ _ _ (hd.now S) (by omega)) ?_
 rintro u4 w4 hF
 have S := S.fb hF
 have hby_u4 : byt (_ ++ marks) := byt_app hd.1 marks_byt
 obtain ⟨hu4, S⟩ := S.layBI (i := 0) rfl rfl hby_u4
 obtain ⟨N1, hN1, S_1⟩ := S.reb
 have hO := hO.st S; rw [hN1] at hO
 have hd := hd.st S; rw [hN1] at hd
 have hL := hL.st S; rw [hN1] at hL
 have hg := hg.st S; rw [hN1] at hg
 have hOS := hOS.st S; rw [hN1] at hOS
 have hLS := hLS.st S; rw [hN1] at hLS
 rw [hN1] at hu4
 have SS := S
 have S := S_1
 refine asg1 rfl rfl ?_
 refine Ro.nil ?_
 refine Nrm.code ?_
 refine Run.seq ?_
 refine Run.region ?_
 refine fld (o' := 41) rfl fo28_9 rfl rfl rfl rfl ?_
 refine ld1 rfl T25 S (i := 0) rfl rfl rfl rfl rfl ?_
 have S0 := S
 refine call (vs := [_]) ⟨⟨_, _, rfl, rfl⟩, trivial⟩ k146 rfl (c146 _ _ _ (hO.now S) hol' hdo') ?_
 rintro _ w5 ⟨m5, w6, rfl, B1, hq⟩
 have S := S.call B1
 have hm5 := (hq _ S0.lt).1
 have hw6 := (hq _ S0.lt).2
 obtain ⟨N2, hN2, S_2⟩ := S.reb
 have hO := hO.st S; rw [hN2] at hO
 have hd := hd.st S; rw [hN2] at hd
 have hL := hL.st S; rw [hN2] at hL
 have hg := hg.st S; rw [hN2] at hg
 have hOS := hOS.st S; rw [hN2] at hOS
 have hLS := hLS.st S; rw [hN2] at hLS
 have hu4 := hu4.st S; rw [hN2] at hu4
 rw [hN2] at hm5
 rw [hN2] at hw6
 have SS := SS.tran hN1 S
 have S := S_2
 refine mv1 rfl rfl ?_
 refine extr1 rfl rfl rfl ?_
 refine extr1 rfl rfl rfl ?_
 refine asg1 rfl rfl ?_
 refine asg1 rfl rfl ?_
 refine Ro.nil ?_
 refine Nrm.code ?_
 refine Run.seq ?_
 refine Run.region ?_
 refine mv1 rfl rfl ?_
 refine fld (o' := 2) rfl fo144_2 rfl rfl rfl rfl ?_
 refine fld (o' := 44) rfl fo28_10 rfl rfl rfl rfl ?_
 refine ld1 rfl T26 S (i := 1) rfl rfl rfl rfl rfl ?_
 refine lenS rfl hd.2 Tryd.underlying26 rfl rfl rfl ?_
 refine slC (lo := 0) (hi := p.h.data.length) (mx := capV u4) rfl hu4 e26 rfl rfl rfl (i1 := none) (i2 := some (p.h.data.length)) (i3 := none) trivial ⟨_, _, _, rfl, rfl⟩ trivial rfl rfl rfl (fun h => by first | rfl | cases h) (fun _ => by have := hu4.cap; rw [List.length_append] at *; omega) ?_
 have hd4 := hu4.cutM
 refine fld (o' := 42) rfl fo28_10 rfl rfl rfl rfl ?_
 refine st1 rfl rfl T26 hd4.one S (i := 0) rfl rfl rfl ?_
 intro w6 S
 refine Ro.nil ?_
 refine Nrm.code ?_
 refine Run.seq ?_
 refine Run.region ?_
 refine mv1 rfl rfl ?_
 refine fld (o' := 2) rfl fo144_2 rfl rfl rfl rfl ?_
 refine fld (o' := 43) rfl fo28_9 rfl rfl rfl rfl ?_
 refine ld1 rfl T25 S (i := 1) rfl rfl rfl rfl rfl ?_
 refine lenS rfl hOS Tryd.underlying25 rfl rfl rfl ?_
 obtain ⟨ms_, hmS_, hmB_⟩ := hm5.parts
 refine slS (v := m5) (lo := 0) (hi := p.h.opts.length) (mx := capV m5) rfl hmS_ e25 rfl rfl rfl (i1 := none) (i2 := some p.h.opts.length) (i3 := none) trivial ⟨_, _, _, rfl, rfl⟩ trivial rfl rfl rfl (fun h => by first | rfl | cases h) (fun _ => by have := hmS_.cap; rw [List.length_append] at *; omega) ?_
 intro vc4 hvc_
 have ho4 := OS.take hmB_ hmB_.len (by rw [List.length_append]; omega) (hvc_ trivial).1
 rw [show (p.h.opts ++ [(⟨99, []⟩ : Opt)]).take p.h.opts.length = p.h.opts from by simp] at ho4
 refine fld (o' := 41) rfl fo28_9 rfl rfl rfl rfl ?_
 refine st1 rfl rfl T25 ho4.one S (i := 0) rfl rfl rfl ?_
 intro w7 S
 have S : St _ _ [.var b3 28 (encIp4 p.h vc4 (cut u4 0 p.h.data.length (capV u4))), _] w7 := S
 refine Ro.nil ?_
 refine Nrm.code ?_
 refine Run.seq ?_
 refine Run.region ?_
 refine fld (o' := 45) rfl fo144_3 rfl rfl rfl rfl ?_
 refine ld1 rfl T25 S (i := 1) rfl rfl rfl rfl rfl ?_
 have S0 := S
 refine call (vs := [_]) ⟨⟨_, _, rfl, rfl⟩, trivial⟩ k146 rfl (c146 _ _ _ (hL.now S) hll' hld') ?_
 rintro _ w8 ⟨m7, w8, rfl, B1, hq⟩
 have S := S.call B1
 have hm7 := (hq _ S0.lt).1
 have hw8 := (hq _ S0.lt).2
 obtain ⟨N3, hN3, S_3⟩ := S.reb
 have hO := hO.st S; rw [hN3] at hO
 have hd := hd.st S; rw [hN3] at hd
 have hL := hL.st S; rw [hN3] at hL
 have hg := hg.st S; rw [hN3] at hg
 have hOS := hOS.st S; rw [hN3] at hOS
 have hLS := hLS.st S; rw [hN3] at hLS
 have hu4 := hu4.st S; rw [hN3] at hu4
 have hm5 := hm5.st S; rw [hN3] at hm5
 have hw6 := hw6.st S; rw [hN3] at hw6
 have hd4 := hd4.st S; rw [hN3] at hd4
 have ho4 := ho4.st S; rw [hN3] at ho4
 rw [hN3] at hm7
 rw [hN3] at hw8
 have SS := SS.tran hN2 S
 have S := S_3
 refine mv1 rfl rfl ?_
 refine extr1 rfl rfl rfl ?_
 refine extr1 rfl rfl rfl ?_
 refine asg1 rfl rfl ?_
 refine asg1 rfl rfl ?_
 refine Ro.nil ?_
 refine Nrm.code ?_
 refine Run.seq ?_
 refine Run.region ?_
 refine asg1 rfl rfl ?_
 refine Ro.nil ?_
 refine Nrm.code ?_
 refine Run.seq ?_
 refine Run.seq ?_
 refine Run.region ?_
 refine fld (o' := 0) rfl fo144_0 rfl rfl rfl rfl ?_
 refine ld1 rfl T3 S (i := 1) rfl rfl rfl rfl rfl ?_
 refine Ro.nil ?_
 refine Nrm.code ?_
 refine Run.block ?_
 refine Run.seq ?_
 refine Run.region ?_
 refine eql1 rfl rfl rfl ?_
 refine asg1 rfl rfl ?_
 refine Ro.nil ?_
 refine Nrm.code ?_
 refine Run.cond rfl (fun hc9 => ?_) (fun hc9 => ?_)
 ·
  try simp only [Bool.or_eq_true, Bool.and_eq_true, Bool.or_eq_false_iff, Bool.and_eq_false_iff, decide_eq_true_eq, decide_eq_false_iff_not, Bool.not_eq_true', Bool.not_eq_false', Bool.not_eq_true, Bool.not_eq_false] at hc9
  refine Run.seq ?_
  refine Run.region ?_
  refine ldW rfl T28 S (i := 0) rfl rfl rfl rfl rfl ?_
  refine calg (vs := [_]) rfl ⟨⟨_, _, rfl, rfl⟩, trivial⟩ k32 rfl (fun hG => c32 p.h vc4 (cut u4 0 p.h.data.length (capV u4)) _ (ho4.now S) (hd4.now S) hol' hdl') ?_
  intro w9 B_; have S := S.call B_
  refine asg1 rfl rfl ?_
  refine Ro.nil ?_
  refine Nrm.code ?_
  refine Run.draw (by kernel_rfl) (by kernel_rfl) S ?_
  refine qmv rfl rfl rfl rfl ?_
  refine qcal (vs := [_]) rfl ⟨⟨_, _, rfl, rfl⟩, trivial⟩ k31 rfl (fun _ _ S B => S.call B) (fun hG w_ S => c31 _ _ (by omega)) ?_
  refine qfld (o' := 2) rfl fo144_2 rfl rfl rfl rfl ?_
  refine qldA (cs := encIp4 p.h o d) rfl T28 (fun _ S => S) (i := 1) rfl rfl rfl (by decide) rfl rfl rfl ?_
  refine qcal (vs := [_]) rfl ⟨⟨_, _, rfl, rfl⟩, trivial⟩ k147 rfl (fun _ _ S B => S.call B) (fun hG w_ S => c147 p.h o d _ (hO.now S) (hd.now S) hol' hdl') ?_
  refine qeql rfl rfl rfl rfl rfl rfl ?_
  refine qasg rfl rfl rfl rfl ?_
  refine Qo.nil (fun w10 S => ?_)
  refine Nrm.blk ?_
  refine Nrm.code ?_
  refine Run.seq ?_
  refine Run.region ?_
  refine mv1 rfl rfl ?_
  refine mv1 rfl rfl ?_
  refine ldW rfl T28 S (i := 0) rfl rfl rfl rfl rfl ?_
  refine fld (o' := 2) rfl fo144_2 rfl rfl rfl rfl ?_
  refine ldA (cs := encIp4 p.h o d) rfl T28 S (i := 1) rfl rfl rfl (by decide) rfl rfl rfl ?_
  refine calg (vs := [_, _]) rfl ⟨⟨_, _, rfl, rfl⟩, ⟨_, _, rfl, rfl⟩, trivial⟩ k34 rfl (fun hG => c34 _ _ vc4 (cut u4 0 p.h.data.length (capV u4)) o d _ (ho4.now S) (hd4.now S) (hO.now S) (hd.now S) hol') ?_
  intro w11 B_; have S := S.call B_
  refine pkA rfl rfl rfl rfl rfl rfl ?_
  refine mv1 rfl rfl ?_
  refine mv rfl rfl rfl rfl ?_
  refine fld (o' := 2) rfl fo144_2 rfl rfl rfl rfl ?_
  refine fld (o' := 44) rfl fo28_10 rfl rfl rfl rfl ?_
  refine ld1 rfl T26 S (i := 1) rfl rfl rfl rfl rfl ?_
  refine calg (vs := [_, _]) rfl ⟨⟨_, _, rfl, rfl⟩, ⟨_, _, rfl, rfl⟩, trivial⟩ k148 rfl (fun hG => c148 _ _ _ _ _ (hu4.now S) (hd.now S) (by exact hdl')) ?_
  intro w12 B_; have S := S.call B_
  refine pkA rfl rfl rfl rfl rfl rfl ?_
  refine mv1 rfl rfl ?_
  refine mv rfl rfl rfl rfl ?_
  refine mv rfl rfl rfl rfl ?_
  refine fld (o' := 2) rfl fo144_2 rfl rfl rfl rfl ?_
  refine fld (o' := 43) rfl fo28_9 rfl rfl rfl rfl ?_
  refine ld1 rfl T25 S (i := 1) rfl rfl rfl rfl rfl ?_
  refine calg (vs := [_, _, _]) rfl ⟨⟨_, _, rfl, rfl⟩, ⟨_, _, rfl, rfl⟩, ⟨_, _, rfl, rfl⟩, trivial⟩ k149 rfl (fun hG => c149 _ _ _ _ _ (hm5.now S) (hw6.now S) (hO.now S) hol' hdo') ?_
  intro w13 B_; have S := S.call B_
  refine pkA rfl rfl rfl rfl rfl rfl ?_
  refine mv1 rfl rfl ?_
  refine mv rfl rfl rfl rfl ?_
  refine mv rfl rfl rfl rfl ?_
  refine fld (o' := 45) rfl fo144_3 rfl rfl rfl rfl ?_
  refine ld1 rfl T25 S (i := 1) rfl rfl rfl rfl rfl ?_
  refine calg (vs := [_, _, _]) rfl ⟨⟨_, _, rfl, rfl⟩, ⟨_, _, rfl, rfl⟩, ⟨_, _, rfl, rfl⟩, trivial⟩ k149 rfl (fun hG => c149 _ _ _ _ _ (hm7.now S) (hw8.now S) (hL.now S) hll' hld') ?_
  intro w14 B_; have S := S.call B_
  refine pkA rfl rfl rfl rfl rfl rfl ?_
  refine asg1 rfl rfl ?_
  refine Ro.nil ?_
  refine Nrm.code ?_
  refine Run.ret ?_
  refine Rt.one rfl rfl ?_
  exact ⟨by simp [sameH_refl], (SS.tran hN3 S).bl⟩
 ·
  try simp only [Bool.or_eq_true, Bool.and_eq_true, Bool.or_eq_false_iff, Bool.and_eq_false_iff, decide_eq_true_eq, decide_eq_false_iff_not, Bool.not_eq_true', Bool.not_eq_false', Bool.not_eq_true, Bool.not_eq_false] at hc9
  refine Run.seq ?_
  refine Run.region ?_
  refine eql1 rfl rfl rfl ?_
  refine asg1 rfl rfl ?_
  refine Ro.nil ?_
  refine Nrm.code ?_
  refine Run.cond rfl (fun hc12 => ?_) (fun hc12 => ?_)
  ·
   try simp only [Bool.or_eq_true, Bool.and_eq_true, Bool.or_eq_false_iff, Bool.and_eq_false_iff, decide_eq_true_eq, decide_eq_false_iff_not, Bool.not_eq_true', Bool.not_eq_false', Bool.not_eq_true, Bool.not_eq_false] at hc12
   refine Run.seq ?_
   refine Run.region ?_
   refine ldW rfl T28 S (i := 0) rfl rfl rfl rfl rfl ?_
   refine call (vs := [_]) ⟨⟨_, _, rfl, rfl⟩, trivial⟩ k30 rfl (c30 p.h vc4 (cut u4 0 p.h.data.length (capV u4)) _ (ho4.now S) (hd4.now S) hol' hdl' hs ht (hg.now S)) ?_
   rintro _ w9 ⟨u11, rfl, hF⟩
   have S := S.fb hF
   have hby_u11 := serL_byt hs ht hodt hd.1
   refine mv1 rfl rfl ?_
   refine extr1 rfl rfl rfl ?_
   refine extr1 rfl rfl rfl ?_
   refine asg1 rfl rfl ?_
   refine asg1 rfl rfl ?_
   refine Ro.nil ?_
   refine Nrm.code ?_
   refine Run.seq ?_
   refine Run.region ?_
   refine fld (o' := 2) rfl fo144_2 rfl rfl rfl rfl ?_
   refine ldA (cs := encIp4 p.h o d) rfl T28 S (i := 2) rfl rfl rfl (by decide) rfl rfl rfl ?_
   refine call (vs := [_]) ⟨⟨_, _, rfl, rfl⟩, trivial⟩ k115 rfl (c115 p.h o d _ (hO.now S) (hd.now S) hol' hdl' hs ht) ?_
   rintro _ w10 ⟨u13, rfl, hF⟩
   have S := S.fb hF
   have hby_u13 := hby_u11
   refine mv1 rfl rfl ?_
   refine extr1 rfl rfl rfl ?_
   refine extr1 rfl rfl rfl ?_
   refine asg1 rfl rfl ?_
   refine asg1 rfl rfl ?_
   refine Ro.nil ?_
   refine Nrm.code ?_
   refine Run.region ?_
   refine mv1 rfl rfl ?_
   refine calg (vs := [_]) rfl ⟨⟨_, _, rfl, rfl⟩, trivial⟩ k31 rfl (fun hG => c31 _ _ (by omega)) ?_
   intro w11 B_; have S := S.call B_
   refine mv1 rfl rfl ?_
   refine eql1 rfl rfl rfl ?_
   refine mv1 rfl rfl ?_
   refine mv rfl rfl rfl rfl ?_
   refine mv rfl rfl rfl rfl ?_
   refine calg (vs := [_, _]) rfl ⟨⟨_, _, rfl, rfl⟩, ⟨_, _, rfl, rfl⟩, trivial⟩ k37 rfl (fun hG => c37 _ _ _ _ _ (S.bsI (i := 1) rfl hby_u11) (S.bsI (i := 0) rfl hby_u13)) ?_
   intro w12 B_; have S := S.call B_
   refine pkA rfl rfl rfl rfl rfl rfl ?_
   refine asg1 rfl rfl ?_
   refine Ro.nil ?_
   refine Nrm.blk ?_
   refine Nrm.code ?_
   refine Run.seq ?_
   refine Run.region ?_
   refine mv1 rfl rfl ?_
   refine mv1 rfl rfl ?_
   refine ldW rfl T28 S (i := 2) rfl rfl rfl rfl rfl ?_
   refine fld (o' := 2) rfl fo144_2 rfl rfl rfl rfl ?_
   refine ldA (cs := encIp4 p.h o d) rfl T28 S (i := 3) rfl rfl rfl (by decide) rfl rfl rfl ?_
   refine calg (vs := [_, _]) rfl ⟨⟨_, _, rfl, rfl⟩, ⟨_, _, rfl, rfl⟩, trivial⟩ k34 rfl (fun hG => c34 _ _ vc4 (cut u4 0 p.h.data.length (capV u4)) o d _ (ho4.now S) (hd4.now S) (hO.now S) (hd.now S) hol') ?_
   intro w13 B_; have S := S.call B_
   refine pkA rfl rfl rfl rfl rfl rfl ?_
   refine mv1 rfl rfl ?_
   refine mv rfl rfl rfl rfl ?_
   refine fld (o' := 2) rfl fo144_2 rfl rfl rfl rfl ?_
   refine fld (o' := 44) rfl fo28_10 rfl rfl rfl rfl ?_
   refine ld1 rfl T26 S (i := 3) rfl rfl rfl rfl rfl ?_
   refine calg (vs := [_, _]) rfl ⟨⟨_, _, rfl, rfl⟩, ⟨_, _, rfl, rfl⟩, trivial⟩ k148 rfl (fun hG => c148 _ _ _ _ _ (hu4.now S) (hd.now S) (by exact hdl')) ?_
   intro w14 B_; have S := S.call B_
   refine pkA rfl rfl rfl rfl rfl rfl ?_
   refine mv1 rfl rfl ?_
   refine mv rfl rfl rfl rfl ?_
   refine mv rfl rfl rfl rfl ?_
   refine fld (o' := 2) rfl fo144_2 rfl rfl rfl rfl ?_
   refine fld (o' := 43) rfl fo28_9 rfl rfl rfl rfl ?_
   refine ld1 rfl T25 S (i := 3) rfl rfl rfl rfl rfl ?_
   refine calg (vs := [_, _, _]) rfl ⟨⟨_, _, rfl, rfl⟩, ⟨_, _, rfl, rfl⟩, ⟨_, _, rfl, rfl⟩, trivial⟩ k149 rfl (fun hG => c149 _ _ _ _ _ (hm5.now S) (hw6.now S) (hO.now S) hol' hdo') ?_
   intro w15 B_; have S := S.call B_
   refine pkA rfl rfl rfl rfl rfl rfl ?_
   refine mv1 rfl rfl ?_
   refine mv rfl rfl rfl rfl ?_
   refine mv rfl rfl rfl rfl ?_
   refine fld (o' := 45) rfl fo144_3 rfl rfl rfl rfl ?_
   refine ld1 rfl T25 S (i := 3) rfl rfl rfl rfl rfl ?_
   refine calg (vs := [_, _, _]) rfl ⟨⟨_, _, rfl, rfl⟩, ⟨_, _, rfl, rfl⟩, ⟨_, _, rfl, rfl⟩, trivial⟩ k149 rfl (fun hG => c149 _ _ _ _ _ (hm7.now S) (hw8.now S) (hL.now S) hll' hld') ?_
   intro w16 B_; have S := S.call B_
   refine pkA rfl rfl rfl rfl rfl rfl ?_
   refine asg1 rfl rfl ?_
   refine Ro.nil ?_
   refine Nrm.code ?_
   refine Run.ret ?_
   refine Rt.one rfl rfl ?_
   exact ⟨by simp [sameH_refl], (SS.tran hN3 S).bl⟩
  ·
   try simp only [Bool.or_eq_true, Bool.and_eq_true, Bool.or_eq_false_iff, Bool.and_eq_false_iff, decide_eq_true_eq, decide_eq_false_iff_not, Bool.not_eq_true', Bool.not_eq_false', Bool.not_eq_true, Bool.not_eq_false] at hc12
   refine Run.seq ?_
   refine Run.region ?_
   refine eql1 rfl rfl rfl ?_
   refine asg1 rfl rfl ?_
   refine Ro.nil ?_
   refine Nrm.code ?_
   refine Run.cond rfl (fun hc16 => ?_) (fun hc16 => ?_)
   ·
    try simp only [Bool.or_eq_true, Bool.and_eq_true, Bool.or_eq_false_iff, Bool.and_eq_false_iff, decide_eq_true_eq, decide_eq_false_iff_not, Bool.not_eq_true', Bool.not_eq_false', Bool.not_eq_true, Bool.not_eq_false] at hc16
    refine Run.seq ?_
    refine Run.region ?_
    refine mv1 rfl rfl ?_
    refine fld (o' := 45) rfl fo144_3 rfl rfl rfl rfl ?_
    refine ld1 rfl T25 S (i := 1) rfl rfl rfl rfl rfl ?_
    refine lenS rfl hLS Tryd.underlying25 rfl rfl rfl ?_
    obtain ⟨ms_, hmS_, hmB_⟩ := hm7.parts
    refine slS (v := m7) (lo := 0) (hi := p.l.length) (mx := capV m7) rfl hmS_ e25 rfl rfl rfl (i1 := none) (i2 := some p.l.length) (i3 := none) trivial ⟨_, _, _, rfl, rfl⟩ trivial rfl rfl rfl (fun h => by first | rfl | cases h) (fun _ => by have := hmS_.cap; rw [List.length_append] at *; omega) ?_
    intro vc7 hvc_
    have ho7 := OS.take hmB_ hmB_.len (by rw [List.length_append]; omega) (hvc_ trivial).1
    rw [show (p.l ++ [(⟨99, []⟩ : Opt)]).take p.l.length = p.l from by simp] at ho7
    refine call (vs := [_]) ⟨⟨_, _, rfl, rfl⟩, trivial⟩ k94 rfl (c94 _ _ _ (ho7.now S) (by exact hll')) ?_
    rintro _ w9 ⟨u15, rfl, hF⟩
    have S := S.fb hF
    refine mv1 rfl rfl ?_
    refine extr1 rfl rfl rfl ?_
    refine extr1 rfl rfl rfl ?_
    refine asg1 rfl rfl ?_
    refine asg1 rfl rfl ?_
    refine Ro.nil ?_
    refine Nrm.code ?_
    refine Run.seq ?_
    refine Run.region ?_
    refine fld (o' := 45) rfl fo144_3 rfl rfl rfl rfl ?_
    refine ld1 rfl T25 S (i := 2) rfl rfl rfl rfl rfl ?_
    refine call (vs := [_]) ⟨⟨_, _, rfl, rfl⟩, trivial⟩ k136 rfl (c136 _ _ _ (hL.now S) (by exact hll')) ?_
    rintro _ w10 ⟨u17, rfl, hF⟩
    have S := S.fb hF
    refine mv1 rfl rfl ?_
    refine extr1 rfl rfl rfl ?_
    refine extr1 rfl rfl rfl ?_
    refine asg1 rfl rfl ?_
    refine asg1 rfl rfl ?_
    refine Ro.nil ?_
    refine Nrm.code ?_
    refine Run.region ?_
    refine mv1 rfl rfl ?_
    have hby_u15 : byt (putL p.l) := putL_byt hL.byt
    have hby_u17 := hby_u15
    refine calg (vs := [_]) rfl ⟨⟨_, _, rfl, rfl⟩, trivial⟩ k31 rfl (fun hG => c31 _ _ (by omega)) ?_
    intro w11 B_; have S := S.call B_
    refine mv1 rfl rfl ?_
    refine eql1 rfl rfl rfl ?_
    refine mv1 rfl rfl ?_
    refine mv rfl rfl rfl rfl ?_
    refine mv rfl rfl rfl rfl ?_
    refine calg (vs := [_, _]) rfl ⟨⟨_, _, rfl, rfl⟩, ⟨_, _, rfl, rfl⟩, trivial⟩ k37 rfl (fun hG => c37 _ _ _ _ _ (S.bsI (i := 1) rfl hby_u15) (S.bsI (i := 0) rfl hby_u17)) ?_
    intro w12 B_; have S := S.call B_
    refine pkA rfl rfl rfl rfl rfl rfl ?_
    refine asg1 rfl rfl ?_
    refine Ro.nil ?_
    refine Nrm.blk ?_
    refine Nrm.code ?_
    refine Run.seq ?_
    refine Run.region ?_
    refine mv1 rfl rfl ?_
    refine mv1 rfl rfl ?_
    refine ldW rfl T28 S (i := 2) rfl rfl rfl rfl rfl ?_
    refine fld (o' := 2) rfl fo144_2 rfl rfl rfl rfl ?_
    refine ldA (cs := encIp4 p.h o d) rfl T28 S (i := 3) rfl rfl rfl (by decide) rfl rfl rfl ?_
    refine calg (vs := [_, _]) rfl ⟨⟨_, _, rfl, rfl⟩, ⟨_, _, rfl, rfl⟩, trivial⟩ k34 rfl (fun hG => c34 _ _ vc4 (cut u4 0 p.h.data.length (capV u4)) o d _ (ho4.now S) (hd4.now S) (hO.now S) (hd.now S) hol') ?_
    intro w13 B_; have S := S.call B_
    refine pkA rfl rfl rfl rfl rfl rfl ?_
    refine mv1 rfl rfl ?_
    refine mv rfl rfl rfl rfl ?_
    refine fld (o' := 2) rfl fo144_2 rfl rfl rfl rfl ?_
    refine fld (o' := 44) rfl fo28_10 rfl rfl rfl rfl ?_
    refine ld1 rfl T26 S (i := 3) rfl rfl rfl rfl rfl ?_
    refine calg (vs := [_, _]) rfl ⟨⟨_, _, rfl, rfl⟩, ⟨_, _, rfl, rfl⟩, trivial⟩ k148 rfl (fun hG => c148 _ _ _ _ _ (hu4.now S) (hd.now S) (by exact hdl')) ?_
    intro w14 B_; have S := S.call B_
    refine pkA rfl rfl rfl rfl rfl rfl ?_
    refine mv1 rfl rfl ?_
    refine mv rfl rfl rfl rfl ?_
    refine mv rfl rfl rfl rfl ?_
    refine fld (o' := 2) rfl fo144_2 rfl rfl rfl rfl ?_
    refine fld (o' := 43) rfl fo28_9 rfl rfl rfl rfl ?_
    refine ld1 rfl T25 S (i := 3) rfl rfl rfl rfl rfl ?_
    refine calg (vs := [_, _, _]) rfl ⟨⟨_, _, rfl, rfl⟩, ⟨_, _, rfl, rfl⟩, ⟨_, _, rfl, rfl⟩, trivial⟩ k149 rfl (fun hG => c149 _ _ _ _ _ (hm5.now S) (hw6.now S) (hO.now S) hol' hdo') ?_
    intro w15 B_; have S := S.call B_
    refine pkA rfl rfl rfl rfl rfl rfl ?_
    refine mv1 rfl rfl ?_
    refine mv rfl rfl rfl rfl ?_
    refine mv rfl rfl rfl rfl ?_
    refine fld (o' := 45) rfl fo144_3 rfl rfl rfl rfl ?_
    refine ld1 rfl T25 S (i := 3) rfl rfl rfl rfl rfl ?_
    refine calg (vs := [_, _, _]) rfl ⟨⟨_, _, rfl, rfl⟩, ⟨_, _, rfl, rfl⟩, ⟨_, _, rfl, rfl⟩, trivial⟩ k149 rfl (fun hG => c149 _ _ _ _ _ (hm7.now S) (hw8.now S) (hL.now S) hll' hld') ?_
    intro w16 B_; have S := S.call B_
    refine pkA rfl rfl rfl rfl rfl rfl ?_
    refine asg1 rfl rfl ?_
    refine Ro.nil ?_
    refine Nrm.code ?_
    refine Run.ret ?_
    refine Rt.one rfl rfl ?_
    exact ⟨by simp [sameH_refl], (SS.tran hN3 S).bl⟩
   ·
    try simp only [Bool.or_eq_true, Bool.and_eq_true, Bool.or_eq_false_iff, Bool.and_eq_false_iff, decide_eq_true_eq, decide_eq_false_iff_not, Bool.not_eq_true', Bool.not_eq_false', Bool.not_eq_true, Bool.not_eq_false] at hc16
    refine Run.skip ?_
    refine Nrm.blk ?_
    refine Nrm.code ?_
    refine Run.seq ?_
    refine Run.region ?_
    refine mv1 rfl rfl ?_
    refine mv1 rfl rfl ?_
    refine ldW rfl T28 S (i := 0) rfl rfl rfl rfl rfl ?_
    refine fld (o' := 2) rfl fo144_2 rfl rfl rfl rfl ?_
    refine ldA (cs := encIp4 p.h o d) rfl T28 S (i := 1) rfl rfl rfl (by decide) rfl rfl rfl ?_
    refine calg (vs := [_, _]) rfl ⟨⟨_, _, rfl, rfl⟩, ⟨_, _, rfl, rfl⟩, trivial⟩ k34 rfl (fun hG => c34 _ _ vc4 (cut u4 0 p.h.data.length (capV u4)) o d _ (ho4.now S) (hd4.now S) (hO.now S) (hd.now S) hol') ?_
    intro w9 B_; have S := S.call B_
    refine pkA rfl rfl rfl rfl rfl rfl ?_
    refine mv1 rfl rfl ?_
    refine mv rfl rfl rfl rfl ?_
    refine fld (o' := 2) rfl fo144_2 rfl rfl rfl rfl ?_
    refine fld (o' := 44) rfl fo28_10 rfl rfl rfl rfl ?_
    refine ld1 rfl T26 S (i := 1) rfl rfl rfl rfl rfl ?_
    refine calg (vs := [_, _]) rfl ⟨⟨_, _, rfl, rfl⟩, ⟨_, _, rfl, rfl⟩, trivial⟩ k148 rfl (fun hG => c148 _ _ _ _ _ (hu4.now S) (hd.now S) (by exact hdl')) ?_
    intro w10 B_; have S := S.call B_
    refine pkA rfl rfl rfl rfl rfl rfl ?_
    refine mv1 rfl rfl ?_
    refine mv rfl rfl rfl rfl ?_
    refine mv rfl rfl rfl rfl ?_
    refine fld (o' := 2) rfl fo144_2 rfl rfl rfl rfl ?_
    refine fld (o' := 43) rfl fo28_9 rfl rfl rfl rfl ?_
    refine ld1 rfl T25 S (i := 1) rfl rfl rfl rfl rfl ?_
    refine calg (vs := [_, _, _]) rfl ⟨⟨_, _, rfl, rfl⟩, ⟨_, _, rfl, rfl⟩, ⟨_, _, rfl, rfl⟩, trivial⟩ k149 rfl (fun hG => c149 _ _ _ _ _ (hm5.now S) (hw6.now S) (hO.now S) hol' hdo') ?_
    intro w11 B_; have S := S.call B_
    refine pkA rfl rfl rfl rfl rfl rfl ?_
    refine mv1 rfl rfl ?_
    refine mv rfl rfl rfl rfl ?_
    refine mv rfl rfl rfl rfl ?_
    refine fld (o' := 45) rfl fo144_3 rfl rfl rfl rfl ?_
    refine ld1 rfl T25 S (i := 1) rfl rfl rfl rfl rfl ?_
    refine calg (vs := [_, _, _]) rfl ⟨⟨_, _, rfl, rfl⟩, ⟨_, _, rfl, rfl⟩, ⟨_, _, rfl, rfl⟩, trivial⟩ k149 rfl (fun hG => c149 _ _ _ _ _ (hm7.now S) (hw8.now S) (hL.now S) hll' hld') ?_
    intro w12 B_; have S := S.call B_
    refine pkA rfl rfl rfl rfl rfl rfl ?_
    refine asg1 rfl rfl ?_
    refine Ro.nil ?_
    refine Nrm.code ?_
    refine Run.ret ?_
    refine Rt.one rfl rfl ?_
    exact ⟨by simp [sameH_refl], (SS.tran hN3 S).bl⟩
end Go.Proofs.YtkahmepenjhcpaaDoor.W
/- Contracts: the calls of layer 9 over bytes and over UDP. No statement of the seat is proved here. -/
namespace Go.Proofs.YtkahmepenjhcpaaDoor.W
open Go
set_option linter.unusedSimpArgs false
set_option linter.unusedVariables false
structure Op9 where
  kind : Int
  s : IP
  d : IP
  b : List Int
  u : Udp
  t : Tcp
  l : List Opt
  n : Int
def encOp9 (p : Op9) (vB ud to_ td vL : Value) : List Value := [i64 p.kind] ++ (encIP p.s ++ (encIP p.d ++ ([vB] ++ (encUdp p.u ud ++ (encTcp p.t to_ td ++ [vL, i64 p.n])))))
set_option maxHeartbeats 1000000 in
theorem c152 (v : Value) (os : List Opt) (w : World) (hO : OS [] w v os) (hl : os.length ≤ 1099511627776) (hdl : ∀ o ∈ os, o.data.length ≤ 1099511627776) :
  CallsV Tryd.prog 152 #[v] w (fun r w' => ∃ u vw, r = .tuple #[u, vw] ∧ Bl w w' ∧ ∀ N, (∀ i ∈ N, i < w.heap.size) → OS N w' u (os ++ [⟨99, []⟩]) ∧ SS N w' vw (os.map oM)) := by
 refine enter Tryd.func152 rfl Tryd.ntmps152 (l := [(0, [], _)]) rfl rfl ?_
 have S := St.refl [] w
 obtain ⟨ds, hOS, hOB⟩ := hO
 refine Run.seq ?_
 refine Run.region ?_
 refine asg1 rfl rfl ?_
 refine asg1 rfl rfl ?_
 refine Ro.nil ?_
 refine Nrm.code ?_
 refine Run.seq ?_
 refine Run.region ?_
 refine asg1 rfl rfl ?_
 have S := S.nilO
 refine Ro.nil ?_
 refine Nrm.code ?_
 refine Run.seq ?_
 refine Run.region ?_
 refine asg1 rfl rfl ?_
 have S := S.nilS
 refine Ro.nil ?_
 refine Nrm.code ?_
 refine Run.seq ?_
 refine Run.seq ?_
 refine Run.region ?_
 refine asg1 rfl rfl ?_
 refine Ro.nil ?_
 refine Nrm.code ?_
 refine Run.block ?_
 refine Run.loop6 (fun (i : Nat) (u : Value) (acc : List Opt) (vs : List Value) (vw : Value) (vws : List Value) w_ => i ≤ os.length ∧ vs.length = acc.length ∧ acc = os.take i ∧ vws.length = i ∧ (∀ N, (∀ j ∈ N, j < w.heap.size) → OSs (idsL [oS vw vws, oO u acc vs] ++ N) w_ vs acc ∧ BSs (idsL [oS vw vws, oO u acc vs] ++ N) w_ vws ((os.take i).map oM)) ∧ St [] w [oS vw vws, oO u acc vs] w_) (fun (i : Nat) (u : Value) (acc : List Opt) (vs : List Value) (vw : Value) (vws : List Value) => [(0, [], v), (4, [], u), (5, [], vw), (6, [], .int .i64 i)]) (fun (i : Nat) (u : Value) (acc : List Opt) (vs : List Value) (vw : Value) (vws : List Value) => os.length - i) (0) (_) ([]) ([]) (_) ([]) ⟨Nat.zero_le _, rfl, rfl, rfl, fun _ _ => ⟨trivial, trivial⟩, S⟩ ⟨rfl, rfl, rfl, rfl, trivial⟩ ?_
 rintro i u acc vs vw vws w1 ⟨hi, hvl, hacc, hvwl, hvs, S⟩
 have hal : acc.length = i := by rw [hacc, List.length_take]; omega
 refine Run.seq ?_
 refine Run.seq ?_
 refine Run.region ?_
 refine mv1 rfl rfl ?_
 refine mv1 rfl rfl ?_
 refine lenS rfl hOS Tryd.underlying25 rfl rfl rfl ?_
 refine lss1 rfl rfl rfl ?_
 refine Ro.nil ?_
 refine Nrm.code ?_
 refine Run.cond rfl (fun hc4 => ?_) (fun hc4 => ?_)
 ·
  try simp only [Bool.or_eq_true, Bool.and_eq_true, Bool.or_eq_false_iff, Bool.and_eq_false_iff, decide_eq_true_eq, decide_eq_false_iff_not, Bool.not_eq_true', Bool.not_eq_false', Bool.not_eq_true, Bool.not_eq_false] at hc4
  refine Run.skip ?_
  refine Nrm.code ?_
  refine Run.seq ?_
  refine Run.block ?_
  refine Run.seq ?_
  refine Run.region ?_
  obtain ⟨p1, hp1, hb1⟩ := hOB.at (i := i) (by omega)
  have hil : i < os.length := by omega
  refine mv1 rfl rfl ?_
  refine mv1 rfl rfl ?_
  refine ixa rfl rfl hOS e25 rfl rfl rfl rfl (fun _ => by first | omega | (simp only [List.length_cons, List.length_nil]; omega)) ?_
  refine flE rfl hOS fo93_1 rfl rfl rfl (fun _ => hOB.lt (by omega)) ?_
  refine ldE rfl hOS S T26 rfl rfl rfl (fun _ => hOB.k1 (by omega) hp1) ?_
  have S0 := S
  refine call (vs := [_]) ⟨⟨_, _, rfl, rfl⟩, trivial⟩ k66 rfl (c66 _ _ _ (hb1.now S) (by have := hdl _ (getD_mem' (d := o0) (show i < os.length by omega)); omega)) ?_
  rintro q w2 hF
  have hqby : byt (oM (os.getD i o0)) := byt_app hb1.1 marks_byt
  have S := S.call hF.1
  have hq := hF.bs hqby S0.lt
  have hqN : ∀ N, (∀ j ∈ N, j < w.heap.size) → BS (idsL [oS vw vws, oO u acc vs] ++ N) w2 q (oM (os.getD i o0)) := fun N hN => hF.bs hqby (below_app S0 hN)
  have hvs := fun N hN => And.intro ((hvs N hN).1.bl hF.1) (BSs.bl hF.1 (hvs N hN).2)
  obtain ⟨N1, hN1, S_1⟩ := S.reb
  have hOS := hOS.st S; rw [hN1] at hOS
  have hOB := hOB.st S; rw [hN1] at hOB
  rw [hN1] at hq
  have SS := S
  have SL := S
  have S := S_1
  have hqc := hq.cutM
  refine asg1 rfl rfl ?_
  refine Ro.nil ?_
  refine Nrm.code ?_
  refine Run.seq ?_
  refine Run.region ?_
  refine mv1 rfl rfl ?_
  refine mv1 rfl rfl ?_
  refine apSF rfl e102 (qs := [(_, _)]) ⟨⟨_, _, _, rfl, rfl, cells1 hq.one, rfl, List.cons_ne_nil _ _⟩, trivial⟩ rfl hq.one S (i := 0) rfl rfl rfl (fun t e => by cases e; rfl) (fun _ => rfl) (by first | omega | (simp only [List.length_nil, List.length_append, List.length_cons]; omega)) ?_
  intro u_ vw2 w3 S B_
  refine asg1 rfl rfl ?_
  refine Ro.nil ?_
  refine Nrm.code ?_
  refine Run.held (by kernel_rfl) S [true, false] rfl rfl rfl ?_
  intro w4 BD S SC
  refine Ho.take (i := 0) SC Pp.body rfl (by kernel_rfl) (by kernel_rfl) (by kernel_rfl) rfl rfl ?_
  refine qmv rfl rfl rfl rfl ?_
  refine Ho.back ?_
  refine Ho.take (i := 1) SC Pp.body rfl (by kernel_rfl) (by kernel_rfl) (by kernel_rfl) rfl rfl ?_
  refine qmv rfl rfl rfl rfl ?_
  refine Ho.back ?_
  refine Ho.take (i := 2) SC Pp.body rfl (by kernel_rfl) (by kernel_rfl) (by kernel_rfl) rfl rfl ?_
  refine qmv rfl rfl rfl rfl ?_
  refine Ho.back ?_
  refine Ho.take (i := 3) SC Pp.body rfl (by kernel_rfl) (by kernel_rfl) (by kernel_rfl) rfl rfl ?_
  refine qixa rfl rfl hOS e25 rfl rfl rfl rfl (fun _ => by first | omega | (simp only [List.length_cons, List.length_nil]; omega)) ?_
  refine Ho.back ?_
  refine Ho.take (i := 4) SC Pp.body rfl (by kernel_rfl) (by kernel_rfl) (by kernel_rfl) rfl rfl ?_
  refine qflE rfl hOS fo93_0 rfl rfl rfl (fun _ => hOB.lt (by omega)) ?_
  refine Ho.back ?_
  refine Ho.take (i := 5) SC Pp.body rfl (by kernel_rfl) (by kernel_rfl) (by kernel_rfl) rfl rfl ?_
  refine qldE rfl hOS (fun _ S => S) T3 rfl rfl rfl (fun _ => hOB.k0 (by omega) hp1) ?_
  refine Ho.back ?_
  refine Ho.take (i := 6) SC Pp.body rfl (by kernel_rfl) (by kernel_rfl) (by kernel_rfl) rfl rfl ?_
  refine qmv rfl rfl rfl rfl ?_
  refine Ho.back ?_
  refine Ho.take (i := 7) SC Pp.body rfl (by kernel_rfl) (by kernel_rfl) (by kernel_rfl) rfl rfl ?_
  refine qmv rfl rfl rfl rfl ?_
  refine Ho.back ?_
  refine Ho.take (i := 8) SC Pp.body rfl (by kernel_rfl) (by kernel_rfl) (by kernel_rfl) rfl rfl ?_
  refine qmv rfl rfl rfl rfl ?_
  refine Ho.back ?_
  refine Ho.take (i := 9) SC Pp.body rfl (by kernel_rfl) (by kernel_rfl) (by kernel_rfl) rfl rfl ?_
  refine qixa rfl rfl hOS e25 rfl rfl rfl rfl (fun _ => by first | omega | (simp only [List.length_cons, List.length_nil]; omega)) ?_
  refine Ho.back ?_
  refine Ho.take (i := 10) SC Pp.body rfl (by kernel_rfl) (by kernel_rfl) (by kernel_rfl) rfl rfl ?_
  refine qflE rfl hOS fo93_1 rfl rfl rfl (fun _ => hOB.lt (by omega)) ?_
  refine Ho.back ?_
  refine Ho.take (i := 11) SC Pp.body rfl (by kernel_rfl) (by kernel_rfl) (by kernel_rfl) rfl rfl ?_
  refine qldE rfl hOS (fun _ S => S) T26 rfl rfl rfl (fun _ => hOB.k1 (by omega) hp1) ?_
  refine Ho.back ?_
  refine Ho.take (i := 12) SC Pp.body rfl (by kernel_rfl) (by kernel_rfl) (by kernel_rfl) rfl rfl ?_
  refine qlenS rfl hb1.2 Tryd.underlying26 rfl rfl rfl ?_
  refine Ho.back ?_
  refine Ho.take (i := 13) SC Pp.body rfl (by kernel_rfl) (by kernel_rfl) (by kernel_rfl) rfl rfl ?_
  refine qslC (lo := 0) (hi := (os.getD i o0).data.length) (mx := capV q) rfl hq e26 rfl rfl rfl (i1 := none) (i2 := some ((os.getD i o0).data.length)) (i3 := none) trivial ⟨_, _, _, rfl, rfl⟩ trivial rfl rfl rfl (fun h => by first | rfl | cases h) (fun _ => by have := hq.cap; rw [List.length_append] at *; omega) ?_
  refine Ho.back ?_
  refine Ho.take (i := 14) SC Pp.body rfl (by kernel_rfl) (by kernel_rfl) (by kernel_rfl) rfl rfl ?_
  refine qbld B93 (qs := [(_, _), (_, _)]) ⟨⟨_, _, _, rfl, rfl, rfl, rfl, by first | (simp [Value.cells]; done) | simp [Value.cells, encIP]⟩, ⟨_, _, _, rfl, rfl, cells1 hq.cutOne, rfl, List.cons_ne_nil _ _⟩, trivial⟩ rfl rfl rfl ?_
  refine Ho.back ?_
  refine Ho.one (i := 15) (by kernel_rfl) rfl rfl ?_
  refine bsl e25 (qs := [(_, _)]) ⟨⟨_, _, _, rfl, rfl, rfl, rfl, by first | (simp [Value.cells]; done) | simp [Value.cells, encIP]⟩, trivial⟩ rfl rfl rfl rfl S ?_
  intro u39 w5 S B_
  have SC := S.pick [false, true, false] rfl
  refine Ho.on SC ?_
  refine Ho.one (i := 16) (by kernel_rfl) rfl rfl ?_
  refine apO (i := 2) ((os.getD i o0).data) rfl rfl e25 (S.slI (i := 0) rfl) hqc.one hvl S rfl rfl (fun v' => rfl) (by omega) ?_
  intro u2 w6 S B_
  have SC := S.pick [false, true, false] rfl
  refine Ho.on SC ?_
  refine Ho.take (i := 17) SC Pp.body rfl (by kernel_rfl) (by kernel_rfl) (by kernel_rfl) rfl rfl ?_
  refine qasg rfl rfl rfl rfl ?_
  refine Ho.back ?_
  refine Ho.done (by kernel_rfl) ?_
  refine Nrm.blk ?_
  refine Nrm.code ?_
  refine Run.region ?_
  refine mv1 rfl rfl ?_
  refine add1 rfl rfl rfl (w64 (by omega)) ?_
  refine asg1 rfl rfl ?_
  refine Ro.nil ?_
  refine Nrm.loop6 (i + 1) (_) (_) (_) (_) (_) ⟨by omega, by simp [hvl], by rw [take_succ_getD (show i < os.length by omega) (d := o0), hacc], by simp [hvwl],
   fun N hN => ⟨((OSs.stN (sub_base hN1) S.drop0 (hvs N hN).1).snoc ((hqN N hN).cutM.stN (sub_base hN1) S.drop0)).weak mid_drop', by rw [take_succ_getD (show i < os.length by omega) (d := o0), List.map_append]; exact ((BSs.stN (sub_base hN1) S.drop0 (hvs N hN).2).snoc' ((hqN N hN).stN (sub_base hN1) S.drop0)).weak mid_drop'⟩, SL.tran hN1 S.drop0⟩ (by omega) ⟨rfl, rfl, rfl, rfl, trivial⟩
 ·
  try simp only [Bool.or_eq_true, Bool.and_eq_true, Bool.or_eq_false_iff, Bool.and_eq_false_iff, decide_eq_true_eq, decide_eq_false_iff_not, Bool.not_eq_true', Bool.not_eq_false', Bool.not_eq_true, Bool.not_eq_false] at hc4
  refine Run.exit ?_
  refine Lv.code ?_
  refine Lv.back ?_
  refine Lv.hit ?_
  refine Nrm.code ?_
  refine Run.seq ?_
  refine Run.region ?_
  have e : i = os.length := by omega
  subst e
  rw [List.take_length] at hacc
  rw [List.take_length] at hvs
  subst hacc
  obtain ⟨N2, hN2, S_2⟩ := S.reb
  have hOS := hOS.st S; rw [hN2] at hOS
  have hOB := hOB.st S; rw [hN2] at hOB
  have SS := S
  have S := S_2
  refine mv1 rfl rfl ?_
  refine bld B93 (qs := [(_, _)]) ⟨⟨_, _, _, rfl, rfl, rfl, rfl, by first | (simp [Value.cells]; done) | simp [Value.cells, encIP]⟩, trivial⟩ rfl rfl rfl ?_
  refine apOF (dt := []) rfl e25 (qs := [(_, _)]) ⟨⟨_, _, _, rfl, rfl, rfl, rfl, by first | (simp [Value.cells]; done) | simp [Value.cells, encIP]⟩, trivial⟩ rfl rfl hvl S (i := 1) rfl rfl rfl (fun t e => by cases e; rfl) (fun _ => rfl) (by first | omega | (simp only [List.length_nil, List.length_append, List.length_cons]; omega)) ?_
  intro u_ u9 w2 S B_
  refine asg1 rfl rfl ?_
  refine Ro.nil ?_
  refine Nrm.code ?_
  refine Run.seq ?_
  refine Run.region ?_
  refine mv1 rfl rfl ?_
  refine mv1 rfl rfl ?_
  refine asg1 rfl rfl ?_
  refine asg1 rfl rfl ?_
  refine Ro.nil ?_
  refine Nrm.code ?_
  refine Run.ret ?_
  refine Rt.two rfl rfl rfl ?_
  exact ⟨u9, vw, rfl, (SS.tran hN2 S).bl, fun N hN => ⟨⟨vs ++ [.slice none 0 0], Own.sl (S.hold_at (i := 1) rfl) N (fun j hj hn => by have h1 := (SS.tran hN2 S).fresh (i := 1) rfl j hj; have h2 := hN j hn; omega), OSs.snoc (o := ⟨99, []⟩) (BSs.weak (fun j hj => List.mem_append_right _ (List.mem_append_right _ hj)) (OSs.stN (sub_base hN2) S (hvs N hN).1)) (BS.nil _ _)⟩, ⟨vws, by rw [List.length_map, ← hvwl]; exact Own.sl (S.hold_at (i := 0) rfl) N (fun j hj hn => by have h1 := (SS.tran hN2 S).fresh (i := 0) rfl j hj; have h2 := hN j hn; omega), BSs.weak (fun j hj => List.mem_append_right _ (List.mem_append_right _ hj)) (BSs.stN (sub_base hN2) S (hvs N hN).2)⟩⟩⟩
set_option maxHeartbeats 1000000 in
theorem c153 (v vw u : Value) (ls : List Opt) (w : World) (hM : OS [] w v (ls ++ [⟨99, []⟩])) (hW : SS [] w vw (ls.map oM)) (hO : OS [] w u ls) (hl : ls.length ≤ 1099511627776) (hdl : ∀ o ∈ ls, o.data.length ≤ 1099511627776) :
  CallsD Tryd.prog 153 #[v, vw, u] w (.bool true) := by
 refine enter Tryd.func153 rfl Tryd.ntmps153 (l := [(0, [], _), (1, [], _), (2, [], _)]) rfl rfl ?_
 have S := St.refl [] w
 obtain ⟨ms, hMS, hMB⟩ := hM
 obtain ⟨ws, hWS, hWB⟩ := hW
 obtain ⟨ds, hOS, hOB⟩ := hO
 obtain ⟨pm, hpm, hbm⟩ := hMB.at (i := ls.length) (by simp)
 have hk : ((ls ++ [(⟨99, []⟩ : Opt)]).getD ls.length o0).kind = 99 := by simp [List.getD_eq_getElem?_getD]
 have hml : (ls ++ [(⟨99, []⟩ : Opt)]).length = ls.length + 1 := by simp
 have htk : (ls ++ [(⟨99, []⟩ : Opt)]).take ls.length = ls := by simp
 refine Run.seq ?_
 refine Run.region ?_
 refine asg1 rfl rfl ?_
 refine Ro.nil ?_
 refine Nrm.code ?_
 refine Run.seq ?_
 refine Run.region ?_
 refine mv1 rfl rfl ?_
 refine lenS rfl hOS Tryd.underlying25 rfl rfl rfl ?_
 refine asg1 rfl rfl ?_
 refine Ro.nil ?_
 refine Nrm.code ?_
 refine Run.seq ?_
 refine Run.seq ?_
 refine Run.region ?_
 refine mv1 rfl rfl ?_
 refine lenS rfl hMS Tryd.underlying25 rfl rfl rfl ?_
 refine mv1 rfl rfl ?_
 refine add1 rfl rfl rfl (w64 (by omega)) ?_
 refine neq1 rfl rfl rfl ?_
 refine mv1 rfl rfl ?_
 refine mv rfl rfl rfl rfl ?_
 refine mv rfl rfl rfl rfl ?_
 refine ixa rfl rfl hMS e25 rfl rfl rfl rfl (fun _ => by rw [hml]; omega) ?_
 refine flE rfl hMS fo93_0 rfl rfl rfl (fun hG => by first | exact hMB.lt (by simp) | (simp [allT] at hG; exact hMB.lt (by simp))) ?_
 refine ldE rfl hMS S T3 rfl rfl rfl (fun hG => by first | exact hMB.k0 (by simp) hpm | (simp [allT] at hG; exact hMB.k0 (by simp) hpm)) ?_
 refine neq rfl rfl rfl rfl rfl rfl ?_
 refine pkO rfl rfl rfl rfl rfl rfl ?_
 refine mv1 rfl rfl ?_
 refine mv rfl rfl rfl rfl ?_
 refine mv rfl rfl rfl rfl ?_
 refine slS (lo := 0) (hi := ls.length) (mx := capV v) rfl hMS e25 rfl rfl rfl (i1 := none) (i2 := some ls.length) (i3 := none) trivial ⟨_, _, _, rfl, rfl⟩ trivial rfl rfl rfl (fun h => by first | rfl | cases h) (fun _ => by have := hMS.cap; rw [List.length_append] at *; omega) ?_
 intro vc hvc
 refine mv rfl rfl rfl rfl ?_
 refine calg (vs := [_, _]) rfl ⟨⟨_, _, rfl, rfl⟩, ⟨_, _, rfl, rfl⟩, trivial⟩ k46 rfl (fun hG => by have h46 := c46 _ _ _ _ _ ((OS.take hMB hMB.len (by rw [hml]; omega) (hvc hG).1).now S) (OS.now ⟨ds, hOS, hOB⟩ S) (by rw [htk]; exact hl); rw [htk, sameOs_iff.2 rfl] at h46; exact h46) ?_
 intro w1 B_; have S := S.call B_
 refine nt rfl rfl rfl rfl ?_
 refine pkO rfl rfl rfl rfl rfl rfl ?_
 refine Ro.nil ?_
 refine Nrm.code ?_
 refine Run.cond rfl (fun hc2 => ?_) (fun hc2 => ?_)
 ·
  try simp only [Bool.or_eq_true, Bool.and_eq_true, Bool.or_eq_false_iff, Bool.and_eq_false_iff, decide_eq_true_eq, decide_eq_false_iff_not, Bool.not_eq_true', Bool.not_eq_false', Bool.not_eq_true, Bool.not_eq_false] at hc2
  exfalso; (rcases hc2 with (h | h) | h <;> first | (exact h (by rw [hml]; omega)) | (exact h hk) | (simp at h))
 ·
  try simp only [Bool.or_eq_true, Bool.and_eq_true, Bool.or_eq_false_iff, Bool.and_eq_false_iff, decide_eq_true_eq, decide_eq_false_iff_not, Bool.not_eq_true', Bool.not_eq_false', Bool.not_eq_true, Bool.not_eq_false] at hc2
  refine Run.skip ?_
  refine Nrm.code ?_
  refine Run.seq ?_
  refine Run.seq ?_
  refine Run.region ?_
  refine asg1 rfl rfl ?_
  refine Ro.nil ?_
  refine Nrm.code ?_
  refine Run.block ?_
  refine Run.loop1 (fun (i : Nat) w_ => i ≤ ls.length ∧ St [] w [] w_) (fun (i : Nat) => [(1, [], vw), (2, [], u), (7, [], .int .i64 ls.length), (8, [], .int .i64 i)]) (fun (i : Nat) => ls.length - i) (0) ⟨Nat.zero_le _, S⟩ ⟨rfl, rfl, rfl, rfl, trivial⟩ ?_
  rintro i w2 ⟨hi, S⟩
  refine Run.seq ?_
  refine Run.seq ?_
  refine Run.region ?_
  refine mv1 rfl rfl ?_
  refine mv1 rfl rfl ?_
  refine lss1 rfl rfl rfl ?_
  refine Ro.nil ?_
  refine Nrm.code ?_
  refine Run.cond rfl (fun hc5 => ?_) (fun hc5 => ?_)
  ·
   try simp only [Bool.or_eq_true, Bool.and_eq_true, Bool.or_eq_false_iff, Bool.and_eq_false_iff, decide_eq_true_eq, decide_eq_false_iff_not, Bool.not_eq_true', Bool.not_eq_false', Bool.not_eq_true, Bool.not_eq_false] at hc5
   refine Run.skip ?_
   refine Nrm.code ?_
   refine Run.seq ?_
   refine Run.block ?_
   refine Run.seq ?_
   refine Run.draw (by kernel_rfl) (by kernel_rfl) S ?_
   obtain ⟨pw, hpw, hbw⟩ := hWB.at (i := i) (by rw [List.length_map]; omega)
   obtain ⟨pl, hpl, hbl⟩ := hOB.at (i := i) (by omega)
   rw [show (ls.map oM).getD i [] = (ls.getD i o0).data ++ marks from by simp [List.getD_eq_getElem?_getD, List.getElem?_map, List.getElem?_eq_getElem (show i < ls.length by omega)]] at hbw
   refine qmv rfl rfl rfl rfl ?_
   refine qmv rfl rfl rfl rfl ?_
   refine qixa rfl rfl hWS e102 rfl rfl rfl rfl (fun _ => by rw [List.length_map]; omega) ?_
   refine qldE rfl hWS (fun _ S => S) T26 rfl rfl rfl (fun _ => by simpa using hpw) ?_
   refine qmv rfl rfl rfl rfl ?_
   refine qmv rfl rfl rfl rfl ?_
   refine qixa rfl rfl hOS e25 rfl rfl rfl rfl (fun _ => by first | omega | (simp only [List.length_cons, List.length_nil]; omega)) ?_
   refine qflE rfl hOS fo93_1 rfl rfl rfl (fun _ => hOB.lt (by omega)) ?_
   refine qldE rfl hOS (fun _ S => S) T26 rfl rfl rfl (fun _ => hOB.k1 (by omega) hpl) ?_
   refine qcal (vs := [_, _]) rfl ⟨⟨_, _, rfl, rfl⟩, ⟨_, _, rfl, rfl⟩, trivial⟩ k68 rfl (fun _ _ S B => S.call B) (fun hG w_ S => c68 _ _ _ _ _ (hbw.now S) (hbl.now S) (by have := hdl _ (getD_mem' (d := o0) (show i < ls.length by omega)); omega)) ?_
   refine qasg rfl rfl rfl rfl ?_
   refine Qo.nil (fun w3 S => ?_)
   refine Nrm.code ?_
   refine Run.seq ?_
   refine Run.region ?_
   refine mv1 rfl rfl ?_
   refine nt1 rfl rfl ?_
   refine Ro.nil ?_
   refine Nrm.code ?_
   refine Run.cond rfl (fun hc8 => ?_) (fun hc8 => ?_)
   ·
    try simp only [Bool.or_eq_true, Bool.and_eq_true, Bool.or_eq_false_iff, Bool.and_eq_false_iff, decide_eq_true_eq, decide_eq_false_iff_not, Bool.not_eq_true', Bool.not_eq_false', Bool.not_eq_true, Bool.not_eq_false] at hc8
    exfalso; simp at hc8
   ·
    try simp only [Bool.or_eq_true, Bool.and_eq_true, Bool.or_eq_false_iff, Bool.and_eq_false_iff, decide_eq_true_eq, decide_eq_false_iff_not, Bool.not_eq_true', Bool.not_eq_false', Bool.not_eq_true, Bool.not_eq_false] at hc8
    refine Run.skip ?_
    refine Nrm.blk ?_
    refine Nrm.code ?_
    refine Run.region ?_
    refine mv1 rfl rfl ?_
    refine add1 rfl rfl rfl (w64 (by omega)) ?_
    refine asg1 rfl rfl ?_
    refine Ro.nil ?_
    refine Nrm.loop1 (i + 1) ⟨by omega, S⟩ (by omega) ⟨rfl, rfl, rfl, rfl, trivial⟩
  ·
   try simp only [Bool.or_eq_true, Bool.and_eq_true, Bool.or_eq_false_iff, Bool.and_eq_false_iff, decide_eq_true_eq, decide_eq_false_iff_not, Bool.not_eq_true', Bool.not_eq_false', Bool.not_eq_true, Bool.not_eq_false] at hc5
   refine Run.exit ?_
   refine Lv.code ?_
   refine Lv.back ?_
   refine Lv.hit ?_
   refine Nrm.code ?_
   refine Run.seq ?_
   refine Run.region ?_
   refine asg1 rfl rfl ?_
   refine Ro.nil ?_
   refine Nrm.code ?_
   refine Run.ret ?_
   refine Rt.one rfl rfl ?_
   exact ⟨rfl, S.bl⟩
set_option maxHeartbeats 1000000 in
theorem c119 (p : Op9) (vB ud to_ td vL : Value) (w : World) (hB : BS [] w vB p.b) (hl : p.b.length ≤ 1099511627000) (hs : p.s.ok) (ht : p.d.ok) (hg1 : GV [] w 1 163 (W16.map i64)) (hg2 : GV [] w 2 166 (W10.map i64)) (hg3 : GV [] w 3 183 (lenT.map u64)) :
  CallsD Tryd.prog 119 #[.agg (encOp9 p vB ud to_ td vL).toArray] w (.bool true) := by
 refine enter Tryd.func119 rfl Tryd.ntmps119 (l := [(0, [], _)]) rfl rfl ?_
 have S := St.refl [] w
 have htl := topt_len0 p.b
 have hte := tE_or p.b
 refine Run.seq ?_
 refine Run.region ?_
 refine boxA rfl S rfl ?_
 intro b1 w1 hb1 S B_
 refine asg1 rfl rfl ?_
 refine Ro.nil ?_
 refine Nrm.code ?_
 refine Run.seq ?_
 refine Run.region ?_
 refine fld (o' := 35) rfl fo158_3 rfl rfl rfl rfl ?_
 refine ld1 rfl T26 S (i := 0) rfl rfl rfl rfl rfl ?_
 refine call (vs := [_]) ⟨⟨_, _, rfl, rfl⟩, trivial⟩ k66 rfl (c66 _ _ _ (hB.now S) (by omega)) ?_
 rintro u3 w2 hF
 have S := S.fb hF
 have hby_u3 : byt (_ ++ marks) := byt_app hB.1 marks_byt
 obtain ⟨hu3, S⟩ := S.layBI (i := 0) rfl rfl hby_u3
 obtain ⟨N1, hN1, S_1⟩ := S.reb
 have hB := hB.st S; rw [hN1] at hB
 have hg1 := hg1.st S; rw [hN1] at hg1
 have hg2 := hg2.st S; rw [hN1] at hg2
 have hg3 := hg3.st S; rw [hN1] at hg3
 rw [hN1] at hu3
 have SS := S
 have S := S_1
 refine asg1 rfl rfl ?_
 refine Ro.nil ?_
 refine Nrm.code ?_
 refine Run.seq ?_
 refine Run.region ?_
 refine mv1 rfl rfl ?_
 refine fld (o' := 35) rfl fo158_3 rfl rfl rfl rfl ?_
 refine ld1 rfl T26 S (i := 0) rfl rfl rfl rfl rfl ?_
 refine lenS rfl hB.2 Tryd.underlying26 rfl rfl rfl ?_
 refine slC (lo := 0) (hi := p.b.length) (mx := capV u3) rfl hu3 e26 rfl rfl rfl (i1 := none) (i2 := some (p.b.length)) (i3 := none) trivial ⟨_, _, _, rfl, rfl⟩ trivial rfl rfl rfl (fun h => by first | rfl | cases h) (fun _ => by have := hu3.cap; rw [List.length_append] at *; omega) ?_
 have hd4 := hu3.cutM
 refine asg1 rfl rfl ?_
 refine Ro.nil ?_
 refine Nrm.code ?_
 refine Run.seq ?_
 refine Run.region ?_
 refine asg1 rfl rfl ?_
 refine Ro.nil ?_
 refine Nrm.code ?_
 refine Run.seq ?_
 refine Run.seq ?_
 refine Run.region ?_
 refine fld (o' := 0) rfl fo158_0 rfl rfl rfl rfl ?_
 refine ld1 rfl T3 S (i := 0) rfl rfl rfl rfl rfl ?_
 refine Ro.nil ?_
 refine Nrm.code ?_
 refine Run.block ?_
 refine Run.seq ?_
 refine Run.region ?_
 refine eql1 rfl rfl rfl ?_
 refine asg1 rfl rfl ?_
 refine Ro.nil ?_
 refine Nrm.code ?_
 refine Run.cond rfl (fun hc5 => ?_) (fun hc5 => ?_)
 ·
  try simp only [Bool.or_eq_true, Bool.and_eq_true, Bool.or_eq_false_iff, Bool.and_eq_false_iff, decide_eq_true_eq, decide_eq_false_iff_not, Bool.not_eq_true', Bool.not_eq_false', Bool.not_eq_true, Bool.not_eq_false] at hc5
  refine Run.seq ?_
  refine Run.region ?_
  refine fld (o' := 1) rfl fo158_1 rfl rfl rfl rfl ?_
  refine ldA (cs := encIP p.s) rfl T24 S (i := 0) rfl rfl rfl (by decide) rfl rfl rfl ?_
  refine fld (o' := 18) rfl fo158_2 rfl rfl rfl rfl ?_
  refine ldA (cs := encIP p.d) rfl T24 S (i := 0) rfl rfl rfl (by decide) rfl rfl rfl ?_
  refine mv1 rfl rfl ?_
  refine call (vs := [_, _, _]) ⟨⟨_, _, rfl, rfl⟩, ⟨_, _, rfl, rfl⟩, ⟨_, _, rfl, rfl⟩, trivial⟩ k57 rfl (c57 p.s p.d _ _ _ hs ht (hd4.now S) (hg1.now S)) ?_
  rintro _ w3 ⟨d6, rfl, B1, hw_⟩
  have S := S.call B1
  have hd6 := hw_ _ _ hd4
  refine mv1 rfl rfl ?_
  refine extr1 rfl rfl rfl ?_
  refine extr1 rfl rfl rfl ?_
  refine alc T73 S rfl ?_
  intro b6 w4 hb6 S B_
  refine stW rfl rfl T73 rfl rfl (one_cons rfl (one_cons rfl (one_cons rfl (one_cons hd6.one one_nil)))) S (i := 0) rfl rfl ?_
  intro w5 S
  refine asg1 rfl rfl ?_
  refine Ro.nil ?_
  refine Nrm.code ?_
  refine Run.seq ?_
  refine Run.region ?_
  refine fld (o' := 1) rfl fo158_1 rfl rfl rfl rfl ?_
  refine ldA (cs := encIP p.s) rfl T24 S (i := 1) rfl rfl rfl (by decide) rfl rfl rfl ?_
  refine fld (o' := 18) rfl fo158_2 rfl rfl rfl rfl ?_
  refine ldA (cs := encIP p.d) rfl T24 S (i := 1) rfl rfl rfl (by decide) rfl rfl rfl ?_
  refine fld (o' := 35) rfl fo158_3 rfl rfl rfl rfl ?_
  refine ld1 rfl T26 S (i := 1) rfl rfl rfl rfl rfl ?_
  have S0 := S
  refine call (vs := [_, _, _]) ⟨⟨_, _, rfl, rfl⟩, ⟨_, _, rfl, rfl⟩, ⟨_, _, rfl, rfl⟩, trivial⟩ k76 rfl (c76 p.s p.d _ _ _ hs ht (hB.now S)) ?_
  rintro _ w6 ⟨d8, rfl, B1, hq_⟩
  have S := S.call B1
  have hd8 := hq_ _ S0.lt
  obtain ⟨N2, hN2, S_2⟩ := S.reb
  have hB := hB.st S; rw [hN2] at hB
  have hg1 := hg1.st S; rw [hN2] at hg1
  have hg2 := hg2.st S; rw [hN2] at hg2
  have hg3 := hg3.st S; rw [hN2] at hg3
  have hu3 := hu3.st S; rw [hN2] at hu3
  have hd4 := hd4.st S; rw [hN2] at hd4
  have hd6 := hd6.st S; rw [hN2] at hd6
  rw [hN2] at hd8
  have SS := SS.tran hN1 S
  have S := S_2
  refine mv1 rfl rfl ?_
  refine extr1 rfl rfl rfl ?_
  refine extr1 rfl rfl rfl ?_
  refine alc T73 S rfl ?_
  intro b8 w7 hb8 S B_
  refine stW rfl rfl T73 rfl rfl (one_cons rfl (one_cons rfl (one_cons rfl (one_cons hd8.one one_nil)))) S (i := 0) rfl rfl ?_
  intro w8 S
  refine asg1 rfl rfl ?_
  refine Ro.nil ?_
  refine Nrm.code ?_
  refine Run.region ?_
  refine mv1 rfl rfl ?_
  refine calg (vs := [_]) rfl ⟨⟨_, _, rfl, rfl⟩, trivial⟩ k56 rfl (fun hG => c56 (udpE p.s p.d p.b) _ (by have := udpE_bd p.s p.d p.b; omega)) ?_
  intro w9 B_; have S := S.call B_
  refine mv1 rfl rfl ?_
  refine eql1 rfl rfl rfl ?_
  refine mv1 rfl rfl ?_
  refine ldW rfl T73 S (i := 1) rfl rfl rfl rfl rfl ?_
  refine ldW rfl T73 S (i := 0) rfl rfl rfl rfl rfl ?_
  refine calg (vs := [_, _]) rfl ⟨⟨_, _, rfl, rfl⟩, ⟨_, _, rfl, rfl⟩, trivial⟩ k59 rfl (fun hG => c59 (udpU p.s p.d p.b) (udpU p.s p.d p.b) _ _ _ (hd6.now S) (hd8.now S)) ?_
  intro w10 B_; have S := S.call B_
  refine pkA rfl rfl rfl rfl rfl rfl ?_
  refine asg1 rfl rfl ?_
  refine Ro.nil ?_
  refine Nrm.blk ?_
  refine Nrm.code ?_
  refine Run.seq ?_
  refine Run.region ?_
  refine mv1 rfl rfl ?_
  refine mv1 rfl rfl ?_
  refine mv rfl rfl rfl rfl ?_
  refine fld (o' := 35) rfl fo158_3 rfl rfl rfl rfl ?_
  refine ld1 rfl T26 S (i := 2) rfl rfl rfl rfl rfl ?_
  refine calg (vs := [_, _]) rfl ⟨⟨_, _, rfl, rfl⟩, ⟨_, _, rfl, rfl⟩, trivial⟩ k68 rfl (fun hG => c68 _ _ _ _ _ (hu3.now S) (hB.now S) (by omega)) ?_
  intro w11 B_; have S := S.call B_
  refine pkA rfl rfl rfl rfl rfl rfl ?_
  refine asg1 rfl rfl ?_
  refine Ro.nil ?_
  refine Nrm.code ?_
  refine Run.ret ?_
  refine Rt.one rfl rfl ?_
  exact ⟨by simp [sameU_refl, sameT_refl, sameOs_refl], (SS.tran hN2 S).bl⟩
 ·
  try simp only [Bool.or_eq_true, Bool.and_eq_true, Bool.or_eq_false_iff, Bool.and_eq_false_iff, decide_eq_true_eq, decide_eq_false_iff_not, Bool.not_eq_true', Bool.not_eq_false', Bool.not_eq_true, Bool.not_eq_false] at hc5
  refine Run.seq ?_
  refine Run.region ?_
  refine eql1 rfl rfl rfl ?_
  refine asg1 rfl rfl ?_
  refine Ro.nil ?_
  refine Nrm.code ?_
  refine Run.cond rfl (fun hc9 => ?_) (fun hc9 => ?_)
  ·
   try simp only [Bool.or_eq_true, Bool.and_eq_true, Bool.or_eq_false_iff, Bool.and_eq_false_iff, decide_eq_true_eq, decide_eq_false_iff_not, Bool.not_eq_true', Bool.not_eq_false', Bool.not_eq_true, Bool.not_eq_false] at hc9
   refine Run.seq ?_
   refine Run.region ?_
   refine fld (o' := 1) rfl fo158_1 rfl rfl rfl rfl ?_
   refine ldA (cs := encIP p.s) rfl T24 S (i := 0) rfl rfl rfl (by decide) rfl rfl rfl ?_
   refine fld (o' := 18) rfl fo158_2 rfl rfl rfl rfl ?_
   refine ldA (cs := encIP p.d) rfl T24 S (i := 0) rfl rfl rfl (by decide) rfl rfl rfl ?_
   refine mv1 rfl rfl ?_
   refine call (vs := [_, _, _]) ⟨⟨_, _, rfl, rfl⟩, ⟨_, _, rfl, rfl⟩, ⟨_, _, rfl, rfl⟩, trivial⟩ k62 rfl (c62 p.s p.d _ _ _ hs ht (hd4.now S) (hg2.now S) (hg3.now S)) ?_
   rintro _ w3 ⟨o10, d10, vs10, rfl, hF, hw_⟩
   have S := S.fo hF
   have hd10 := (hw_ _ _ hd4).2
   have ho_ := (hw_ _ _ hd4).1
   obtain ⟨ho10, S⟩ := S.layOI (i := 0) rfl rfl ho_
   obtain ⟨N3, hN3, S_3⟩ := S.reb
   have hB := hB.st S; rw [hN3] at hB
   have hg1 := hg1.st S; rw [hN3] at hg1
   have hg2 := hg2.st S; rw [hN3] at hg2
   have hg3 := hg3.st S; rw [hN3] at hg3
   have hu3 := hu3.st S; rw [hN3] at hu3
   have hd4 := hd4.st S; rw [hN3] at hd4
   have hd10 := hd10.st S; rw [hN3] at hd10
   rw [hN3] at ho10
   have SS := SS.tran hN1 S
   have S := S_3
   refine mv1 rfl rfl ?_
   refine extr1 rfl rfl rfl ?_
   refine extr1 rfl rfl rfl ?_
   refine alc T82 S rfl ?_
   intro b10 w4 hb10 S B_
   refine stW rfl rfl T82 rfl rfl (one_cons rfl (one_cons rfl (one_cons rfl (one_cons rfl (one_cons rfl (one_cons rfl (one_cons rfl (one_cons ho10.one (one_cons hd10.one one_nil))))))))) S (i := 0) rfl rfl ?_
   intro w5 S
   refine asg1 rfl rfl ?_
   refine Ro.nil ?_
   refine Nrm.code ?_
   refine Run.seq ?_
   refine Run.region ?_
   refine fld (o' := 1) rfl fo158_1 rfl rfl rfl rfl ?_
   refine ldA (cs := encIP p.s) rfl T24 S (i := 1) rfl rfl rfl (by decide) rfl rfl rfl ?_
   refine fld (o' := 18) rfl fo158_2 rfl rfl rfl rfl ?_
   refine ldA (cs := encIP p.d) rfl T24 S (i := 1) rfl rfl rfl (by decide) rfl rfl rfl ?_
   refine fld (o' := 35) rfl fo158_3 rfl rfl rfl rfl ?_
   refine ld1 rfl T26 S (i := 1) rfl rfl rfl rfl rfl ?_
   have S0 := S
   refine call (vs := [_, _, _]) ⟨⟨_, _, rfl, rfl⟩, ⟨_, _, rfl, rfl⟩, ⟨_, _, rfl, rfl⟩, trivial⟩ k77 rfl (c77 p.s p.d _ _ _ hs ht (hB.now S)) ?_
   rintro _ w6 ⟨o12, d12, rfl, B1, hq_⟩
   have S := S.call B1
   have ho12 := (hq_ _ S0.lt).1
   have hd12 := (hq_ _ S0.lt).2
   obtain ⟨N4, hN4, S_4⟩ := S.reb
   have hB := hB.st S; rw [hN4] at hB
   have hg1 := hg1.st S; rw [hN4] at hg1
   have hg2 := hg2.st S; rw [hN4] at hg2
   have hg3 := hg3.st S; rw [hN4] at hg3
   have hu3 := hu3.st S; rw [hN4] at hu3
   have hd4 := hd4.st S; rw [hN4] at hd4
   have hd10 := hd10.st S; rw [hN4] at hd10
   have ho10 := ho10.st S; rw [hN4] at ho10
   rw [hN4] at ho12
   rw [hN4] at hd12
   have SS := SS.tran hN3 S
   have S := S_4
   refine mv1 rfl rfl ?_
   refine extr1 rfl rfl rfl ?_
   refine extr1 rfl rfl rfl ?_
   refine alc T82 S rfl ?_
   intro b12 w7 hb12 S B_
   refine stW rfl rfl T82 rfl rfl (one_cons rfl (one_cons rfl (one_cons rfl (one_cons rfl (one_cons rfl (one_cons rfl (one_cons rfl (one_cons ho12.one (one_cons hd12.one one_nil))))))))) S (i := 0) rfl rfl ?_
   intro w8 S
   refine asg1 rfl rfl ?_
   refine Ro.nil ?_
   refine Nrm.code ?_
   refine Run.region ?_
   refine mv1 rfl rfl ?_
   refine calg (vs := [_]) rfl ⟨⟨_, _, rfl, rfl⟩, trivial⟩ k56 rfl (fun hG => c56 (tcpE p.s p.d p.b) _ (by have := tcpE_bd p.s p.d p.b; omega)) ?_
   intro w9 B_; have S := S.call B_
   refine mv1 rfl rfl ?_
   refine eql1 rfl rfl rfl ?_
   refine mv1 rfl rfl ?_
   refine ldW rfl T82 S (i := 1) rfl rfl rfl rfl rfl ?_
   refine ldW rfl T82 S (i := 0) rfl rfl rfl rfl rfl ?_
   refine calg (vs := [_, _]) rfl ⟨⟨_, _, rfl, rfl⟩, ⟨_, _, rfl, rfl⟩, trivial⟩ k63 rfl (fun hG => c63 (tcpT p.s p.d p.b) (tcpT p.s p.d p.b) _ _ _ _ _ (ho10.now S) (hd10.now S) (ho12.now S) (hd12.now S) (by have := (topt_len0 (tcpO p.b)).1; unfold tcpT; split <;> first | (show (tL (tcpO p.b)).length ≤ _; omega) | decide)) ?_
   intro w10 B_; have S := S.call B_
   refine pkA rfl rfl rfl rfl rfl rfl ?_
   refine asg1 rfl rfl ?_
   refine Ro.nil ?_
   refine Nrm.blk ?_
   refine Nrm.code ?_
   refine Run.seq ?_
   refine Run.region ?_
   refine mv1 rfl rfl ?_
   refine mv1 rfl rfl ?_
   refine mv rfl rfl rfl rfl ?_
   refine fld (o' := 35) rfl fo158_3 rfl rfl rfl rfl ?_
   refine ld1 rfl T26 S (i := 2) rfl rfl rfl rfl rfl ?_
   refine calg (vs := [_, _]) rfl ⟨⟨_, _, rfl, rfl⟩, ⟨_, _, rfl, rfl⟩, trivial⟩ k68 rfl (fun hG => c68 _ _ _ _ _ (hu3.now S) (hB.now S) (by omega)) ?_
   intro w11 B_; have S := S.call B_
   refine pkA rfl rfl rfl rfl rfl rfl ?_
   refine asg1 rfl rfl ?_
   refine Ro.nil ?_
   refine Nrm.code ?_
   refine Run.ret ?_
   refine Rt.one rfl rfl ?_
   exact ⟨by simp [sameU_refl, sameT_refl, sameOs_refl], (SS.tran hN4 S).bl⟩
  ·
   try simp only [Bool.or_eq_true, Bool.and_eq_true, Bool.or_eq_false_iff, Bool.and_eq_false_iff, decide_eq_true_eq, decide_eq_false_iff_not, Bool.not_eq_true', Bool.not_eq_false', Bool.not_eq_true, Bool.not_eq_false] at hc9
   refine Run.seq ?_
   refine Run.region ?_
   refine eql1 rfl rfl rfl ?_
   refine asg1 rfl rfl ?_
   refine Ro.nil ?_
   refine Nrm.code ?_
   refine Run.cond rfl (fun hc13 => ?_) (fun hc13 => ?_)
   ·
    try simp only [Bool.or_eq_true, Bool.and_eq_true, Bool.or_eq_false_iff, Bool.and_eq_false_iff, decide_eq_true_eq, decide_eq_false_iff_not, Bool.not_eq_true', Bool.not_eq_false', Bool.not_eq_true, Bool.not_eq_false] at hc13
    refine Run.seq ?_
    refine Run.region ?_
    refine mv1 rfl rfl ?_
    refine call (vs := [_]) ⟨⟨_, _, rfl, rfl⟩, trivial⟩ k67 rfl (c67 _ _ _ (hd4.now S) (hg3.now S)) ?_
    rintro _ w3 ⟨u14, vs, rfl, hF, hwin⟩
    have S := S.fo hF
    have ho_u14 := hwin _ _ hd4
    refine mv1 rfl rfl ?_
    refine extr1 rfl rfl rfl ?_
    refine extr1 rfl rfl rfl ?_
    refine asg1 rfl rfl ?_
    refine asg1 rfl rfl ?_
    refine Ro.nil ?_
    refine Nrm.code ?_
    refine Run.seq ?_
    refine Run.region ?_
    refine fld (o' := 35) rfl fo158_3 rfl rfl rfl rfl ?_
    refine ld1 rfl T26 S (i := 1) rfl rfl rfl rfl rfl ?_
    have S0 := S
    have SS0 := (SS.tran hN1 S)
    refine call (vs := [_]) ⟨⟨_, _, rfl, rfl⟩, trivial⟩ k78 rfl (c78 _ _ _ (hB.now S)) ?_
    rintro _ w4 ⟨o16, rfl, hFO⟩
    have S := S.call hFO.1
    have ho16 := hFO.2 _ S0.lt
    have ho16F := hFO.2 _ SS0.ltR
    obtain ⟨N5, hN5, S_5⟩ := S.reb
    have hB := hB.st S; rw [hN5] at hB
    have hg1 := hg1.st S; rw [hN5] at hg1
    have hg2 := hg2.st S; rw [hN5] at hg2
    have hg3 := hg3.st S; rw [hN5] at hg3
    have hu3 := hu3.st S; rw [hN5] at hu3
    have hd4 := hd4.st S; rw [hN5] at hd4
    have ho_u14 := ho_u14.st S; rw [hN5] at ho_u14
    rw [hN5] at ho16
    rw [hN5] at ho16F
    have SS := SS.tran hN1 S
    have S := S_5
    refine mv1 rfl rfl ?_
    refine extr1 rfl rfl rfl ?_
    refine extr1 rfl rfl rfl ?_
    refine asg1 rfl rfl ?_
    refine asg1 rfl rfl ?_
    refine Ro.nil ?_
    refine Nrm.code ?_
    refine Run.region ?_
    refine mv1 rfl rfl ?_
    refine calg (vs := [_]) rfl ⟨⟨_, _, rfl, rfl⟩, trivial⟩ k56 rfl (fun hG => c56 (tE p.b) _ (by have := tE_or p.b; omega)) ?_
    intro w5 B_; have S := S.call B_
    refine mv1 rfl rfl ?_
    refine eql1 rfl rfl rfl ?_
    refine mv1 rfl rfl ?_
    refine mv rfl rfl rfl rfl ?_
    refine mv rfl rfl rfl rfl ?_
    refine calg (vs := [_, _]) rfl ⟨⟨_, _, rfl, rfl⟩, ⟨_, _, rfl, rfl⟩, trivial⟩ k46 rfl (fun hG => c46 _ _ _ _ _ (S.osI (i := 0) rfl (ho_u14.now S)) (ho16.now S) (by omega)) ?_
    intro w6 B_; have S := S.call B_
    refine pkA rfl rfl rfl rfl rfl rfl ?_
    refine asg1 rfl rfl ?_
    refine Ro.nil ?_
    refine Nrm.blk ?_
    refine Nrm.code ?_
    refine Run.seq ?_
    refine Run.region ?_
    refine mv1 rfl rfl ?_
    refine mv1 rfl rfl ?_
    refine mv rfl rfl rfl rfl ?_
    refine fld (o' := 35) rfl fo158_3 rfl rfl rfl rfl ?_
    refine ld1 rfl T26 S (i := 1) rfl rfl rfl rfl rfl ?_
    refine calg (vs := [_, _]) rfl ⟨⟨_, _, rfl, rfl⟩, ⟨_, _, rfl, rfl⟩, trivial⟩ k68 rfl (fun hG => c68 _ _ _ _ _ (hu3.now S) (hB.now S) (by omega)) ?_
    intro w7 B_; have S := S.call B_
    refine pkA rfl rfl rfl rfl rfl rfl ?_
    refine asg1 rfl rfl ?_
    refine Ro.nil ?_
    refine Nrm.code ?_
    refine Run.ret ?_
    refine Rt.one rfl rfl ?_
    exact ⟨by simp [sameU_refl, sameT_refl, sameOs_refl], (SS.tran hN5 S).bl⟩
   ·
    try simp only [Bool.or_eq_true, Bool.and_eq_true, Bool.or_eq_false_iff, Bool.and_eq_false_iff, decide_eq_true_eq, decide_eq_false_iff_not, Bool.not_eq_true', Bool.not_eq_false', Bool.not_eq_true, Bool.not_eq_false] at hc13
    refine Run.skip ?_
    refine Nrm.blk ?_
    refine Nrm.code ?_
    refine Run.seq ?_
    refine Run.region ?_
    refine mv1 rfl rfl ?_
    refine mv1 rfl rfl ?_
    refine mv rfl rfl rfl rfl ?_
    refine fld (o' := 35) rfl fo158_3 rfl rfl rfl rfl ?_
    refine ld1 rfl T26 S (i := 0) rfl rfl rfl rfl rfl ?_
    refine calg (vs := [_, _]) rfl ⟨⟨_, _, rfl, rfl⟩, ⟨_, _, rfl, rfl⟩, trivial⟩ k68 rfl (fun hG => c68 _ _ _ _ _ (hu3.now S) (hB.now S) (by omega)) ?_
    intro w3 B_; have S := S.call B_
    refine pkA rfl rfl rfl rfl rfl rfl ?_
    refine asg1 rfl rfl ?_
    refine Ro.nil ?_
    refine Nrm.code ?_
    refine Run.ret ?_
    refine Rt.one rfl rfl ?_
    exact ⟨by simp [sameU_refl, sameT_refl, sameOs_refl], (SS.tran hN1 S).bl⟩
set_option maxHeartbeats 1000000 in
theorem c120 (p : Op9) (vB ud to_ td vL : Value) (w : World) (hud : BS [] w ud p.u.data) (hl : p.u.data.length ≤ 1099511627000) (hs : p.s.ok) (ht : p.d.ok) (hg1 : GV [] w 1 163 (W16.map i64)) (hg2 : GV [] w 2 166 (W10.map i64)) (hg3 : GV [] w 3 183 (lenT.map u64)) :
  CallsD Tryd.prog 120 #[.agg (encOp9 p vB ud to_ td vL).toArray] w (.bool true) := by
 refine enter Tryd.func120 rfl Tryd.ntmps120 (l := [(0, [], _)]) rfl rfl ?_
 have S := St.refl [] w
 have hpb := putUE_bd p.s p.d p.u
 have hcb := chkU_bd p.n p.u
 refine Run.seq ?_
 refine Run.region ?_
 refine boxA rfl S rfl ?_
 intro b1 w1 hb1 S B_
 refine asg1 rfl rfl ?_
 refine Ro.nil ?_
 refine Nrm.code ?_
 refine Run.seq ?_
 refine Run.region ?_
 refine fld (o' := 36) rfl fo158_4 rfl rfl rfl rfl ?_
 refine ldA (cs := encUdp p.u ud) rfl T73 S (i := 0) rfl rfl rfl (by decide) rfl rfl rfl ?_
 refine alc T73 S rfl ?_
 intro b3 w2 hb3 S B_
 refine stW rfl rfl T73 rfl rfl (one_cons rfl (one_cons rfl (one_cons rfl (one_cons hud.one one_nil)))) S (i := 0) rfl rfl ?_
 intro w3 S
 refine Ro.nil ?_
 refine Nrm.code ?_
 refine Run.seq ?_
 refine Run.region ?_
 refine fld (o' := 3) rfl fo73_3 rfl rfl rfl rfl ?_
 refine ld1 rfl T26 S (i := 0) rfl rfl rfl rfl rfl ?_
 refine call (vs := [_]) ⟨⟨_, _, rfl, rfl⟩, trivial⟩ k66 rfl (c66 _ _ _ (hud.now S) (by omega)) ?_
 rintro u4 w4 hF
 have S := S.fb hF
 have hby_u4 : byt (_ ++ marks) := byt_app hud.1 marks_byt
 obtain ⟨hu4, S⟩ := S.layBI (i := 0) rfl rfl hby_u4
 obtain ⟨N1, hN1, S_1⟩ := S.reb
 have hud := hud.st S; rw [hN1] at hud
 have hg1 := hg1.st S; rw [hN1] at hg1
 have hg2 := hg2.st S; rw [hN1] at hg2
 have hg3 := hg3.st S; rw [hN1] at hg3
 rw [hN1] at hu4
 have SS := S
 have S := S_1
 refine asg1 rfl rfl ?_
 refine Ro.nil ?_
 refine Nrm.code ?_
 refine Run.seq ?_
 refine Run.region ?_
 refine mv1 rfl rfl ?_
 refine fld (o' := 36) rfl fo158_4 rfl rfl rfl rfl ?_
 refine fld (o' := 39) rfl fo73_3 rfl rfl rfl rfl ?_
 refine ld1 rfl T26 S (i := 1) rfl rfl rfl rfl rfl ?_
 refine lenS rfl hud.2 Tryd.underlying26 rfl rfl rfl ?_
 refine slC (lo := 0) (hi := p.u.data.length) (mx := capV u4) rfl hu4 e26 rfl rfl rfl (i1 := none) (i2 := some (p.u.data.length)) (i3 := none) trivial ⟨_, _, _, rfl, rfl⟩ trivial rfl rfl rfl (fun h => by first | rfl | cases h) (fun _ => by have := hu4.cap; rw [List.length_append] at *; omega) ?_
 have hd4 := hu4.cutM
 refine fld (o' := 3) rfl fo73_3 rfl rfl rfl rfl ?_
 refine st1 rfl rfl T26 hd4.one S (i := 0) rfl rfl rfl ?_
 intro w5 S
 have S : St _ _ [.var b3 73 (encUdp p.u (cut u4 0 p.u.data.length (capV u4))), _] w5 := S
 refine Ro.nil ?_
 refine Nrm.code ?_
 refine Run.seq ?_
 refine Run.region ?_
 refine asg1 rfl rfl ?_
 refine Ro.nil ?_
 refine Nrm.code ?_
 refine Run.seq ?_
 refine Run.seq ?_
 refine Run.region ?_
 refine fld (o' := 0) rfl fo158_0 rfl rfl rfl rfl ?_
 refine ld1 rfl T3 S (i := 1) rfl rfl rfl rfl rfl ?_
 refine eql1 rfl rfl rfl ?_
 refine Ro.nil ?_
 refine Nrm.code ?_
 refine Run.cond rfl (fun hc5 => ?_) (fun hc5 => ?_)
 ·
  try simp only [Bool.or_eq_true, Bool.and_eq_true, Bool.or_eq_false_iff, Bool.and_eq_false_iff, decide_eq_true_eq, decide_eq_false_iff_not, Bool.not_eq_true', Bool.not_eq_false', Bool.not_eq_true, Bool.not_eq_false] at hc5
  refine Run.seq ?_
  refine Run.region ?_
  refine fld (o' := 50) rfl fo158_7 rfl rfl rfl rfl ?_
  refine ld1 rfl T3 S (i := 1) rfl rfl rfl rfl rfl ?_
  refine ldW rfl T73 S (i := 0) rfl rfl rfl rfl rfl ?_
  refine calg (vs := [_, _]) rfl ⟨⟨_, _, rfl, rfl⟩, ⟨_, _, rfl, rfl⟩, trivial⟩ k60 rfl (fun hG => c60 _ p.u (cut u4 0 p.u.data.length (capV u4)) _ (hd4.now S) (by omega)) ?_
  intro w6 B_; have S := S.call B_
  refine asg1 rfl rfl ?_
  refine Ro.nil ?_
  refine Nrm.code ?_
  refine Run.draw (by kernel_rfl) (by kernel_rfl) S ?_
  refine qmv rfl rfl rfl rfl ?_
  refine qcal (vs := [_]) rfl ⟨⟨_, _, rfl, rfl⟩, trivial⟩ k56 rfl (fun _ _ S B => S.call B) (fun hG w_ S => c56 (chkU p.n p.u) _ (by have := chkU_bd p.n p.u; omega)) ?_
  refine qfld (o' := 50) rfl fo158_7 rfl rfl rfl rfl ?_
  refine qld1 rfl T3 (fun _ S => S) (i := 1) rfl rfl rfl rfl rfl ?_
  refine qfld (o' := 36) rfl fo158_4 rfl rfl rfl rfl ?_
  refine qldA (cs := encUdp p.u ud) rfl T73 (fun _ S => S) (i := 1) rfl rfl rfl (by decide) rfl rfl rfl ?_
  refine qcal (vs := [_, _]) rfl ⟨⟨_, _, rfl, rfl⟩, ⟨_, _, rfl, rfl⟩, trivial⟩ k85 rfl (fun _ _ S B => S.call B) (fun hG w_ S => c85 _ p.u ud _ (hud.now S) (by omega)) ?_
  refine qeql rfl rfl rfl rfl rfl rfl ?_
  refine qasg rfl rfl rfl rfl ?_
  refine Qo.nil (fun w7 S => ?_)
  refine Nrm.code ?_
  refine Run.seq ?_
  refine Run.region ?_
  refine mv1 rfl rfl ?_
  refine mv1 rfl rfl ?_
  refine ldW rfl T73 S (i := 0) rfl rfl rfl rfl rfl ?_
  refine fld (o' := 36) rfl fo158_4 rfl rfl rfl rfl ?_
  refine ldA (cs := encUdp p.u ud) rfl T73 S (i := 1) rfl rfl rfl (by decide) rfl rfl rfl ?_
  refine calg (vs := [_, _]) rfl ⟨⟨_, _, rfl, rfl⟩, ⟨_, _, rfl, rfl⟩, trivial⟩ k59 rfl (fun hG => c59 p.u p.u _ _ _ (hd4.now S) (hud.now S)) ?_
  intro w8 B_; have S := S.call B_
  refine pkA rfl rfl rfl rfl rfl rfl ?_
  refine mv1 rfl rfl ?_
  refine mv rfl rfl rfl rfl ?_
  refine fld (o' := 36) rfl fo158_4 rfl rfl rfl rfl ?_
  refine fld (o' := 39) rfl fo73_3 rfl rfl rfl rfl ?_
  refine ld1 rfl T26 S (i := 1) rfl rfl rfl rfl rfl ?_
  refine calg (vs := [_, _]) rfl ⟨⟨_, _, rfl, rfl⟩, ⟨_, _, rfl, rfl⟩, trivial⟩ k68 rfl (fun hG => c68 _ _ _ _ _ (hu4.now S) (hud.now S) (by omega)) ?_
  intro w9 B_; have S := S.call B_
  refine pkA rfl rfl rfl rfl rfl rfl ?_
  refine asg1 rfl rfl ?_
  refine Ro.nil ?_
  refine Nrm.code ?_
  refine Run.ret ?_
  refine Rt.one rfl rfl ?_
  exact ⟨by simp [sameU_refl, sameT_refl, sameOs_refl], (SS.tran hN1 S).bl⟩
 ·
  try simp only [Bool.or_eq_true, Bool.and_eq_true, Bool.or_eq_false_iff, Bool.and_eq_false_iff, decide_eq_true_eq, decide_eq_false_iff_not, Bool.not_eq_true', Bool.not_eq_false', Bool.not_eq_true, Bool.not_eq_false] at hc5
  refine Run.seq ?_
  refine Run.region ?_
  refine fld (o' := 1) rfl fo158_1 rfl rfl rfl rfl ?_
  refine ldA (cs := encIP p.s) rfl T24 S (i := 1) rfl rfl rfl (by decide) rfl rfl rfl ?_
  refine fld (o' := 18) rfl fo158_2 rfl rfl rfl rfl ?_
  refine ldA (cs := encIP p.d) rfl T24 S (i := 1) rfl rfl rfl (by decide) rfl rfl rfl ?_
  refine ldW rfl T73 S (i := 0) rfl rfl rfl rfl rfl ?_
  refine call (vs := [_, _, _]) ⟨⟨_, _, rfl, rfl⟩, ⟨_, _, rfl, rfl⟩, ⟨_, _, rfl, rfl⟩, trivial⟩ k55 rfl (c55 p.s p.d p.u _ _ hs ht (hd4.now S) (by omega) (hg1.now S)) ?_
  rintro _ w6 ⟨u7, rfl, hF⟩
  have S := S.fb hF
  refine mv1 rfl rfl ?_
  refine extr1 rfl rfl rfl ?_
  refine extr1 rfl rfl rfl ?_
  refine asg1 rfl rfl ?_
  refine asg1 rfl rfl ?_
  refine Ro.nil ?_
  refine Nrm.code ?_
  refine Run.seq ?_
  refine Run.region ?_
  refine fld (o' := 1) rfl fo158_1 rfl rfl rfl rfl ?_
  refine ldA (cs := encIP p.s) rfl T24 S (i := 2) rfl rfl rfl (by decide) rfl rfl rfl ?_
  refine fld (o' := 18) rfl fo158_2 rfl rfl rfl rfl ?_
  refine ldA (cs := encIP p.d) rfl T24 S (i := 2) rfl rfl rfl (by decide) rfl rfl rfl ?_
  refine fld (o' := 36) rfl fo158_4 rfl rfl rfl rfl ?_
  refine ldA (cs := encUdp p.u ud) rfl T73 S (i := 2) rfl rfl rfl (by decide) rfl rfl rfl ?_
  refine call (vs := [_, _, _]) ⟨⟨_, _, rfl, rfl⟩, ⟨_, _, rfl, rfl⟩, ⟨_, _, rfl, rfl⟩, trivial⟩ k80 rfl (c80 p.s p.d p.u _ _ hs ht (hud.now S) (by omega)) ?_
  rintro _ w7 ⟨u9, rfl, hF⟩
  have S := S.fb hF
  refine mv1 rfl rfl ?_
  refine extr1 rfl rfl rfl ?_
  refine extr1 rfl rfl rfl ?_
  refine asg1 rfl rfl ?_
  refine asg1 rfl rfl ?_
  refine Ro.nil ?_
  refine Nrm.code ?_
  refine Run.region ?_
  have hby_u7 := putUL_byt hs ht hud.1 (u := p.u)
  have hby_u9 := hby_u7
  refine mv1 rfl rfl ?_
  refine calg (vs := [_]) rfl ⟨⟨_, _, rfl, rfl⟩, trivial⟩ k56 rfl (fun hG => c56 (putUE p.s p.d p.u) _ (by have := putUE_bd p.s p.d p.u; omega)) ?_
  intro w8 B_; have S := S.call B_
  refine mv1 rfl rfl ?_
  refine eql1 rfl rfl rfl ?_
  refine mv1 rfl rfl ?_
  refine mv rfl rfl rfl rfl ?_
  refine mv rfl rfl rfl rfl ?_
  refine calg (vs := [_, _]) rfl ⟨⟨_, _, rfl, rfl⟩, ⟨_, _, rfl, rfl⟩, trivial⟩ k37 rfl (fun hG => c37 _ _ _ _ _ (S.bsI (i := 1) rfl hby_u7) (S.bsI (i := 0) rfl hby_u9)) ?_
  intro w9 B_; have S := S.call B_
  refine pkA rfl rfl rfl rfl rfl rfl ?_
  refine asg1 rfl rfl ?_
  refine Ro.nil ?_
  refine Nrm.code ?_
  refine Run.seq ?_
  refine Run.region ?_
  refine mv1 rfl rfl ?_
  refine mv1 rfl rfl ?_
  refine ldW rfl T73 S (i := 2) rfl rfl rfl rfl rfl ?_
  refine fld (o' := 36) rfl fo158_4 rfl rfl rfl rfl ?_
  refine ldA (cs := encUdp p.u ud) rfl T73 S (i := 3) rfl rfl rfl (by decide) rfl rfl rfl ?_
  refine calg (vs := [_, _]) rfl ⟨⟨_, _, rfl, rfl⟩, ⟨_, _, rfl, rfl⟩, trivial⟩ k59 rfl (fun hG => c59 p.u p.u _ _ _ (hd4.now S) (hud.now S)) ?_
  intro w10 B_; have S := S.call B_
  refine pkA rfl rfl rfl rfl rfl rfl ?_
  refine mv1 rfl rfl ?_
  refine mv rfl rfl rfl rfl ?_
  refine fld (o' := 36) rfl fo158_4 rfl rfl rfl rfl ?_
  refine fld (o' := 39) rfl fo73_3 rfl rfl rfl rfl ?_
  refine ld1 rfl T26 S (i := 3) rfl rfl rfl rfl rfl ?_
  refine calg (vs := [_, _]) rfl ⟨⟨_, _, rfl, rfl⟩, ⟨_, _, rfl, rfl⟩, trivial⟩ k68 rfl (fun hG => c68 _ _ _ _ _ (hu4.now S) (hud.now S) (by omega)) ?_
  intro w11 B_; have S := S.call B_
  refine pkA rfl rfl rfl rfl rfl rfl ?_
  refine asg1 rfl rfl ?_
  refine Ro.nil ?_
  refine Nrm.code ?_
  refine Run.ret ?_
  refine Rt.one rfl rfl ?_
  exact ⟨by simp [sameU_refl, sameT_refl, sameOs_refl], (SS.tran hN1 S).bl⟩
end Go.Proofs.YtkahmepenjhcpaaDoor.W
/- The walk of L4Clamped. No statement of the seat is proved here. -/
namespace Go.Proofs.YtkahmepenjhcpaaDoor.W
open Go
set_option linter.unusedSimpArgs false
set_option linter.unusedVariables false
end Go.Proofs.YtkahmepenjhcpaaDoor.W
