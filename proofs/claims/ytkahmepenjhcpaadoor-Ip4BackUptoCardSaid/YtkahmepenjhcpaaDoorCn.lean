/- Contracts: a datagram is read. No statement of the seat is proved here. -/
import Derived.Test.YtkahmepenjhcpaaDoorCm
import Derived.Test.YtkahmepenjhcpaaDoorSe
namespace Go.Proofs.YtkahmepenjhcpaaDoor.W
open Go
set_option linter.unusedSimpArgs false
set_option linter.unusedVariables false


def hdN (b : List Int) : Nat := (4 * (b.getD 0 0 % 16)).toNat
def totN (b : List Int) : Nat := (totI b).toNat
def optB4 (b : List Int) : List Int := (b.drop 20).take (hdN b - 20)
def parE (b : List Int) : Int :=
  if 65535 < b.length then 2 else if b.length < 20 then 60 else if b.getD 0 0 / 16 ≠ 4 then 61 else if hdN b < 20 ∨ b.length < hdN b then 62 else if totN b < hdN b ∨ b.length < totN b then 63
  else if sumS (b.take (hdN b)) ≠ 65535 then 64 else if optE (optB4 b) ≠ 0 then optE (optB4 b) else fragE (decide (b.getD 6 0 / 32 % 2 = 1)) (8 * offW b) ((totN b : Int) - hdN b)
def ip0 : IP := ⟨0, fun _ => 0⟩
def h00 : Ip4 := ⟨0, 0, false, false, 0, 0, 0, ip0, ip0, [], []⟩
def parG (b : List Int) : Ip4 := ⟨b.getD 1 0, b.getD 4 0 * 256 + b.getD 5 0, decide (b.getD 6 0 / 64 % 2 = 1), decide (b.getD 6 0 / 32 % 2 = 1), 8 * offW b, b.getD 8 0, b.getD 9 0, ipOf b 12, ipOf b 16, optL (optB4 b), (b.drop (hdN b)).take (totN b - hdN b)⟩
def parH (b : List Int) : Ip4 := if parE b = 0 then parG b else h00
theorem parH_err {b : List Int} {e : Int} (he : parE b = e) (h0 : e ≠ 0) : parH b = h00 := by unfold parH; rw [if_neg (by omega)]
theorem byt_at {b : List Int} (h : byt b) : ∀ k, 0 ≤ b.getD k 0 ∧ b.getD k 0 < 256 := byt_getD h
theorem getD_cut {b : List Int} {i m k : Nat} (hk : k < m) : ((b.drop i).take m).getD k 0 = b.getD (i + k) 0 := by
  rw [List.getD_eq_getElem?_getD, List.getElem?_take_of_lt hk, List.getElem?_drop, List.getD_eq_getElem?_getD]
theorem ipOf_cut (b : List Int) (i : Nat) : ipOf ((b.drop i).take (i + 4 - i)) 0 = ipOf b i := by
  have e : i + 4 - i = 4 := by omega
  unfold ipOf
  rw [e, getD_cut (by omega), getD_cut (by omega), getD_cut (by omega), getD_cut (by omega)]
  rfl
theorem c103at (v : Value) (l b : List Int) (k : Nat) (w : World) (hl : BS [] w v l) (h4 : l.length = 4) (e : ipOf l 0 = ipOf b k) : CallsD Tryd.prog 103 #[v] w (.agg (encIP (ipOf b k)).toArray) := e ▸ c103 v l w hl h4
theorem optE_le (b : List Int) : optE b = 0 ∨ optE b = 65 := by unfold optE; split <;> (try split) <;> simp

set_option maxHeartbeats 1000000 in
theorem c33 (v : Value) (b : List Int) (w : World) (hb : BS [] w v b) (hg : GV [] w 0 130 (W4.map i64)) :
    CallsV Tryd.prog 33 #[v] w (fun r w' => ∃ o d vs, r = .tuple #[.agg (encIp4 (parH b) o d).toArray, .int .i64 (parE b)] ∧ FO w w' o (parH b).opts vs ∧ ∀ N w1, BS N w1 v b → OSs N w1 vs (parH b).opts ∧ BS N w1 d (parH b).data) := by
  refine enter Tryd.func33 rfl Tryd.ntmps33 (l := [(0, [], _)]) rfl rfl ?_
  have S := St.refl [] w
  have hB := byt_at hb.1
  have hfl := fields_ip4 hB
  have g0 := hB 0
  have g2 := hB 2
  have g3 := hB 3
  have g6 := hB 6
  have g7 := hB 7
  have hH : 4 * (b.getD 0 0 % 16) = (hdN b : Int) := by unfold hdN; omega
  have hT : totI b = (totN b : Int) := by unfold totN totI; omega
  have hTb : totN b < 65536 := by unfold totN totI; omega
  have hHb : hdN b ≤ 60 := by omega
  rw [hT] at hfl
  have hwb : 0 ≤ offW b ∧ offW b < 8192 := by unfold offW; omega
  have hoe := optE_le (optB4 b)
  have ho4 : optE (optB4 b) = optE ((b.drop 20).take (hdN b - 20)) := rfl
  refine Run.seq ?_
  refine Run.region ?_
  refine alc T28 S rfl ?_
  intro b2 w1 hb2 S B_
  refine asg1 rfl rfl ?_
  refine Ro.nil ?_
  refine Nrm.code ?_
  refine Run.seq ?_
  refine Run.block ?_
  refine Run.seq ?_
  refine Run.region ?_
  refine mv1 rfl rfl ?_
  refine lenS rfl hb.2 Tryd.underlying26 rfl rfl rfl ?_
  refine gtr1 rfl rfl rfl ?_
  refine asg1 rfl rfl ?_
  refine Ro.nil ?_
  refine Nrm.code ?_
  refine Run.cond rfl (fun hc1 => ?_) (fun hc1 => ?_)
  ·
    try simp only [Bool.or_eq_true, Bool.and_eq_true, Bool.or_eq_false_iff, Bool.and_eq_false_iff, decide_eq_true_eq, decide_eq_false_iff_not, Bool.not_eq_true', Bool.not_eq_false', Bool.not_eq_true, Bool.not_eq_false] at hc1
    refine Run.seq ?_
    refine Run.region ?_
    refine bld B28 (qs := []) trivial rfl rfl rfl ?_
    refine stW rfl rfl T28 rfl rfl (by simp [Value.oneCell']) S (i := 0) rfl rfl ?_
    intro w2 S
    refine asg1 rfl rfl ?_
    refine Ro.nil ?_
    refine Nrm.code ?_
    refine Run.ret ?_
    refine Rt.cell2 rfl rfl rfl T28 S (i := 0) rfl rfl ?_
    have he : parE b = 2 := by
      unfold parE
      rw [if_pos (by omega)]
    exact ⟨.slice none 0 0, .slice none 0 0, [], by rw [parH_err he (by omega), he]; rfl, by rw [parH_err he (by omega)]; exact (S.nilO).toFO (i := 0) rfl, fun _ _ _ => by rw [parH_err he (by omega)]; exact ⟨trivial, BS.nil _ _⟩⟩
  ·
    try simp only [Bool.or_eq_true, Bool.and_eq_true, Bool.or_eq_false_iff, Bool.and_eq_false_iff, decide_eq_true_eq, decide_eq_false_iff_not, Bool.not_eq_true', Bool.not_eq_false', Bool.not_eq_true, Bool.not_eq_false] at hc1
    refine Run.seq ?_
    refine Run.region ?_
    refine mv1 rfl rfl ?_
    refine lenS rfl hb.2 Tryd.underlying26 rfl rfl rfl ?_
    refine lss1 rfl rfl rfl ?_
    refine asg1 rfl rfl ?_
    refine Ro.nil ?_
    refine Nrm.code ?_
    refine Run.cond rfl (fun hc3 => ?_) (fun hc3 => ?_)
    ·
      try simp only [Bool.or_eq_true, Bool.and_eq_true, Bool.or_eq_false_iff, Bool.and_eq_false_iff, decide_eq_true_eq, decide_eq_false_iff_not, Bool.not_eq_true', Bool.not_eq_false', Bool.not_eq_true, Bool.not_eq_false] at hc3
      refine Run.seq ?_
      refine Run.region ?_
      refine bld B28 (qs := []) trivial rfl rfl rfl ?_
      refine stW rfl rfl T28 rfl rfl (by simp [Value.oneCell']) S (i := 0) rfl rfl ?_
      intro w2 S
      refine asg1 rfl rfl ?_
      refine Ro.nil ?_
      refine Nrm.code ?_
      refine Run.ret ?_
      refine Rt.cell2 rfl rfl rfl T28 S (i := 0) rfl rfl ?_
      have he : parE b = 60 := by
        unfold parE
        rw [if_neg (by omega), if_pos (by omega)]
      exact ⟨.slice none 0 0, .slice none 0 0, [], by rw [parH_err he (by omega), he]; rfl, by rw [parH_err he (by omega)]; exact (S.nilO).toFO (i := 0) rfl, fun _ _ _ => by rw [parH_err he (by omega)]; exact ⟨trivial, BS.nil _ _⟩⟩
    ·
      try simp only [Bool.or_eq_true, Bool.and_eq_true, Bool.or_eq_false_iff, Bool.and_eq_false_iff, decide_eq_true_eq, decide_eq_false_iff_not, Bool.not_eq_true', Bool.not_eq_false', Bool.not_eq_true, Bool.not_eq_false] at hc3
      refine Run.skip ?_
      refine Nrm.blk ?_
      refine Nrm.code ?_
      refine Run.seq ?_
      refine Run.region ?_
      refine ldG hg S T130 rfl rfl ?_
      refine alc T130 S rfl ?_
      intro b4 w2 hb4 S B_
      refine stW rfl rfl T130 rfl rfl (by simp [Value.oneCell']) S (i := 0) rfl rfl ?_
      intro w3 S
      refine Ro.nil ?_
      refine Nrm.code ?_
      refine Run.seq ?_
      refine Run.region ?_
      refine mv1 rfl rfl ?_
      refine slAT rfl Tryd.underlying130 T3 rfl rfl rfl (i2 := none) trivial rfl (by decide) (by decide) ?_
      refine call (vs := [_, _, _]) ⟨⟨_, _, rfl, rfl⟩, ⟨_, _, rfl, rfl⟩, ⟨_, _, rfl, rfl⟩, trivial⟩ k101 rfl (c101 _ _ _ W4 _ (hb.now S) (S.varSl (i := 0) (m := 12) (sz := 1) rfl rfl rfl (by decide)) (by decide) (by decide) (by decide) (by rw [show W4.sum / 8 = 12 from by decide]; omega) (by omega)) ?_
      rintro _ w4 ⟨u5, rfl, hF⟩
      rw [hfl] at hF
      have S := S.fi hF
      refine mv1 rfl rfl ?_
      refine extr1 rfl rfl rfl ?_
      refine extr1 rfl rfl rfl ?_
      refine extr1 rfl rfl rfl ?_
      refine asg1 rfl rfl ?_
      refine asg1 rfl rfl ?_
      refine asg1 rfl rfl ?_
      refine Ro.nil ?_
      refine Nrm.code ?_
      refine Run.seq ?_
      refine Run.draw (by kernel_rfl) (by kernel_rfl) S ?_
      refine qmv rfl rfl rfl rfl ?_
      refine qixa rfl rfl (S.slI (i := 0) rfl) e132 rfl rfl rfl rfl (fun _ => by first | omega | (simp only [List.length_cons, List.length_nil]; omega)) ?_
      refine qldR rfl (fun _ S => S) (i := 0) rfl T3 rfl rfl rfl (fun _ => rfl) ?_
      refine qmul rfl rfl rfl rfl rfl rfl (fun _ => (show IntKind.i64.wrap (4 * (b.getD 0 0 % 16)) = (hdN b : Int) from by rw [w64 (by omega)]; exact hH)) ?_
      refine qmv rfl rfl rfl rfl ?_
      refine qixa rfl rfl (S.slI (i := 0) rfl) e132 rfl rfl rfl rfl (fun _ => by first | omega | (simp only [List.length_cons, List.length_nil]; omega)) ?_
      refine qldR rfl (fun _ S => S) (i := 0) rfl T3 rfl rfl rfl (fun _ => rfl) ?_
      refine qasg rfl rfl rfl rfl ?_
      refine qasg rfl rfl rfl rfl ?_
      refine Qo.nil (fun w5 S => ?_)
      refine Nrm.code ?_
      refine Run.seq ?_
      refine Run.block ?_
      refine Run.seq ?_
      refine Run.region ?_
      refine mv1 rfl rfl ?_
      refine ixa rfl rfl (S.slI (i := 0) rfl) e132 rfl rfl rfl rfl (fun _ => by first | omega | (simp only [List.length_cons, List.length_nil]; omega)) ?_
      refine ldE rfl (S.slI (i := 0) rfl) (St.refl [] _) T3 rfl rfl rfl (fun _ => rfl) ?_
      refine neq1 rfl rfl rfl ?_
      refine asg1 rfl rfl ?_
      refine Ro.nil ?_
      refine Nrm.code ?_
      refine Run.cond rfl (fun hc8 => ?_) (fun hc8 => ?_)
      ·
        try simp only [Bool.or_eq_true, Bool.and_eq_true, Bool.or_eq_false_iff, Bool.and_eq_false_iff, decide_eq_true_eq, decide_eq_false_iff_not, Bool.not_eq_true', Bool.not_eq_false', Bool.not_eq_true, Bool.not_eq_false] at hc8
        refine Run.seq ?_
        refine Run.region ?_
        refine bld B28 (qs := []) trivial rfl rfl rfl ?_
        refine stW rfl rfl T28 rfl rfl (by simp [Value.oneCell']) S (i := 2) rfl rfl ?_
        intro w6 S
        refine asg1 rfl rfl ?_
        refine Ro.nil ?_
        refine Nrm.code ?_
        refine Run.ret ?_
        refine Rt.cell2 rfl rfl rfl T28 S (i := 2) rfl rfl ?_
        have he : parE b = 61 := by
          unfold parE
          rw [if_neg (by omega), if_neg (by omega), if_pos (by omega)]
        exact ⟨.slice none 0 0, .slice none 0 0, [], by rw [parH_err he (by omega), he]; rfl, by rw [parH_err he (by omega)]; exact (S.nilO).toFO (i := 0) rfl, fun _ _ _ => by rw [parH_err he (by omega)]; exact ⟨trivial, BS.nil _ _⟩⟩
      ·
        try simp only [Bool.or_eq_true, Bool.and_eq_true, Bool.or_eq_false_iff, Bool.and_eq_false_iff, decide_eq_true_eq, decide_eq_false_iff_not, Bool.not_eq_true', Bool.not_eq_false', Bool.not_eq_true, Bool.not_eq_false] at hc8
        refine Run.seq ?_
        refine Run.region ?_
        refine mv1 rfl rfl ?_
        refine lss1 rfl rfl rfl ?_
        refine mv1 rfl rfl ?_
        refine mv rfl rfl rfl rfl ?_
        refine mv rfl rfl rfl rfl ?_
        refine lenS rfl hb.2 Tryd.underlying26 rfl rfl rfl ?_
        refine gtr rfl rfl rfl rfl rfl rfl ?_
        refine pkO rfl rfl rfl rfl rfl rfl ?_
        refine asg1 rfl rfl ?_
        refine Ro.nil ?_
        refine Nrm.code ?_
        refine Run.cond rfl (fun hc10 => ?_) (fun hc10 => ?_)
        ·
          try simp only [Bool.or_eq_true, Bool.and_eq_true, Bool.or_eq_false_iff, Bool.and_eq_false_iff, decide_eq_true_eq, decide_eq_false_iff_not, Bool.not_eq_true', Bool.not_eq_false', Bool.not_eq_true, Bool.not_eq_false] at hc10
          refine Run.seq ?_
          refine Run.region ?_
          refine bld B28 (qs := []) trivial rfl rfl rfl ?_
          refine stW rfl rfl T28 rfl rfl (by simp [Value.oneCell']) S (i := 2) rfl rfl ?_
          intro w6 S
          refine asg1 rfl rfl ?_
          refine Ro.nil ?_
          refine Nrm.code ?_
          refine Run.ret ?_
          refine Rt.cell2 rfl rfl rfl T28 S (i := 2) rfl rfl ?_
          have he : parE b = 62 := by
            unfold parE
            rw [if_neg (by omega), if_neg (by omega), if_neg (by omega), if_pos (by omega)]
          exact ⟨.slice none 0 0, .slice none 0 0, [], by rw [parH_err he (by omega), he]; rfl, by rw [parH_err he (by omega)]; exact (S.nilO).toFO (i := 0) rfl, fun _ _ _ => by rw [parH_err he (by omega)]; exact ⟨trivial, BS.nil _ _⟩⟩
        ·
          try simp only [Bool.or_eq_true, Bool.and_eq_true, Bool.or_eq_false_iff, Bool.and_eq_false_iff, decide_eq_true_eq, decide_eq_false_iff_not, Bool.not_eq_true', Bool.not_eq_false', Bool.not_eq_true, Bool.not_eq_false] at hc10
          refine Run.seq ?_
          refine Run.region ?_
          refine mv1 rfl rfl ?_
          refine mv1 rfl rfl ?_
          refine lss1 rfl rfl rfl ?_
          refine mv1 rfl rfl ?_
          refine mv rfl rfl rfl rfl ?_
          refine mv rfl rfl rfl rfl ?_
          refine lenS rfl hb.2 Tryd.underlying26 rfl rfl rfl ?_
          refine gtr rfl rfl rfl rfl rfl rfl ?_
          refine pkO rfl rfl rfl rfl rfl rfl ?_
          refine asg1 rfl rfl ?_
          refine Ro.nil ?_
          refine Nrm.code ?_
          refine Run.cond rfl (fun hc12 => ?_) (fun hc12 => ?_)
          ·
            try simp only [Bool.or_eq_true, Bool.and_eq_true, Bool.or_eq_false_iff, Bool.and_eq_false_iff, decide_eq_true_eq, decide_eq_false_iff_not, Bool.not_eq_true', Bool.not_eq_false', Bool.not_eq_true, Bool.not_eq_false] at hc12
            refine Run.seq ?_
            refine Run.region ?_
            refine bld B28 (qs := []) trivial rfl rfl rfl ?_
            refine stW rfl rfl T28 rfl rfl (by simp [Value.oneCell']) S (i := 2) rfl rfl ?_
            intro w6 S
            refine asg1 rfl rfl ?_
            refine Ro.nil ?_
            refine Nrm.code ?_
            refine Run.ret ?_
            refine Rt.cell2 rfl rfl rfl T28 S (i := 2) rfl rfl ?_
            have he : parE b = 63 := by
              unfold parE
              rw [if_neg (by omega), if_neg (by omega), if_neg (by omega), if_neg (by omega), if_pos (by omega)]
            exact ⟨.slice none 0 0, .slice none 0 0, [], by rw [parH_err he (by omega), he]; rfl, by rw [parH_err he (by omega)]; exact (S.nilO).toFO (i := 0) rfl, fun _ _ _ => by rw [parH_err he (by omega)]; exact ⟨trivial, BS.nil _ _⟩⟩
          ·
            try simp only [Bool.or_eq_true, Bool.and_eq_true, Bool.or_eq_false_iff, Bool.and_eq_false_iff, decide_eq_true_eq, decide_eq_false_iff_not, Bool.not_eq_true', Bool.not_eq_false', Bool.not_eq_true, Bool.not_eq_false] at hc12
            refine Run.seq ?_
            refine Run.region ?_
            refine mv1 rfl rfl ?_
            refine mv1 rfl rfl ?_
            refine slC (lo := 0) (hi := hdN b) (mx := capV v) rfl hb e26 rfl rfl rfl (i1 := none) (i2 := some (hdN b)) (i3 := none) trivial ⟨_, _, _, rfl, rfl⟩ trivial rfl rfl rfl (fun h => by first | rfl | cases h) (fun hG => by (try simp [allT] at hG); have hcap := hb.cap; omega) ?_
            have hv68 := hb.cut (lo := 0) (hi := hdN b) (mx := capV v) (by have hcap := hb.cap; omega)
            refine bsl e102 (qs := [(_, _)]) ⟨⟨_, _, _, rfl, rfl, cells1 hv68.one, rfl, List.cons_ne_nil _ _⟩, trivial⟩ rfl rfl rfl rfl S ?_
            intro u69 w6 S B_
            have hgd : CallsD Tryd.prog 36 #[u69] w6 (.bool (decide (sumS (b.take (hdN b)) = 65535))) := by
              have := c36 u69 [b.take (hdN b)] w6 ⟨[_], S.slI (i := 0) rfl, hv68.now S, trivial⟩ (by rw [flat1, List.length_take]; omega) (by simp)
              rw [flat1] at this
              exact this
            refine calg (vs := [_]) rfl ⟨⟨_, _, rfl, rfl⟩, trivial⟩ k36 rfl (fun hG => hgd) ?_
            intro w7 B_; have S := S.call B_
            refine nt1 rfl rfl ?_
            refine asg1 rfl rfl ?_
            refine Ro.nil ?_
            refine Nrm.code ?_
            refine Run.cond rfl (fun hc14 => ?_) (fun hc14 => ?_)
            ·
              try simp only [Bool.or_eq_true, Bool.and_eq_true, Bool.or_eq_false_iff, Bool.and_eq_false_iff, decide_eq_true_eq, decide_eq_false_iff_not, Bool.not_eq_true', Bool.not_eq_false', Bool.not_eq_true, Bool.not_eq_false] at hc14
              refine Run.seq ?_
              refine Run.region ?_
              refine bld B28 (qs := []) trivial rfl rfl rfl ?_
              refine stW rfl rfl T28 rfl rfl (by simp [Value.oneCell']) S (i := 3) rfl rfl ?_
              intro w8 S
              refine asg1 rfl rfl ?_
              refine Ro.nil ?_
              refine Nrm.code ?_
              refine Run.ret ?_
              refine Rt.cell2 rfl rfl rfl T28 S (i := 3) rfl rfl ?_
              have he : parE b = 64 := by
                unfold parE
                rw [if_neg (by omega), if_neg (by omega), if_neg (by omega), if_neg (by omega), if_neg (by omega), if_pos hc14]
              exact ⟨.slice none 0 0, .slice none 0 0, [], by rw [parH_err he (by omega), he]; rfl, by rw [parH_err he (by omega)]; exact (S.nilO).toFO (i := 0) rfl, fun _ _ _ => by rw [parH_err he (by omega)]; exact ⟨trivial, BS.nil _ _⟩⟩
            ·
              try simp only [Bool.or_eq_true, Bool.and_eq_true, Bool.or_eq_false_iff, Bool.and_eq_false_iff, decide_eq_true_eq, decide_eq_false_iff_not, Bool.not_eq_true', Bool.not_eq_false', Bool.not_eq_true, Bool.not_eq_false] at hc14
              refine Run.skip ?_
              refine Nrm.blk ?_
              refine Nrm.code ?_
              refine Run.seq ?_
              refine Run.region ?_
              refine mv1 rfl rfl ?_
              refine mv1 rfl rfl ?_
              refine mv1 rfl rfl ?_
              refine slC (lo := 20) (hi := hdN b) (mx := hdN b) rfl hb e26 rfl rfl rfl (i1 := some 20) (i2 := some (hdN b)) (i3 := some (hdN b)) ⟨_, _, _, rfl, rfl⟩ ⟨_, _, _, rfl, rfl⟩ ⟨_, _, _, rfl, rfl⟩ rfl rfl rfl (fun h => by first | rfl | cases h) (fun hG => by (try simp [allT] at hG); have hcap := hb.cap; omega) ?_
              have hv77 := hb.cut (lo := 20) (hi := hdN b) (mx := hdN b) (by have hcap := hb.cap; omega)
              refine call (vs := [_]) ⟨⟨_, _, rfl, rfl⟩, trivial⟩ k44 rfl (c44 _ _ _ (hv77.now S)) ?_
              rintro _ w8 ⟨u10, vs, rfl, hF, hwin⟩
              have S := S.fo hF
              refine mv1 rfl rfl ?_
              refine extr1 rfl rfl rfl ?_
              refine extr1 rfl rfl rfl ?_
              refine asg1 rfl rfl ?_
              refine asg1 rfl rfl ?_
              refine Ro.nil ?_
              refine Nrm.code ?_
              refine Run.seq ?_
              refine Run.seq ?_
              refine Run.region ?_
              refine mv1 rfl rfl ?_
              refine eql1 rfl rfl rfl ?_
              refine Ro.nil ?_
              refine Nrm.code ?_
              refine Run.cond rfl (fun hc17 => ?_) (fun hc17 => ?_)
              ·
                try simp only [Bool.or_eq_true, Bool.and_eq_true, Bool.or_eq_false_iff, Bool.and_eq_false_iff, decide_eq_true_eq, decide_eq_false_iff_not, Bool.not_eq_true', Bool.not_eq_false', Bool.not_eq_true, Bool.not_eq_false] at hc17
                refine Run.draw (by kernel_rfl) (by kernel_rfl) S ?_
                refine qmv rfl rfl rfl rfl ?_
                refine qixa rfl rfl (S.slI (i := 2) rfl) e132 rfl rfl rfl rfl (fun _ => by first | omega | (simp only [List.length_cons, List.length_nil]; omega)) ?_
                refine qldR rfl (fun _ S => S) (i := 2) rfl T3 rfl rfl rfl (fun _ => rfl) ?_
                refine qcal (vs := [_]) rfl ⟨⟨_, _, rfl, rfl⟩, trivial⟩ k102 rfl (fun _ _ S B => S.call B) (fun hG w_ S => c102 _ _) ?_
                refine qmv rfl rfl rfl rfl ?_
                refine qixa rfl rfl (S.slI (i := 2) rfl) e132 rfl rfl rfl rfl (fun _ => by first | omega | (simp only [List.length_cons, List.length_nil]; omega)) ?_
                refine qldR rfl (fun _ S => S) (i := 2) rfl T3 rfl rfl rfl (fun _ => rfl) ?_
                refine qmul rfl rfl rfl rfl rfl rfl (fun _ => w64 (by omega)) ?_
                refine qmv rfl rfl rfl rfl ?_
                refine qmv rfl rfl rfl rfl ?_
                refine qsub rfl rfl rfl rfl rfl rfl (fun _ => w64 (by omega)) ?_
                refine qcal (vs := [_, _, _]) rfl ⟨⟨_, _, rfl, rfl⟩, ⟨_, _, rfl, rfl⟩, ⟨_, _, rfl, rfl⟩, trivial⟩ k100 rfl (fun _ _ S B => S.call B) (fun hG w_ S => c100 _ _ _ _ (by omega)) ?_
                refine qasg rfl rfl rfl rfl ?_
                refine Qo.nil (fun w9 S => ?_)
                refine Nrm.code ?_
                refine Run.seq ?_
                refine Run.seq ?_
                refine Run.region ?_
                refine mv1 rfl rfl ?_
                refine neq1 rfl rfl rfl ?_
                refine Ro.nil ?_
                refine Nrm.code ?_
                refine Run.cond rfl (fun hc19 => ?_) (fun hc19 => ?_)
                ·
                  try simp only [Bool.or_eq_true, Bool.and_eq_true, Bool.or_eq_false_iff, Bool.and_eq_false_iff, decide_eq_true_eq, decide_eq_false_iff_not, Bool.not_eq_true', Bool.not_eq_false', Bool.not_eq_true, Bool.not_eq_false] at hc19
                  refine Run.seq ?_
                  refine Run.region ?_
                  refine bld B28 (qs := []) trivial rfl rfl rfl ?_
                  refine mv1 rfl rfl ?_
                  refine stW rfl rfl T28 rfl rfl (by simp [Value.oneCell']) S (i := 4) rfl rfl ?_
                  intro w10 S
                  refine asg1 rfl rfl ?_
                  refine Ro.nil ?_
                  refine Nrm.code ?_
                  refine Run.ret ?_
                  refine Rt.cell2 rfl rfl rfl T28 S (i := 4) rfl rfl ?_
                  have hfr := fragE_or (decide (b.getD 6 0 / 32 % 2 = 1)) (8 * offW b) ((totN b : Int) - hdN b)
                  have he : parE b = fragE (decide (b.getD 6 0 / 32 % 2 = 1)) (8 * offW b) ((totN b : Int) - hdN b) := by
                    unfold parE
                    rw [if_neg (by omega), if_neg (by omega), if_neg (by omega), if_neg (by omega), if_neg (by omega), if_neg (by omega), if_neg (by omega)]
                  exact ⟨.slice none 0 0, .slice none 0 0, [], by rw [parH_err he (by omega), he]; rfl, by rw [parH_err he (by omega)]; exact (S.nilO).toFO (i := 0) rfl, fun _ _ _ => by rw [parH_err he (by omega)]; exact ⟨trivial, BS.nil _ _⟩⟩
                ·
                  try simp only [Bool.or_eq_true, Bool.and_eq_true, Bool.or_eq_false_iff, Bool.and_eq_false_iff, decide_eq_true_eq, decide_eq_false_iff_not, Bool.not_eq_true', Bool.not_eq_false', Bool.not_eq_true, Bool.not_eq_false] at hc19
                  refine Run.skip ?_
                  refine Nrm.code ?_
                  refine Run.seq ?_
                  refine Run.held (by kernel_rfl) S [true, true, true, true, true] rfl rfl rfl ?_
                  intro w10 BD S SC
                  refine Ho.take (i := 0) SC Pp.body rfl (by kernel_rfl) (by kernel_rfl) (by kernel_rfl) rfl rfl ?_
                  refine qmv rfl rfl rfl rfl ?_
                  refine Ho.back ?_
                  refine Ho.take (i := 1) SC Pp.body rfl (by kernel_rfl) (by kernel_rfl) (by kernel_rfl) rfl rfl ?_
                  refine qixa rfl rfl (S.slI (i := 2) rfl) e132 rfl rfl rfl rfl (fun _ => by first | omega | (simp only [List.length_cons, List.length_nil]; omega)) ?_
                  refine Ho.back ?_
                  refine Ho.take (i := 2) SC Pp.body rfl (by kernel_rfl) (by kernel_rfl) (by kernel_rfl) rfl rfl ?_
                  refine qldR rfl (fun _ S => S) (i := 2) rfl T3 rfl rfl rfl (fun _ => rfl) ?_
                  refine Ho.back ?_
                  refine Ho.take (i := 3) SC Pp.body rfl (by kernel_rfl) (by kernel_rfl) (by kernel_rfl) rfl rfl ?_
                  refine qmv rfl rfl rfl rfl ?_
                  refine Ho.back ?_
                  refine Ho.take (i := 4) SC Pp.body rfl (by kernel_rfl) (by kernel_rfl) (by kernel_rfl) rfl rfl ?_
                  refine qixa rfl rfl (S.slI (i := 2) rfl) e132 rfl rfl rfl rfl (fun _ => by first | omega | (simp only [List.length_cons, List.length_nil]; omega)) ?_
                  refine Ho.back ?_
                  refine Ho.take (i := 5) SC Pp.body rfl (by kernel_rfl) (by kernel_rfl) (by kernel_rfl) rfl rfl ?_
                  refine qldR rfl (fun _ S => S) (i := 2) rfl T3 rfl rfl rfl (fun _ => rfl) ?_
                  refine Ho.back ?_
                  refine Ho.take (i := 6) SC Pp.body rfl (by kernel_rfl) (by kernel_rfl) (by kernel_rfl) rfl rfl ?_
                  refine qmv rfl rfl rfl rfl ?_
                  refine Ho.back ?_
                  refine Ho.take (i := 7) SC Pp.body rfl (by kernel_rfl) (by kernel_rfl) (by kernel_rfl) rfl rfl ?_
                  refine qixa rfl rfl (S.slI (i := 2) rfl) e132 rfl rfl rfl rfl (fun _ => by first | omega | (simp only [List.length_cons, List.length_nil]; omega)) ?_
                  refine Ho.back ?_
                  refine Ho.take (i := 8) SC Pp.body rfl (by kernel_rfl) (by kernel_rfl) (by kernel_rfl) rfl rfl ?_
                  refine qldR rfl (fun _ S => S) (i := 2) rfl T3 rfl rfl rfl (fun _ => rfl) ?_
                  refine Ho.back ?_
                  refine Ho.take (i := 10) SC Pp.body rfl (by kernel_rfl) (by kernel_rfl) (by kernel_rfl) rfl rfl ?_
                  refine qmv rfl rfl rfl rfl ?_
                  refine Ho.back ?_
                  refine Ho.take (i := 11) SC Pp.body rfl (by kernel_rfl) (by kernel_rfl) (by kernel_rfl) rfl rfl ?_
                  refine qixa rfl rfl (S.slI (i := 2) rfl) e132 rfl rfl rfl rfl (fun _ => by first | omega | (simp only [List.length_cons, List.length_nil]; omega)) ?_
                  refine Ho.back ?_
                  refine Ho.take (i := 12) SC Pp.body rfl (by kernel_rfl) (by kernel_rfl) (by kernel_rfl) rfl rfl ?_
                  refine qldR rfl (fun _ S => S) (i := 2) rfl T3 rfl rfl rfl (fun _ => rfl) ?_
                  refine Ho.back ?_
                  refine Ho.take (i := 14) SC Pp.body rfl (by kernel_rfl) (by kernel_rfl) (by kernel_rfl) rfl rfl ?_
                  refine qmv rfl rfl rfl rfl ?_
                  refine Ho.back ?_
                  refine Ho.take (i := 15) SC Pp.body rfl (by kernel_rfl) (by kernel_rfl) (by kernel_rfl) rfl rfl ?_
                  refine qixa rfl rfl (S.slI (i := 2) rfl) e132 rfl rfl rfl rfl (fun _ => by first | omega | (simp only [List.length_cons, List.length_nil]; omega)) ?_
                  refine Ho.back ?_
                  refine Ho.take (i := 16) SC Pp.body rfl (by kernel_rfl) (by kernel_rfl) (by kernel_rfl) rfl rfl ?_
                  refine qldR rfl (fun _ S => S) (i := 2) rfl T3 rfl rfl rfl (fun _ => rfl) ?_
                  refine Ho.back ?_
                  refine Ho.take (i := 17) SC Pp.body rfl (by kernel_rfl) (by kernel_rfl) (by kernel_rfl) rfl rfl ?_
                  refine qmul rfl rfl rfl rfl rfl rfl (fun _ => w64 (by omega)) ?_
                  refine Ho.back ?_
                  refine Ho.take (i := 18) SC Pp.body rfl (by kernel_rfl) (by kernel_rfl) (by kernel_rfl) rfl rfl ?_
                  refine qmv rfl rfl rfl rfl ?_
                  refine Ho.back ?_
                  refine Ho.take (i := 19) SC Pp.body rfl (by kernel_rfl) (by kernel_rfl) (by kernel_rfl) rfl rfl ?_
                  refine qixa rfl rfl (S.slI (i := 2) rfl) e132 rfl rfl rfl rfl (fun _ => by first | omega | (simp only [List.length_cons, List.length_nil]; omega)) ?_
                  refine Ho.back ?_
                  refine Ho.take (i := 20) SC Pp.body rfl (by kernel_rfl) (by kernel_rfl) (by kernel_rfl) rfl rfl ?_
                  refine qldR rfl (fun _ S => S) (i := 2) rfl T3 rfl rfl rfl (fun _ => rfl) ?_
                  refine Ho.back ?_
                  refine Ho.take (i := 21) SC Pp.body rfl (by kernel_rfl) (by kernel_rfl) (by kernel_rfl) rfl rfl ?_
                  refine qmv rfl rfl rfl rfl ?_
                  refine Ho.back ?_
                  refine Ho.take (i := 22) SC Pp.body rfl (by kernel_rfl) (by kernel_rfl) (by kernel_rfl) rfl rfl ?_
                  refine qixa rfl rfl (S.slI (i := 2) rfl) e132 rfl rfl rfl rfl (fun _ => by first | omega | (simp only [List.length_cons, List.length_nil]; omega)) ?_
                  refine Ho.back ?_
                  refine Ho.take (i := 23) SC Pp.body rfl (by kernel_rfl) (by kernel_rfl) (by kernel_rfl) rfl rfl ?_
                  refine qldR rfl (fun _ S => S) (i := 2) rfl T3 rfl rfl rfl (fun _ => rfl) ?_
                  refine Ho.back ?_
                  refine Ho.take (i := 24) SC Pp.body rfl (by kernel_rfl) (by kernel_rfl) (by kernel_rfl) rfl rfl ?_
                  refine qmv rfl rfl rfl rfl ?_
                  refine Ho.back ?_
                  refine Ho.two (i := 9) (i' := 26) (by kernel_rfl) rfl rfl rfl rfl ?_ ?_
                  ·
                    refine calg (vs := [_]) rfl ⟨⟨_, _, rfl, rfl⟩, trivial⟩ k102 rfl (fun hG => c102 _ _) ?_
                    intro w11 B_; have S := S.call B_
                    have SC := S.pick [true, true, true, true, true] rfl
                    refine Ho.on SC ?_
                    refine Ho.two (i := 13) (i' := 26) (by kernel_rfl) rfl rfl rfl rfl ?_ ?_
                    ·
                      refine calg (vs := [_]) rfl ⟨⟨_, _, rfl, rfl⟩, trivial⟩ k102 rfl (fun hG => c102 _ _) ?_
                      intro w12 B_; have S := S.call B_
                      have SC := S.pick [true, true, true, true, true] rfl
                      refine Ho.on SC ?_
                      refine Ho.take (i := 25) SC Pp.body rfl (by kernel_rfl) (by kernel_rfl) (by kernel_rfl) rfl rfl ?_
                      refine qbld B28 (qs := [(_, _), (_, _), (_, _), (_, _), (_, _), (_, _), (_, _), (_, _)]) ⟨⟨_, _, _, rfl, rfl, rfl, rfl, by simp [Value.cells]⟩, ⟨_, _, _, rfl, rfl, rfl, rfl, by simp [Value.cells]⟩, ⟨_, _, _, rfl, rfl, rfl, rfl, by simp [Value.cells]⟩, ⟨_, _, _, rfl, rfl, rfl, rfl, by simp [Value.cells]⟩, ⟨_, _, _, rfl, rfl, rfl, rfl, by simp [Value.cells]⟩, ⟨_, _, _, rfl, rfl, rfl, rfl, by simp [Value.cells]⟩, ⟨_, _, _, rfl, rfl, rfl, rfl, by simp [Value.cells]⟩, ⟨_, _, _, rfl, rfl, cells1 (S.slI (i := 0) rfl).one, rfl, List.cons_ne_nil _ _⟩, trivial⟩ rfl rfl rfl ?_
                      refine Ho.back ?_
                      refine Ho.one (i := 26) (by kernel_rfl) rfl rfl ?_
                      refine alc T28 S rfl ?_
                      intro b12 w13 hb12 S B_
                      have SC := S.pick [false, true, true, true, true, true] rfl
                      refine Ho.on SC ?_
                      refine Ho.one (i := 27) (by kernel_rfl) rfl rfl ?_
                      refine stW rfl rfl T28 rfl rfl (one_cons rfl (one_cons rfl (one_cons rfl (one_cons rfl (one_cons rfl (one_cons rfl (one_cons rfl (one_cons rfl (one_cons rfl (one_cons rfl (one_cons rfl (one_cons rfl (one_cons rfl (one_cons rfl (one_cons rfl (one_cons rfl (one_cons rfl (one_cons rfl (one_cons rfl (one_cons rfl (one_cons rfl (one_cons rfl (one_cons rfl (one_cons rfl (one_cons rfl (one_cons rfl (one_cons rfl (one_cons rfl (one_cons rfl (one_cons rfl (one_cons rfl (one_cons rfl (one_cons rfl (one_cons rfl (one_cons rfl (one_cons rfl (one_cons rfl (one_cons rfl (one_cons rfl (one_cons rfl (one_cons rfl (one_cons (S.slI (i := 1) rfl).one (one_cons rfl one_nil))))))))))))))))))))))))))))))))))))))))))) S (i := 0) rfl rfl ?_
                      intro w14 S
                      have SC := S.pick [false, true, true, true, true, true] rfl
                      refine Ho.on SC ?_
                      refine Ho.done (by kernel_rfl) ?_
                      refine Nrm.code ?_
                      refine Run.seq ?_
                      refine Run.held (by kernel_rfl) S [false, true, true, true, true, true] rfl rfl rfl ?_
                      intro w15 BD S SC
                      refine Ho.take (i := 0) SC Pp.body rfl (by kernel_rfl) (by kernel_rfl) (by kernel_rfl) rfl rfl ?_
                      refine qmv rfl rfl rfl rfl ?_
                      refine Ho.back ?_
                      refine Ho.take (i := 1) SC Pp.body rfl (by kernel_rfl) (by kernel_rfl) (by kernel_rfl) rfl rfl ?_
                      have hv126 := hb.cut (lo := 12) (hi := 16) (mx := capV v) (by have hcap := hb.cap; omega)
                      refine qslC (lo := 12) (hi := 16) (mx := capV v) rfl hb e26 rfl rfl rfl (i1 := some 12) (i2 := some 16) (i3 := none) ⟨_, _, _, rfl, rfl⟩ ⟨_, _, _, rfl, rfl⟩ trivial rfl rfl rfl (fun h => by first | rfl | cases h) (fun hG => by (try simp [allT] at hG); have hcap := hb.cap; omega) ?_
                      refine Ho.back ?_
                      refine Ho.take (i := 3) SC Pp.body rfl (by kernel_rfl) (by kernel_rfl) (by kernel_rfl) rfl rfl ?_
                      refine qmv rfl rfl rfl rfl ?_
                      refine Ho.back ?_
                      refine Ho.take (i := 4) SC Pp.body rfl (by kernel_rfl) (by kernel_rfl) (by kernel_rfl) rfl rfl ?_
                      have hv129 := hb.cut (lo := 16) (hi := 20) (mx := capV v) (by have hcap := hb.cap; omega)
                      refine qslC (lo := 16) (hi := 20) (mx := capV v) rfl hb e26 rfl rfl rfl (i1 := some 16) (i2 := some 20) (i3 := none) ⟨_, _, _, rfl, rfl⟩ ⟨_, _, _, rfl, rfl⟩ trivial rfl rfl rfl (fun h => by first | rfl | cases h) (fun hG => by (try simp [allT] at hG); have hcap := hb.cap; omega) ?_
                      refine Ho.back ?_
                      refine Ho.one (i := 2) (by kernel_rfl) rfl rfl ?_
                      refine calg (vs := [_]) rfl ⟨⟨_, _, rfl, rfl⟩, trivial⟩ k103 rfl (fun hG => c103at _ _ b 12 _ (hv126.now S) (by rw [List.length_take, List.length_drop]; omega) (ipOf_cut b 12)) ?_
                      intro w16 B_; have S := S.call B_
                      have SC := S.pick [false, true, true, true, true, true] rfl
                      refine Ho.on SC ?_
                      refine Ho.take (i := 6) SC Pp.body rfl (by kernel_rfl) (by kernel_rfl) (by kernel_rfl) rfl rfl ?_
                      refine qfld (o' := 7) rfl fo28_7 rfl rfl rfl rfl ?_
                      refine Ho.back ?_
                      refine Ho.one (i := 5) (by kernel_rfl) rfl rfl ?_
                      refine calg (vs := [_]) rfl ⟨⟨_, _, rfl, rfl⟩, trivial⟩ k103 rfl (fun hG => c103at _ _ b 16 _ (hv129.now S) (by rw [List.length_take, List.length_drop]; omega) (ipOf_cut b 16)) ?_
                      intro w17 B_; have S := S.call B_
                      have SC := S.pick [false, true, true, true, true, true] rfl
                      refine Ho.on SC ?_
                      refine Ho.one (i := 7) (by kernel_rfl) rfl rfl ?_
                      refine stA rfl rfl T24 rfl (by decide) (encIP_all1 _) S (i := 0) rfl rfl rfl ?_
                      intro w18 S
                      have SC := S.pick [false, true, true, true, true, true] rfl
                      refine Ho.on SC ?_
                      refine Ho.take (i := 8) SC Pp.body rfl (by kernel_rfl) (by kernel_rfl) (by kernel_rfl) rfl rfl ?_
                      refine qfld (o' := 24) rfl fo28_8 rfl rfl rfl rfl ?_
                      refine Ho.back ?_
                      refine Ho.one (i := 9) (by kernel_rfl) rfl rfl ?_
                      refine stA rfl rfl T24 rfl (by decide) (encIP_all1 _) S (i := 0) rfl rfl rfl ?_
                      intro w19 S
                      have SC := S.pick [false, true, true, true, true, true] rfl
                      refine Ho.on SC ?_
                      refine Ho.done (by kernel_rfl) ?_
                      refine Nrm.code ?_
                      refine Run.seq ?_
                      refine Run.region ?_
                      refine mv1 rfl rfl ?_
                      refine mv1 rfl rfl ?_
                      refine mv1 rfl rfl ?_
                      refine mv1 rfl rfl ?_
                      refine slC (lo := hdN b) (hi := totN b) (mx := totN b) rfl hb e26 rfl rfl rfl (i1 := some (hdN b)) (i2 := some (totN b)) (i3 := some (totN b)) ⟨_, _, _, rfl, rfl⟩ ⟨_, _, _, rfl, rfl⟩ ⟨_, _, _, rfl, rfl⟩ rfl rfl rfl (fun h => by first | rfl | cases h) (fun hG => by (try simp [allT] at hG); have hcap := hb.cap; omega) ?_
                      have hv137 := hb.cut (lo := hdN b) (hi := totN b) (mx := totN b) (by have hcap := hb.cap; omega)
                      refine fld (o' := 42) rfl fo28_10 rfl rfl rfl rfl ?_
                      refine st1 rfl rfl T26 hv137.one S (i := 0) rfl rfl rfl ?_
                      intro w20 S
                      refine Ro.nil ?_
                      refine Nrm.code ?_
                      refine Run.seq ?_
                      refine Run.region ?_
                      refine ldW rfl T28 S (i := 0) rfl rfl rfl rfl rfl ?_
                      refine stW rfl rfl T28 rfl rfl (one_cons rfl (one_cons rfl (one_cons rfl (one_cons rfl (one_cons rfl (one_cons rfl (one_cons rfl (one_cons rfl (one_cons rfl (one_cons rfl (one_cons rfl (one_cons rfl (one_cons rfl (one_cons rfl (one_cons rfl (one_cons rfl (one_cons rfl (one_cons rfl (one_cons rfl (one_cons rfl (one_cons rfl (one_cons rfl (one_cons rfl (one_cons rfl (one_cons rfl (one_cons rfl (one_cons rfl (one_cons rfl (one_cons rfl (one_cons rfl (one_cons rfl (one_cons rfl (one_cons rfl (one_cons rfl (one_cons rfl (one_cons rfl (one_cons rfl (one_cons rfl (one_cons rfl (one_cons rfl (one_cons rfl (one_cons (S.slI (i := 1) rfl).one (one_cons hv137.one one_nil))))))))))))))))))))))))))))))))))))))))))) S (i := 5) rfl rfl ?_
                      intro w21 S
                      refine asg1 rfl rfl ?_
                      refine Ro.nil ?_
                      refine Nrm.code ?_
                      refine Run.ret ?_
                      refine Rt.cell2 rfl rfl rfl T28 S (i := 5) rfl rfl ?_
                      have he : parE b = 0 := by
                        unfold parE
                        rw [if_neg (by omega), if_neg (by omega), if_neg (by omega), if_neg (by omega), if_neg (by omega), if_neg (by omega), if_neg (by omega)]
                        omega
                      exact ⟨_, _, vs, by rw [parH, if_pos he, he]; rfl, by rw [parH, if_pos he]; exact (S.pick [false, true, false, false, false, false] rfl).toFO (i := 0) rfl, fun N w1 h1 => by rw [parH, if_pos he]; exact ⟨hwin N w1 (h1.cut (by have := h1.cap; omega)), h1.cut (by have := h1.cap; omega)⟩⟩
                    ·
                      refine alc T28 S rfl ?_
                      intro b12 w12 hb12 S B_
                      have SC := S.pick [false, true, true, true, true, true] rfl
                      refine Ho.on SC ?_
                      refine Ho.one (i := 13) (by kernel_rfl) rfl rfl ?_
                      refine calg (vs := [_]) rfl ⟨⟨_, _, rfl, rfl⟩, trivial⟩ k102 rfl (fun hG => c102 _ _) ?_
                      intro w13 B_; have S := S.call B_
                      have SC := S.pick [false, true, true, true, true, true] rfl
                      refine Ho.on SC ?_
                      refine Ho.take (i := 25) SC Pp.body rfl (by kernel_rfl) (by kernel_rfl) (by kernel_rfl) rfl rfl ?_
                      refine qbld B28 (qs := [(_, _), (_, _), (_, _), (_, _), (_, _), (_, _), (_, _), (_, _)]) ⟨⟨_, _, _, rfl, rfl, rfl, rfl, by simp [Value.cells]⟩, ⟨_, _, _, rfl, rfl, rfl, rfl, by simp [Value.cells]⟩, ⟨_, _, _, rfl, rfl, rfl, rfl, by simp [Value.cells]⟩, ⟨_, _, _, rfl, rfl, rfl, rfl, by simp [Value.cells]⟩, ⟨_, _, _, rfl, rfl, rfl, rfl, by simp [Value.cells]⟩, ⟨_, _, _, rfl, rfl, rfl, rfl, by simp [Value.cells]⟩, ⟨_, _, _, rfl, rfl, rfl, rfl, by simp [Value.cells]⟩, ⟨_, _, _, rfl, rfl, cells1 (S.slI (i := 1) rfl).one, rfl, List.cons_ne_nil _ _⟩, trivial⟩ rfl rfl rfl ?_
                      refine Ho.back ?_
                      refine Ho.one (i := 27) (by kernel_rfl) rfl rfl ?_
                      refine stW rfl rfl T28 rfl rfl (one_cons rfl (one_cons rfl (one_cons rfl (one_cons rfl (one_cons rfl (one_cons rfl (one_cons rfl (one_cons rfl (one_cons rfl (one_cons rfl (one_cons rfl (one_cons rfl (one_cons rfl (one_cons rfl (one_cons rfl (one_cons rfl (one_cons rfl (one_cons rfl (one_cons rfl (one_cons rfl (one_cons rfl (one_cons rfl (one_cons rfl (one_cons rfl (one_cons rfl (one_cons rfl (one_cons rfl (one_cons rfl (one_cons rfl (one_cons rfl (one_cons rfl (one_cons rfl (one_cons rfl (one_cons rfl (one_cons rfl (one_cons rfl (one_cons rfl (one_cons rfl (one_cons rfl (one_cons rfl (one_cons rfl (one_cons (S.slI (i := 1) rfl).one (one_cons rfl one_nil))))))))))))))))))))))))))))))))))))))))))) S (i := 0) rfl rfl ?_
                      intro w14 S
                      have SC := S.pick [false, true, true, true, true, true] rfl
                      refine Ho.on SC ?_
                      refine Ho.done (by kernel_rfl) ?_
                      refine Nrm.code ?_
                      refine Run.seq ?_
                      refine Run.held (by kernel_rfl) S [false, true, true, true, true, true] rfl rfl rfl ?_
                      intro w15 BD S SC
                      refine Ho.take (i := 0) SC Pp.body rfl (by kernel_rfl) (by kernel_rfl) (by kernel_rfl) rfl rfl ?_
                      refine qmv rfl rfl rfl rfl ?_
                      refine Ho.back ?_
                      refine Ho.take (i := 1) SC Pp.body rfl (by kernel_rfl) (by kernel_rfl) (by kernel_rfl) rfl rfl ?_
                      have hv126 := hb.cut (lo := 12) (hi := 16) (mx := capV v) (by have hcap := hb.cap; omega)
                      refine qslC (lo := 12) (hi := 16) (mx := capV v) rfl hb e26 rfl rfl rfl (i1 := some 12) (i2 := some 16) (i3 := none) ⟨_, _, _, rfl, rfl⟩ ⟨_, _, _, rfl, rfl⟩ trivial rfl rfl rfl (fun h => by first | rfl | cases h) (fun hG => by (try simp [allT] at hG); have hcap := hb.cap; omega) ?_
                      refine Ho.back ?_
                      refine Ho.take (i := 3) SC Pp.body rfl (by kernel_rfl) (by kernel_rfl) (by kernel_rfl) rfl rfl ?_
                      refine qmv rfl rfl rfl rfl ?_
                      refine Ho.back ?_
                      refine Ho.take (i := 4) SC Pp.body rfl (by kernel_rfl) (by kernel_rfl) (by kernel_rfl) rfl rfl ?_
                      have hv129 := hb.cut (lo := 16) (hi := 20) (mx := capV v) (by have hcap := hb.cap; omega)
                      refine qslC (lo := 16) (hi := 20) (mx := capV v) rfl hb e26 rfl rfl rfl (i1 := some 16) (i2 := some 20) (i3 := none) ⟨_, _, _, rfl, rfl⟩ ⟨_, _, _, rfl, rfl⟩ trivial rfl rfl rfl (fun h => by first | rfl | cases h) (fun hG => by (try simp [allT] at hG); have hcap := hb.cap; omega) ?_
                      refine Ho.back ?_
                      refine Ho.one (i := 2) (by kernel_rfl) rfl rfl ?_
                      refine calg (vs := [_]) rfl ⟨⟨_, _, rfl, rfl⟩, trivial⟩ k103 rfl (fun hG => c103at _ _ b 12 _ (hv126.now S) (by rw [List.length_take, List.length_drop]; omega) (ipOf_cut b 12)) ?_
                      intro w16 B_; have S := S.call B_
                      have SC := S.pick [false, true, true, true, true, true] rfl
                      refine Ho.on SC ?_
                      refine Ho.take (i := 6) SC Pp.body rfl (by kernel_rfl) (by kernel_rfl) (by kernel_rfl) rfl rfl ?_
                      refine qfld (o' := 7) rfl fo28_7 rfl rfl rfl rfl ?_
                      refine Ho.back ?_
                      refine Ho.one (i := 5) (by kernel_rfl) rfl rfl ?_
                      refine calg (vs := [_]) rfl ⟨⟨_, _, rfl, rfl⟩, trivial⟩ k103 rfl (fun hG => c103at _ _ b 16 _ (hv129.now S) (by rw [List.length_take, List.length_drop]; omega) (ipOf_cut b 16)) ?_
                      intro w17 B_; have S := S.call B_
                      have SC := S.pick [false, true, true, true, true, true] rfl
                      refine Ho.on SC ?_
                      refine Ho.one (i := 7) (by kernel_rfl) rfl rfl ?_
                      refine stA rfl rfl T24 rfl (by decide) (encIP_all1 _) S (i := 0) rfl rfl rfl ?_
                      intro w18 S
                      have SC := S.pick [false, true, true, true, true, true] rfl
                      refine Ho.on SC ?_
                      refine Ho.take (i := 8) SC Pp.body rfl (by kernel_rfl) (by kernel_rfl) (by kernel_rfl) rfl rfl ?_
                      refine qfld (o' := 24) rfl fo28_8 rfl rfl rfl rfl ?_
                      refine Ho.back ?_
                      refine Ho.one (i := 9) (by kernel_rfl) rfl rfl ?_
                      refine stA rfl rfl T24 rfl (by decide) (encIP_all1 _) S (i := 0) rfl rfl rfl ?_
                      intro w19 S
                      have SC := S.pick [false, true, true, true, true, true] rfl
                      refine Ho.on SC ?_
                      refine Ho.done (by kernel_rfl) ?_
                      refine Nrm.code ?_
                      refine Run.seq ?_
                      refine Run.region ?_
                      refine mv1 rfl rfl ?_
                      refine mv1 rfl rfl ?_
                      refine mv1 rfl rfl ?_
                      refine mv1 rfl rfl ?_
                      refine slC (lo := hdN b) (hi := totN b) (mx := totN b) rfl hb e26 rfl rfl rfl (i1 := some (hdN b)) (i2 := some (totN b)) (i3 := some (totN b)) ⟨_, _, _, rfl, rfl⟩ ⟨_, _, _, rfl, rfl⟩ ⟨_, _, _, rfl, rfl⟩ rfl rfl rfl (fun h => by first | rfl | cases h) (fun hG => by (try simp [allT] at hG); have hcap := hb.cap; omega) ?_
                      have hv137 := hb.cut (lo := hdN b) (hi := totN b) (mx := totN b) (by have hcap := hb.cap; omega)
                      refine fld (o' := 42) rfl fo28_10 rfl rfl rfl rfl ?_
                      refine st1 rfl rfl T26 hv137.one S (i := 0) rfl rfl rfl ?_
                      intro w20 S
                      refine Ro.nil ?_
                      refine Nrm.code ?_
                      refine Run.seq ?_
                      refine Run.region ?_
                      refine ldW rfl T28 S (i := 0) rfl rfl rfl rfl rfl ?_
                      refine stW rfl rfl T28 rfl rfl (one_cons rfl (one_cons rfl (one_cons rfl (one_cons rfl (one_cons rfl (one_cons rfl (one_cons rfl (one_cons rfl (one_cons rfl (one_cons rfl (one_cons rfl (one_cons rfl (one_cons rfl (one_cons rfl (one_cons rfl (one_cons rfl (one_cons rfl (one_cons rfl (one_cons rfl (one_cons rfl (one_cons rfl (one_cons rfl (one_cons rfl (one_cons rfl (one_cons rfl (one_cons rfl (one_cons rfl (one_cons rfl (one_cons rfl (one_cons rfl (one_cons rfl (one_cons rfl (one_cons rfl (one_cons rfl (one_cons rfl (one_cons rfl (one_cons rfl (one_cons rfl (one_cons rfl (one_cons rfl (one_cons rfl (one_cons (S.slI (i := 1) rfl).one (one_cons hv137.one one_nil))))))))))))))))))))))))))))))))))))))))))) S (i := 5) rfl rfl ?_
                      intro w21 S
                      refine asg1 rfl rfl ?_
                      refine Ro.nil ?_
                      refine Nrm.code ?_
                      refine Run.ret ?_
                      refine Rt.cell2 rfl rfl rfl T28 S (i := 5) rfl rfl ?_
                      have he : parE b = 0 := by
                        unfold parE
                        rw [if_neg (by omega), if_neg (by omega), if_neg (by omega), if_neg (by omega), if_neg (by omega), if_neg (by omega), if_neg (by omega)]
                        omega
                      exact ⟨_, _, vs, by rw [parH, if_pos he, he]; rfl, by rw [parH, if_pos he]; exact (S.pick [false, true, false, false, false, false] rfl).toFO (i := 0) rfl, fun N w1 h1 => by rw [parH, if_pos he]; exact ⟨hwin N w1 (h1.cut (by have := h1.cap; omega)), h1.cut (by have := h1.cap; omega)⟩⟩
                  ·
                    refine alc T28 S rfl ?_
                    intro b12 w11 hb12 S B_
                    have SC := S.pick [false, true, true, true, true, true] rfl
                    refine Ho.on SC ?_
                    refine Ho.one (i := 9) (by kernel_rfl) rfl rfl ?_
                    refine calg (vs := [_]) rfl ⟨⟨_, _, rfl, rfl⟩, trivial⟩ k102 rfl (fun hG => c102 _ _) ?_
                    intro w12 B_; have S := S.call B_
                    have SC := S.pick [false, true, true, true, true, true] rfl
                    refine Ho.on SC ?_
                    refine Ho.one (i := 13) (by kernel_rfl) rfl rfl ?_
                    refine calg (vs := [_]) rfl ⟨⟨_, _, rfl, rfl⟩, trivial⟩ k102 rfl (fun hG => c102 _ _) ?_
                    intro w13 B_; have S := S.call B_
                    have SC := S.pick [false, true, true, true, true, true] rfl
                    refine Ho.on SC ?_
                    refine Ho.take (i := 25) SC Pp.body rfl (by kernel_rfl) (by kernel_rfl) (by kernel_rfl) rfl rfl ?_
                    refine qbld B28 (qs := [(_, _), (_, _), (_, _), (_, _), (_, _), (_, _), (_, _), (_, _)]) ⟨⟨_, _, _, rfl, rfl, rfl, rfl, by simp [Value.cells]⟩, ⟨_, _, _, rfl, rfl, rfl, rfl, by simp [Value.cells]⟩, ⟨_, _, _, rfl, rfl, rfl, rfl, by simp [Value.cells]⟩, ⟨_, _, _, rfl, rfl, rfl, rfl, by simp [Value.cells]⟩, ⟨_, _, _, rfl, rfl, rfl, rfl, by simp [Value.cells]⟩, ⟨_, _, _, rfl, rfl, rfl, rfl, by simp [Value.cells]⟩, ⟨_, _, _, rfl, rfl, rfl, rfl, by simp [Value.cells]⟩, ⟨_, _, _, rfl, rfl, cells1 (S.slI (i := 1) rfl).one, rfl, List.cons_ne_nil _ _⟩, trivial⟩ rfl rfl rfl ?_
                    refine Ho.back ?_
                    refine Ho.one (i := 27) (by kernel_rfl) rfl rfl ?_
                    refine stW rfl rfl T28 rfl rfl (one_cons rfl (one_cons rfl (one_cons rfl (one_cons rfl (one_cons rfl (one_cons rfl (one_cons rfl (one_cons rfl (one_cons rfl (one_cons rfl (one_cons rfl (one_cons rfl (one_cons rfl (one_cons rfl (one_cons rfl (one_cons rfl (one_cons rfl (one_cons rfl (one_cons rfl (one_cons rfl (one_cons rfl (one_cons rfl (one_cons rfl (one_cons rfl (one_cons rfl (one_cons rfl (one_cons rfl (one_cons rfl (one_cons rfl (one_cons rfl (one_cons rfl (one_cons rfl (one_cons rfl (one_cons rfl (one_cons rfl (one_cons rfl (one_cons rfl (one_cons rfl (one_cons rfl (one_cons rfl (one_cons rfl (one_cons (S.slI (i := 1) rfl).one (one_cons rfl one_nil))))))))))))))))))))))))))))))))))))))))))) S (i := 0) rfl rfl ?_
                    intro w14 S
                    have SC := S.pick [false, true, true, true, true, true] rfl
                    refine Ho.on SC ?_
                    refine Ho.done (by kernel_rfl) ?_
                    refine Nrm.code ?_
                    refine Run.seq ?_
                    refine Run.held (by kernel_rfl) S [false, true, true, true, true, true] rfl rfl rfl ?_
                    intro w15 BD S SC
                    refine Ho.take (i := 0) SC Pp.body rfl (by kernel_rfl) (by kernel_rfl) (by kernel_rfl) rfl rfl ?_
                    refine qmv rfl rfl rfl rfl ?_
                    refine Ho.back ?_
                    refine Ho.take (i := 1) SC Pp.body rfl (by kernel_rfl) (by kernel_rfl) (by kernel_rfl) rfl rfl ?_
                    have hv126 := hb.cut (lo := 12) (hi := 16) (mx := capV v) (by have hcap := hb.cap; omega)
                    refine qslC (lo := 12) (hi := 16) (mx := capV v) rfl hb e26 rfl rfl rfl (i1 := some 12) (i2 := some 16) (i3 := none) ⟨_, _, _, rfl, rfl⟩ ⟨_, _, _, rfl, rfl⟩ trivial rfl rfl rfl (fun h => by first | rfl | cases h) (fun hG => by (try simp [allT] at hG); have hcap := hb.cap; omega) ?_
                    refine Ho.back ?_
                    refine Ho.take (i := 3) SC Pp.body rfl (by kernel_rfl) (by kernel_rfl) (by kernel_rfl) rfl rfl ?_
                    refine qmv rfl rfl rfl rfl ?_
                    refine Ho.back ?_
                    refine Ho.take (i := 4) SC Pp.body rfl (by kernel_rfl) (by kernel_rfl) (by kernel_rfl) rfl rfl ?_
                    have hv129 := hb.cut (lo := 16) (hi := 20) (mx := capV v) (by have hcap := hb.cap; omega)
                    refine qslC (lo := 16) (hi := 20) (mx := capV v) rfl hb e26 rfl rfl rfl (i1 := some 16) (i2 := some 20) (i3 := none) ⟨_, _, _, rfl, rfl⟩ ⟨_, _, _, rfl, rfl⟩ trivial rfl rfl rfl (fun h => by first | rfl | cases h) (fun hG => by (try simp [allT] at hG); have hcap := hb.cap; omega) ?_
                    refine Ho.back ?_
                    refine Ho.one (i := 2) (by kernel_rfl) rfl rfl ?_
                    refine calg (vs := [_]) rfl ⟨⟨_, _, rfl, rfl⟩, trivial⟩ k103 rfl (fun hG => c103at _ _ b 12 _ (hv126.now S) (by rw [List.length_take, List.length_drop]; omega) (ipOf_cut b 12)) ?_
                    intro w16 B_; have S := S.call B_
                    have SC := S.pick [false, true, true, true, true, true] rfl
                    refine Ho.on SC ?_
                    refine Ho.take (i := 6) SC Pp.body rfl (by kernel_rfl) (by kernel_rfl) (by kernel_rfl) rfl rfl ?_
                    refine qfld (o' := 7) rfl fo28_7 rfl rfl rfl rfl ?_
                    refine Ho.back ?_
                    refine Ho.one (i := 5) (by kernel_rfl) rfl rfl ?_
                    refine calg (vs := [_]) rfl ⟨⟨_, _, rfl, rfl⟩, trivial⟩ k103 rfl (fun hG => c103at _ _ b 16 _ (hv129.now S) (by rw [List.length_take, List.length_drop]; omega) (ipOf_cut b 16)) ?_
                    intro w17 B_; have S := S.call B_
                    have SC := S.pick [false, true, true, true, true, true] rfl
                    refine Ho.on SC ?_
                    refine Ho.one (i := 7) (by kernel_rfl) rfl rfl ?_
                    refine stA rfl rfl T24 rfl (by decide) (encIP_all1 _) S (i := 0) rfl rfl rfl ?_
                    intro w18 S
                    have SC := S.pick [false, true, true, true, true, true] rfl
                    refine Ho.on SC ?_
                    refine Ho.take (i := 8) SC Pp.body rfl (by kernel_rfl) (by kernel_rfl) (by kernel_rfl) rfl rfl ?_
                    refine qfld (o' := 24) rfl fo28_8 rfl rfl rfl rfl ?_
                    refine Ho.back ?_
                    refine Ho.one (i := 9) (by kernel_rfl) rfl rfl ?_
                    refine stA rfl rfl T24 rfl (by decide) (encIP_all1 _) S (i := 0) rfl rfl rfl ?_
                    intro w19 S
                    have SC := S.pick [false, true, true, true, true, true] rfl
                    refine Ho.on SC ?_
                    refine Ho.done (by kernel_rfl) ?_
                    refine Nrm.code ?_
                    refine Run.seq ?_
                    refine Run.region ?_
                    refine mv1 rfl rfl ?_
                    refine mv1 rfl rfl ?_
                    refine mv1 rfl rfl ?_
                    refine mv1 rfl rfl ?_
                    refine slC (lo := hdN b) (hi := totN b) (mx := totN b) rfl hb e26 rfl rfl rfl (i1 := some (hdN b)) (i2 := some (totN b)) (i3 := some (totN b)) ⟨_, _, _, rfl, rfl⟩ ⟨_, _, _, rfl, rfl⟩ ⟨_, _, _, rfl, rfl⟩ rfl rfl rfl (fun h => by first | rfl | cases h) (fun hG => by (try simp [allT] at hG); have hcap := hb.cap; omega) ?_
                    have hv137 := hb.cut (lo := hdN b) (hi := totN b) (mx := totN b) (by have hcap := hb.cap; omega)
                    refine fld (o' := 42) rfl fo28_10 rfl rfl rfl rfl ?_
                    refine st1 rfl rfl T26 hv137.one S (i := 0) rfl rfl rfl ?_
                    intro w20 S
                    refine Ro.nil ?_
                    refine Nrm.code ?_
                    refine Run.seq ?_
                    refine Run.region ?_
                    refine ldW rfl T28 S (i := 0) rfl rfl rfl rfl rfl ?_
                    refine stW rfl rfl T28 rfl rfl (one_cons rfl (one_cons rfl (one_cons rfl (one_cons rfl (one_cons rfl (one_cons rfl (one_cons rfl (one_cons rfl (one_cons rfl (one_cons rfl (one_cons rfl (one_cons rfl (one_cons rfl (one_cons rfl (one_cons rfl (one_cons rfl (one_cons rfl (one_cons rfl (one_cons rfl (one_cons rfl (one_cons rfl (one_cons rfl (one_cons rfl (one_cons rfl (one_cons rfl (one_cons rfl (one_cons rfl (one_cons rfl (one_cons rfl (one_cons rfl (one_cons rfl (one_cons rfl (one_cons rfl (one_cons rfl (one_cons rfl (one_cons rfl (one_cons rfl (one_cons rfl (one_cons rfl (one_cons rfl (one_cons rfl (one_cons (S.slI (i := 1) rfl).one (one_cons hv137.one one_nil))))))))))))))))))))))))))))))))))))))))))) S (i := 5) rfl rfl ?_
                    intro w21 S
                    refine asg1 rfl rfl ?_
                    refine Ro.nil ?_
                    refine Nrm.code ?_
                    refine Run.ret ?_
                    refine Rt.cell2 rfl rfl rfl T28 S (i := 5) rfl rfl ?_
                    have he : parE b = 0 := by
                      unfold parE
                      rw [if_neg (by omega), if_neg (by omega), if_neg (by omega), if_neg (by omega), if_neg (by omega), if_neg (by omega), if_neg (by omega)]
                      omega
                    exact ⟨_, _, vs, by rw [parH, if_pos he, he]; rfl, by rw [parH, if_pos he]; exact (S.pick [false, true, false, false, false, false] rfl).toFO (i := 0) rfl, fun N w1 h1 => by rw [parH, if_pos he]; exact ⟨hwin N w1 (h1.cut (by have := h1.cap; omega)), h1.cut (by have := h1.cap; omega)⟩⟩
              ·
                try simp only [Bool.or_eq_true, Bool.and_eq_true, Bool.or_eq_false_iff, Bool.and_eq_false_iff, decide_eq_true_eq, decide_eq_false_iff_not, Bool.not_eq_true', Bool.not_eq_false', Bool.not_eq_true, Bool.not_eq_false] at hc17
                refine Run.skip ?_
                refine Nrm.code ?_
                refine Run.seq ?_
                refine Run.seq ?_
                refine Run.region ?_
                refine mv1 rfl rfl ?_
                refine neq1 rfl rfl rfl ?_
                refine Ro.nil ?_
                refine Nrm.code ?_
                refine Run.cond rfl (fun hc19 => ?_) (fun hc19 => ?_)
                ·
                  try simp only [Bool.or_eq_true, Bool.and_eq_true, Bool.or_eq_false_iff, Bool.and_eq_false_iff, decide_eq_true_eq, decide_eq_false_iff_not, Bool.not_eq_true', Bool.not_eq_false', Bool.not_eq_true, Bool.not_eq_false] at hc19
                  refine Run.seq ?_
                  refine Run.region ?_
                  refine bld B28 (qs := []) trivial rfl rfl rfl ?_
                  refine mv1 rfl rfl ?_
                  refine stW rfl rfl T28 rfl rfl (by simp [Value.oneCell']) S (i := 4) rfl rfl ?_
                  intro w9 S
                  refine asg1 rfl rfl ?_
                  refine Ro.nil ?_
                  refine Nrm.code ?_
                  refine Run.ret ?_
                  refine Rt.cell2 rfl rfl rfl T28 S (i := 4) rfl rfl ?_
                  have he : parE b = optE (optB4 b) := by
                    unfold parE
                    rw [if_neg (by omega), if_neg (by omega), if_neg (by omega), if_neg (by omega), if_neg (by omega), if_neg (by omega), if_pos (show optE (optB4 b) ≠ 0 from hc17)]
                  exact ⟨.slice none 0 0, .slice none 0 0, [], by rw [parH_err he (by omega), he]; rfl, by rw [parH_err he (by omega)]; exact (S.nilO).toFO (i := 0) rfl, fun _ _ _ => by rw [parH_err he (by omega)]; exact ⟨trivial, BS.nil _ _⟩⟩
                ·
                  try simp only [Bool.or_eq_true, Bool.and_eq_true, Bool.or_eq_false_iff, Bool.and_eq_false_iff, decide_eq_true_eq, decide_eq_false_iff_not, Bool.not_eq_true', Bool.not_eq_false', Bool.not_eq_true, Bool.not_eq_false] at hc19
                  exfalso; omega

end Go.Proofs.YtkahmepenjhcpaaDoor.W
