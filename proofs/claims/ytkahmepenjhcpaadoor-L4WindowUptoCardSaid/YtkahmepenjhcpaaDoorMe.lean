/- Texts of the proofs of this seat, packed into one (Lw Sl Sm Lx Ra Rb Re Rl Rk). No statement of the seat is proved here. -/
import Derived.Test.YtkahmepenjhcpaaDoorRows
import Derived.OpenShut
import Derived.ChangeStays
import Derived.ChangeBears
import Derived.Deep.Slices
import Derived.WideShapes
import Derived.Lib.LaidTab
import Derived.Below
import Derived.ChangeSame
import Derived.ProofKit
import Derived.Test.YtkahmepenjhcpaaDoorMd
/- Contracts: windows, their rooms told. No statement of the seat is proved here. -/
namespace Go.Proofs.YtkahmepenjhcpaaDoor.W
open Go
set_option linter.unusedSimpArgs false
set_option linter.unusedVariables false
theorem cut_cap {v : Value} {lo hi mx : Nat} {N : List Nat} {w : World} {b : List Int} (h : BS N w v b) : capV (W.cut v lo hi mx) = mx - lo := h.cutCap
theorem caps_snoc {vs : List Value} {acc : List Opt} {q : Value} {o : Opt} (hl : vs.length = acc.length) (h : ∀ (j : Nat) (p : Value), vs[j]? = some p → capV p = (acc.getD j o0).data.length) (hq : capV q = o.data.length) :
    ∀ (j : Nat) (p : Value), (vs ++ [q])[j]? = some p → capV p = ((acc ++ [o]).getD j o0).data.length := by
  intro j p hp
  rcases Nat.lt_or_ge j vs.length with hj | hj
  · rw [List.getElem?_append_left hj] at hp
    rw [h j p hp, List.getD_eq_getElem?_getD, List.getD_eq_getElem?_getD, List.getElem?_append_left (by omega)]
  · rw [List.getElem?_append_right hj] at hp
    have h0 : j - vs.length = 0 := by
      rcases Nat.eq_zero_or_pos (j - vs.length) with h | h
      · exact h
      · rw [List.getElem?_eq_none (by simp; omega)] at hp; cases hp
    rw [h0] at hp
    simp only [List.getElem?_cons_zero, Option.some.injEq] at hp
    subst hp
    have e : j = acc.length := by omega
    subst e
    rw [List.getD_eq_getElem?_getD, List.getElem?_append_right (Nat.le_refl _), Nat.sub_self]
    exact hq
set_option maxHeartbeats 1000000 in
theorem c57W (s d : IP) (v : Value) (b : List Int) (w : World) (hs : s.ok) (ht : d.ok) (hb : BS [] w v b) (hg1 : GV [] w 1 163 (W16.map i64)) :
    CallsV Tryd.prog 57 #[.agg (encIP s).toArray, .agg (encIP d).toArray, v] w (fun r w' => ∃ dv, r = .tuple #[.agg (encUdp (udpU s d b) dv).toArray, .int .i64 (udpE s d b)] ∧ Bl w w' ∧ (∀ N w1, BS N w1 v b → BS N w1 dv (udpU s d b).data) ∧ dv = (if udpE s d b = 0 then cut v 8 (lenU b) (lenU b) else .slice none 0 0)) := by
  refine enter Tryd.func57 rfl Tryd.ntmps57 (l := [(0, [], _), (1, [], _), (2, [], _)]) rfl rfl ?_
  have S := St.refl [] w
  have hB := byt_getD hb.1
  have hfl := fields_udp hb.1
  have hLU : wd2 b 4 = (lenU b : Int) := by have := wd2_bd hb.1 4; unfold lenU; omega
  have hLb := wd2_bd hb.1 4
  have hfo := fitE_or s d
  refine Run.seq ?_
  refine Run.region ?_
  refine boxA rfl S rfl ?_
  intro b3 w1 hb3 S B_
  refine boxA rfl S rfl ?_
  intro b4 w2 hb4 S B_
  refine alc T73 S rfl ?_
  intro b6 w3 hb6 S B_
  refine asg1 rfl rfl ?_
  refine Ro.nil ?_
  refine Nrm.code ?_
  refine Run.seq ?_
  refine Run.seq ?_
  refine Run.region ?_
  refine mv1 rfl rfl ?_
  refine lenS rfl hb.2 Tryd.underlying26 rfl rfl rfl ?_
  refine gtr1 rfl rfl rfl ?_
  refine Ro.nil ?_
  refine Nrm.code ?_
  refine Run.cond rfl (fun hc1 => ?_) (fun hc1 => ?_)
  ·
    try simp only [Bool.or_eq_true, Bool.and_eq_true, Bool.or_eq_false_iff, Bool.and_eq_false_iff, decide_eq_true_eq, decide_eq_false_iff_not, Bool.not_eq_true', Bool.not_eq_false', Bool.not_eq_true, Bool.not_eq_false] at hc1
    refine Run.seq ?_
    refine Run.region ?_
    refine bld B73 (qs := []) trivial rfl rfl rfl ?_
    refine stW rfl rfl T73 rfl rfl (by simp [Value.oneCell']) S (i := 0) rfl rfl ?_
    intro w4 S
    refine asg1 rfl rfl ?_
    refine Ro.nil ?_
    refine Nrm.code ?_
    refine Run.ret ?_
    refine Rt.cell2 rfl rfl rfl T73 S (i := 0) rfl rfl ?_
    have he : udpE s d b = 2 := by
      unfold udpE
      rw [if_pos (by omega)]
    exact ⟨.slice none 0 0, by rw [udp_err he (by omega), he]; rfl, S.bl, ⟨fun _ _ _ => by rw [udp_err he (by omega)]; exact BS.nil _ _, by rw [if_neg (by omega)]⟩⟩
  ·
    try simp only [Bool.or_eq_true, Bool.and_eq_true, Bool.or_eq_false_iff, Bool.and_eq_false_iff, decide_eq_true_eq, decide_eq_false_iff_not, Bool.not_eq_true', Bool.not_eq_false', Bool.not_eq_true, Bool.not_eq_false] at hc1
    refine Run.skip ?_
    refine Nrm.code ?_
    refine Run.seq ?_
    refine Run.seq ?_
    refine Run.region ?_
    refine ldW rfl T24 S (i := 2) rfl rfl rfl rfl rfl ?_
    refine ldW rfl T24 S (i := 1) rfl rfl rfl rfl rfl ?_
    refine calg (vs := [_, _]) rfl ⟨⟨_, _, rfl, rfl⟩, ⟨_, _, rfl, rfl⟩, trivial⟩ k123 rfl (fun hG => c123 s d _ hs ht) ?_
    intro w4 B_; have S := S.call B_
    refine asg1 rfl rfl ?_
    refine Ro.nil ?_
    refine Nrm.code ?_
    refine Run.seq ?_
    refine Run.region ?_
    refine mv1 rfl rfl ?_
    refine neq1 rfl rfl rfl ?_
    refine Ro.nil ?_
    refine Nrm.code ?_
    refine Run.cond rfl (fun hc4 => ?_) (fun hc4 => ?_)
    ·
      try simp only [Bool.or_eq_true, Bool.and_eq_true, Bool.or_eq_false_iff, Bool.and_eq_false_iff, decide_eq_true_eq, decide_eq_false_iff_not, Bool.not_eq_true', Bool.not_eq_false', Bool.not_eq_true, Bool.not_eq_false] at hc4
      refine Run.seq ?_
      refine Run.region ?_
      refine bld B73 (qs := []) trivial rfl rfl rfl ?_
      refine mv1 rfl rfl ?_
      refine stW rfl rfl T73 rfl rfl (by simp [Value.oneCell']) S (i := 0) rfl rfl ?_
      intro w5 S
      refine asg1 rfl rfl ?_
      refine Ro.nil ?_
      refine Nrm.code ?_
      refine Run.ret ?_
      refine Rt.cell2 rfl rfl rfl T73 S (i := 0) rfl rfl ?_
      have he : udpE s d b = fitE s d := by
        unfold udpE
        rw [if_neg (by omega), if_pos (by omega)]
      exact ⟨.slice none 0 0, by rw [udp_err he (by omega), he]; rfl, S.bl, ⟨fun _ _ _ => by rw [udp_err he (by omega)]; exact BS.nil _ _, by rw [if_neg (by omega)]⟩⟩
    ·
      try simp only [Bool.or_eq_true, Bool.and_eq_true, Bool.or_eq_false_iff, Bool.and_eq_false_iff, decide_eq_true_eq, decide_eq_false_iff_not, Bool.not_eq_true', Bool.not_eq_false', Bool.not_eq_true, Bool.not_eq_false] at hc4
      refine Run.skip ?_
      refine Nrm.code ?_
      refine Run.seq ?_
      refine Run.seq ?_
      refine Run.region ?_
      refine mv1 rfl rfl ?_
      refine lenS rfl hb.2 Tryd.underlying26 rfl rfl rfl ?_
      refine lss1 rfl rfl rfl ?_
      refine Ro.nil ?_
      refine Nrm.code ?_
      refine Run.cond rfl (fun hc6 => ?_) (fun hc6 => ?_)
      ·
        try simp only [Bool.or_eq_true, Bool.and_eq_true, Bool.or_eq_false_iff, Bool.and_eq_false_iff, decide_eq_true_eq, decide_eq_false_iff_not, Bool.not_eq_true', Bool.not_eq_false', Bool.not_eq_true, Bool.not_eq_false] at hc6
        refine Run.seq ?_
        refine Run.region ?_
        refine bld B73 (qs := []) trivial rfl rfl rfl ?_
        refine stW rfl rfl T73 rfl rfl (by simp [Value.oneCell']) S (i := 0) rfl rfl ?_
        intro w5 S
        refine asg1 rfl rfl ?_
        refine Ro.nil ?_
        refine Nrm.code ?_
        refine Run.ret ?_
        refine Rt.cell2 rfl rfl rfl T73 S (i := 0) rfl rfl ?_
        have he : udpE s d b = 91 := by
          unfold udpE
          rw [if_neg (by omega), if_neg (by omega), if_pos (by omega)]
        exact ⟨.slice none 0 0, by rw [udp_err he (by omega), he]; rfl, S.bl, ⟨fun _ _ _ => by rw [udp_err he (by omega)]; exact BS.nil _ _, by rw [if_neg (by omega)]⟩⟩
      ·
        try simp only [Bool.or_eq_true, Bool.and_eq_true, Bool.or_eq_false_iff, Bool.and_eq_false_iff, decide_eq_true_eq, decide_eq_false_iff_not, Bool.not_eq_true', Bool.not_eq_false', Bool.not_eq_true, Bool.not_eq_false] at hc6
        refine Run.skip ?_
        refine Nrm.code ?_
        refine Run.seq ?_
        refine Run.region ?_
        refine ldG hg1 S T163 rfl rfl ?_
        refine alc T163 S rfl ?_
        intro b9 w5 hb9 S B_
        refine stW rfl rfl T163 rfl rfl (by simp [Value.oneCell']) S (i := 0) rfl rfl ?_
        intro w6 S
        refine Ro.nil ?_
        refine Nrm.code ?_
        refine Run.seq ?_
        refine Run.region ?_
        refine mv1 rfl rfl ?_
        refine slAT rfl Tryd.underlying163 T3 rfl rfl rfl (i2 := none) trivial rfl (by decide) (by decide) ?_
        refine call (vs := [_, _, _]) ⟨⟨_, _, rfl, rfl⟩, ⟨_, _, rfl, rfl⟩, ⟨_, _, rfl, rfl⟩, trivial⟩ k101 rfl (c101 _ _ _ W16 _ (hb.now S) (S.varSl (i := 0) (m := 4) (sz := 1) rfl rfl rfl (by decide)) (by decide) (by decide) (by decide) (by rw [show W16.sum / 8 = 8 from by decide]; omega) (by omega)) ?_
        rintro _ w7 ⟨u10, rfl, hF⟩
        rw [hfl] at hF
        have S := S.fi hF
        refine mv1 rfl rfl ?_
        refine extr1 rfl rfl rfl ?_
        refine extr1 rfl rfl rfl ?_
        refine extr1 rfl rfl rfl ?_
        refine asg1 rfl rfl ?_
        refine asg1 rfl rfl ?_
        refine asg1 rfl rfl ?_
        refine Ro.nil ?_
        refine Nrm.code ?_
        refine Run.seq ?_
        refine Run.draw (by kernel_rfl) (by kernel_rfl) S ?_
        refine qmv rfl rfl rfl rfl ?_
        refine qixa rfl rfl (S.slI (i := 0) rfl) e132 rfl rfl rfl rfl (fun _ => by first | omega | (simp only [List.length_cons, List.length_nil]; omega)) ?_
        refine qldR rfl (fun _ S => S) (i := 0) rfl T3 rfl rfl rfl (fun _ => rfl) ?_
        refine qmv rfl rfl rfl rfl ?_
        refine qixa rfl rfl (S.slI (i := 0) rfl) e132 rfl rfl rfl rfl (fun _ => by first | omega | (simp only [List.length_cons, List.length_nil]; omega)) ?_
        refine qldR rfl (fun _ S => S) (i := 0) rfl T3 rfl rfl rfl (fun _ => rfl) ?_
        refine qeql rfl rfl rfl rfl rfl rfl ?_
        refine qasg rfl rfl rfl rfl ?_
        refine qasg rfl rfl rfl rfl ?_
        refine Qo.nil (fun w8 S => ?_)
        refine Nrm.code ?_
        refine Run.seq ?_
        refine Run.block ?_
        refine Run.seq ?_
        refine Run.region ?_
        refine mv1 rfl rfl ?_
        refine lss1 rfl rfl rfl ?_
        refine mv1 rfl rfl ?_
        refine mv rfl rfl rfl rfl ?_
        refine mv rfl rfl rfl rfl ?_
        refine lenS rfl hb.2 Tryd.underlying26 rfl rfl rfl ?_
        refine gtr rfl rfl rfl rfl rfl rfl ?_
        refine pkO rfl rfl rfl rfl rfl rfl ?_
        refine asg1 rfl rfl ?_
        refine Ro.nil ?_
        refine Nrm.code ?_
        refine Run.cond rfl (fun hc11 => ?_) (fun hc11 => ?_)
        ·
          try simp only [Bool.or_eq_true, Bool.and_eq_true, Bool.or_eq_false_iff, Bool.and_eq_false_iff, decide_eq_true_eq, decide_eq_false_iff_not, Bool.not_eq_true', Bool.not_eq_false', Bool.not_eq_true, Bool.not_eq_false] at hc11
          refine Run.seq ?_
          refine Run.region ?_
          refine bld B73 (qs := []) trivial rfl rfl rfl ?_
          refine stW rfl rfl T73 rfl rfl (by simp [Value.oneCell']) S (i := 2) rfl rfl ?_
          intro w9 S
          refine asg1 rfl rfl ?_
          refine Ro.nil ?_
          refine Nrm.code ?_
          refine Run.ret ?_
          refine Rt.cell2 rfl rfl rfl T73 S (i := 2) rfl rfl ?_
          have he : udpE s d b = 92 := by
            unfold udpE
            rw [if_neg (by omega), if_neg (by omega), if_neg (by omega), if_pos (by omega)]
          exact ⟨.slice none 0 0, by rw [udp_err he (by omega), he]; rfl, S.bl, ⟨fun _ _ _ => by rw [udp_err he (by omega)]; exact BS.nil _ _, by rw [if_neg (by omega)]⟩⟩
        ·
          try simp only [Bool.or_eq_true, Bool.and_eq_true, Bool.or_eq_false_iff, Bool.and_eq_false_iff, decide_eq_true_eq, decide_eq_false_iff_not, Bool.not_eq_true', Bool.not_eq_false', Bool.not_eq_true, Bool.not_eq_false] at hc11
          refine Run.seq ?_
          refine Run.seq ?_
          refine Run.region ?_
          refine mv1 rfl rfl ?_
          refine mv1 rfl rfl ?_
          refine fld (o' := 0) rfl fo24_0 rfl rfl rfl rfl ?_
          refine ld1 rfl T3 S (i := 4) rfl rfl rfl rfl rfl ?_
          refine eql rfl rfl rfl rfl rfl rfl ?_
          refine pkA rfl rfl rfl rfl rfl rfl ?_
          refine asg1 rfl rfl ?_
          refine Ro.nil ?_
          refine Nrm.code ?_
          refine Run.cond rfl (fun hc13 => ?_) (fun hc13 => ?_)
          ·
            try simp only [Bool.or_eq_true, Bool.and_eq_true, Bool.or_eq_false_iff, Bool.and_eq_false_iff, decide_eq_true_eq, decide_eq_false_iff_not, Bool.not_eq_true', Bool.not_eq_false', Bool.not_eq_true, Bool.not_eq_false] at hc13
            have hA13 := hc13
            refine Run.skip ?_
            refine Nrm.code ?_
            refine Run.cond rfl (fun hc13 => ?_) (fun hc13 => ?_)
            ·
              try simp only [Bool.or_eq_true, Bool.and_eq_true, Bool.or_eq_false_iff, Bool.and_eq_false_iff, decide_eq_true_eq, decide_eq_false_iff_not, Bool.not_eq_true', Bool.not_eq_false', Bool.not_eq_true, Bool.not_eq_false] at hc13
              have hA13 := hc13
              refine Run.seq ?_
              refine Run.region ?_
              refine bld B73 (qs := []) trivial rfl rfl rfl ?_
              refine stW rfl rfl T73 rfl rfl (by simp [Value.oneCell']) S (i := 2) rfl rfl ?_
              intro w9 S
              refine asg1 rfl rfl ?_
              refine Ro.nil ?_
              refine Nrm.code ?_
              refine Run.ret ?_
              refine Rt.cell2 rfl rfl rfl T73 S (i := 2) rfl rfl ?_
              have he : udpE s d b = 93 := by
                unfold udpE
                rw [if_neg (by omega), if_neg (by omega), if_neg (by omega), if_neg (by omega), if_pos (by omega), if_pos (by omega)]
              exact ⟨.slice none 0 0, by rw [udp_err he (by omega), he]; rfl, S.bl, ⟨fun _ _ _ => by rw [udp_err he (by omega)]; exact BS.nil _ _, by rw [if_neg (by omega)]⟩⟩
            ·
              try simp only [Bool.or_eq_true, Bool.and_eq_true, Bool.or_eq_false_iff, Bool.and_eq_false_iff, decide_eq_true_eq, decide_eq_false_iff_not, Bool.not_eq_true', Bool.not_eq_false', Bool.not_eq_true, Bool.not_eq_false] at hc13
              exfalso; omega
          ·
            try simp only [Bool.or_eq_true, Bool.and_eq_true, Bool.or_eq_false_iff, Bool.and_eq_false_iff, decide_eq_true_eq, decide_eq_false_iff_not, Bool.not_eq_true', Bool.not_eq_false', Bool.not_eq_true, Bool.not_eq_false] at hc13
            refine Run.held (by kernel_rfl) S [true, true, true, true, true] rfl rfl rfl ?_
            intro w9 BD S SC
            refine Ho.take (i := 0) SC Pp.body rfl (by kernel_rfl) (by kernel_rfl) (by kernel_rfl) rfl rfl ?_
            refine qmv rfl rfl rfl rfl ?_
            refine Ho.back ?_
            refine Ho.take (i := 1) SC Pp.body rfl (by kernel_rfl) (by kernel_rfl) (by kernel_rfl) rfl rfl ?_
            refine qnt rfl rfl rfl rfl ?_
            refine Ho.back ?_
            refine Ho.take (i := 2) SC Pp.body rfl (by kernel_rfl) (by kernel_rfl) (by kernel_rfl) rfl rfl ?_
            refine qmv rfl rfl rfl rfl ?_
            refine Ho.back ?_
            refine Ho.take (i := 3) SC Pp.body rfl (by kernel_rfl) (by kernel_rfl) (by kernel_rfl) rfl rfl ?_
            refine qldW rfl T24 (fun _ S => S) (i := 4) rfl rfl rfl rfl rfl ?_
            refine Ho.back ?_
            refine Ho.take (i := 4) SC Pp.body rfl (by kernel_rfl) (by kernel_rfl) (by kernel_rfl) rfl rfl ?_
            refine qldW rfl T24 (fun _ S => S) (i := 3) rfl rfl rfl rfl rfl ?_
            refine Ho.back ?_
            refine Ho.take (i := 5) SC Pp.body rfl (by kernel_rfl) (by kernel_rfl) (by kernel_rfl) rfl rfl ?_
            refine qmv rfl rfl rfl rfl ?_
            refine Ho.back ?_
            refine Ho.take (i := 6) SC Pp.body rfl (by kernel_rfl) (by kernel_rfl) (by kernel_rfl) rfl rfl ?_
            refine qmv rfl rfl rfl rfl ?_
            refine Ho.back ?_
            refine Ho.take (i := 7) SC Pp.body rfl (by kernel_rfl) (by kernel_rfl) (by kernel_rfl) rfl rfl ?_
            refine qslC (lo := 0) (hi := lenU b) (mx := capV v) rfl hb e26 rfl rfl rfl (i1 := none) (i2 := some (lenU b)) (i3 := none) trivial ⟨_, _, _, rfl, rfl⟩ trivial rfl rfl rfl (fun h => by first | rfl | cases h) (fun hG => by (try simp [allT] at hG); have hcap := hb.cap; omega) ?_
            refine Ho.back ?_
            refine Ho.one (i := 8) (by kernel_rfl) rfl rfl ?_
            refine calg (vs := [_, _, _, _]) rfl ⟨⟨_, _, rfl, rfl⟩, ⟨_, _, rfl, rfl⟩, ⟨_, _, rfl, rfl⟩, ⟨_, _, rfl, rfl⟩, trivial⟩ k124 rfl (fun hG => c124 s d 17 _ (b.take (lenU b)) _ hs ht ((hb.cut (lo := 0) (hi := lenU b) (mx := capV v) (by have := hb.cap; omega)).now S) (by rw [List.length_take]; omega) (fit_pse (by omega) (by decide) (by rw [List.length_take]; omega))) ?_
            intro w10 B_; have S := S.call B_
            have SC := S.pick [true, true, true, true, true] rfl
            refine Ho.on SC ?_
            refine Ho.take (i := 9) SC Pp.body rfl (by kernel_rfl) (by kernel_rfl) (by kernel_rfl) rfl rfl ?_
            refine qnt rfl rfl rfl rfl ?_
            refine Ho.back ?_
            refine Ho.take (i := 10) SC Pp.body rfl (by kernel_rfl) (by kernel_rfl) (by kernel_rfl) rfl rfl ?_
            refine qpkA rfl rfl rfl rfl rfl rfl ?_
            refine Ho.back ?_
            refine Ho.take (i := 11) SC Pp.body rfl (by kernel_rfl) (by kernel_rfl) (by kernel_rfl) rfl rfl ?_
            refine qasg rfl rfl rfl rfl ?_
            refine Ho.back ?_
            refine Ho.done (by kernel_rfl) ?_
            refine Nrm.code ?_
            refine Run.cond rfl (fun hc14 => ?_) (fun hc14 => ?_)
            ·
              try simp only [Bool.or_eq_true, Bool.and_eq_true, Bool.or_eq_false_iff, Bool.and_eq_false_iff, decide_eq_true_eq, decide_eq_false_iff_not, Bool.not_eq_true', Bool.not_eq_false', Bool.not_eq_true, Bool.not_eq_false] at hc14
              have hz6 : ¬ wd2 b 6 = 0 := by simpa using hc14.1
              have hgd : psum s d 17 (b.take (lenU b)) ≠ 65535 := by simpa using hc14.2
              refine Run.seq ?_
              refine Run.region ?_
              refine bld B73 (qs := []) trivial rfl rfl rfl ?_
              refine stW rfl rfl T73 rfl rfl (by simp [Value.oneCell']) S (i := 2) rfl rfl ?_
              intro w11 S
              refine asg1 rfl rfl ?_
              refine Ro.nil ?_
              refine Nrm.code ?_
              refine Run.ret ?_
              refine Rt.cell2 rfl rfl rfl T73 S (i := 2) rfl rfl ?_
              have he : udpE s d b = 93 := by
                unfold udpE
                rw [if_neg (by omega), if_neg (by omega), if_neg (by omega), if_neg (by omega), if_neg hz6, if_pos hgd]
              exact ⟨.slice none 0 0, by rw [udp_err he (by omega), he]; rfl, S.bl, ⟨fun _ _ _ => by rw [udp_err he (by omega)]; exact BS.nil _ _, by rw [if_neg (by omega)]⟩⟩
            ·
              try simp only [Bool.or_eq_true, Bool.and_eq_true, Bool.or_eq_false_iff, Bool.and_eq_false_iff, decide_eq_true_eq, decide_eq_false_iff_not, Bool.not_eq_true', Bool.not_eq_false', Bool.not_eq_true, Bool.not_eq_false] at hc14
              refine Run.skip ?_
              refine Nrm.blk ?_
              refine Nrm.code ?_
              refine Run.seq ?_
              refine Run.heldB (by kernel_rfl) S [true, true, false, true, true] rfl rfl rfl ?_
              intro w11 BD S SC
              refine Hb.take (i := 0) SC (fun _ _ S B => S.call B) Pp.body rfl (by kernel_rfl) (by kernel_rfl) (by kernel_rfl) rfl rfl ?_
              refine qmv rfl rfl rfl rfl ?_
              refine Hb.back ?_
              refine Hb.take (i := 1) SC (fun _ _ S B => S.call B) Pp.body rfl (by kernel_rfl) (by kernel_rfl) (by kernel_rfl) rfl rfl ?_
              refine qixa rfl rfl (S.slI (i := 0) rfl) e132 rfl rfl rfl rfl (fun _ => by first | omega | (simp only [List.length_cons, List.length_nil]; omega)) ?_
              refine Hb.back ?_
              refine Hb.take (i := 2) SC (fun _ _ S B => S.call B) Pp.body rfl (by kernel_rfl) (by kernel_rfl) (by kernel_rfl) rfl rfl ?_
              refine qldR rfl (fun _ S => S) (i := 0) rfl T3 rfl rfl rfl (fun _ => rfl) ?_
              refine Hb.back ?_
              refine Hb.take (i := 3) SC (fun _ _ S B => S.call B) Pp.body rfl (by kernel_rfl) (by kernel_rfl) (by kernel_rfl) rfl rfl ?_
              refine qmv rfl rfl rfl rfl ?_
              refine Hb.back ?_
              refine Hb.take (i := 4) SC (fun _ _ S B => S.call B) Pp.body rfl (by kernel_rfl) (by kernel_rfl) (by kernel_rfl) rfl rfl ?_
              refine qixa rfl rfl (S.slI (i := 0) rfl) e132 rfl rfl rfl rfl (fun _ => by first | omega | (simp only [List.length_cons, List.length_nil]; omega)) ?_
              refine Hb.back ?_
              refine Hb.take (i := 5) SC (fun _ _ S B => S.call B) Pp.body rfl (by kernel_rfl) (by kernel_rfl) (by kernel_rfl) rfl rfl ?_
              refine qldR rfl (fun _ S => S) (i := 0) rfl T3 rfl rfl rfl (fun _ => rfl) ?_
              refine Hb.back ?_
              refine Hb.take (i := 6) SC (fun _ _ S B => S.call B) Pp.body rfl (by kernel_rfl) (by kernel_rfl) (by kernel_rfl) rfl rfl ?_
              refine qmv rfl rfl rfl rfl ?_
              refine Hb.back ?_
              refine Hb.take (i := 7) SC (fun _ _ S B => S.call B) Pp.body rfl (by kernel_rfl) (by kernel_rfl) (by kernel_rfl) rfl rfl ?_
              refine qmv rfl rfl rfl rfl ?_
              refine Hb.back ?_
              refine Hb.take (i := 8) SC (fun _ _ S B => S.call B) Pp.body rfl (by kernel_rfl) (by kernel_rfl) (by kernel_rfl) rfl rfl ?_
              refine qmv rfl rfl rfl rfl ?_
              refine Hb.back ?_
              refine Hb.take (i := 9) SC (fun _ _ S B => S.call B) Pp.body rfl (by kernel_rfl) (by kernel_rfl) (by kernel_rfl) rfl rfl ?_
              refine qmv rfl rfl rfl rfl ?_
              refine Hb.back ?_
              refine Hb.take (i := 10) SC (fun _ _ S B => S.call B) Pp.body rfl (by kernel_rfl) (by kernel_rfl) (by kernel_rfl) rfl rfl ?_
              have hv84 := hb.cut (lo := 8) (hi := lenU b) (mx := lenU b) (by have hcap := hb.cap; omega)
              refine qslC (lo := 8) (hi := lenU b) (mx := lenU b) rfl hb e26 rfl rfl rfl (i1 := some 8) (i2 := some (lenU b)) (i3 := some (lenU b)) ⟨_, _, _, rfl, rfl⟩ ⟨_, _, _, rfl, rfl⟩ ⟨_, _, _, rfl, rfl⟩ rfl rfl rfl (fun h => by first | rfl | cases h) (fun hG => by (try simp [allT] at hG); have hcap := hb.cap; omega) ?_
              refine Hb.back ?_
              refine Hb.take (i := 11) SC (fun _ _ S B => S.call B) Pp.body rfl (by kernel_rfl) (by kernel_rfl) (by kernel_rfl) rfl rfl ?_
              refine qbld B73 (qs := [(_, _), (_, _), (_, _), (_, _)]) ⟨⟨_, _, _, rfl, rfl, rfl, rfl, by first | (simp [Value.cells]; done) | simp [Value.cells, encIP]⟩, ⟨_, _, _, rfl, rfl, rfl, rfl, by first | (simp [Value.cells]; done) | simp [Value.cells, encIP]⟩, ⟨_, _, _, rfl, rfl, rfl, rfl, by first | (simp [Value.cells]; done) | simp [Value.cells, encIP]⟩, ⟨_, _, _, rfl, rfl, cells1 hv84.one, rfl, List.cons_ne_nil _ _⟩, trivial⟩ rfl rfl rfl ?_
              refine Hb.back ?_
              refine Hb.one (i := 12) (by kernel_rfl) rfl rfl ?_
              intro w12 BD; have S := S.call BD
              refine stW rfl rfl T73 rfl rfl (one_cons rfl (one_cons rfl (one_cons rfl (one_cons hv84.one one_nil)))) S (i := 2) rfl rfl ?_
              intro w13 S
              have SC := S.pick [true, true, false, true, true] rfl
              refine Hb.on SC ?_
              refine Hb.take (i := 13) SC (fun _ _ S B => S.call B) Pp.body rfl (by kernel_rfl) (by kernel_rfl) (by kernel_rfl) rfl rfl ?_
              refine qasg rfl rfl rfl rfl ?_
              refine Hb.back ?_
              refine Hb.done (by kernel_rfl) ?_
              intro w14 BD; have S := S.call BD
              refine Nrm.code ?_
              refine Run.ret ?_
              refine Rt.cell2 rfl rfl rfl T73 S (i := 2) rfl rfl ?_
              have hE : udpE s d b = 0 := by
                unfold udpE
                rw [if_neg (by omega), if_neg (by omega), if_neg (by omega), if_neg (by omega)]
                by_cases hz : wd2 b 6 = 0
                · rw [if_pos hz, if_neg (by omega)]
                · have hgd : psum s d 17 (b.take (lenU b)) = 65535 := by
                    rcases hc14 with h | h
                    · exact absurd (by simpa using h) hz
                    · simpa using h
                  rw [if_neg hz, if_neg (by omega)]
              exact ⟨cut v 8 (lenU b) (lenU b), by rw [udpU, if_pos hE, hE]; rfl, S.bl, ⟨fun N w1 h1 => by rw [udpU, if_pos hE]; exact h1.cut (by have := h1.cap; omega), by rw [if_pos hE]⟩⟩
set_option maxHeartbeats 1000000 in
theorem c67W (v : Value) (b : List Int) (w : World) (hb : BS [] w v b) (hg3 : GV [] w 3 183 (lenT.map u64)) :
    CallsV Tryd.prog 67 #[v] w (fun r w' => ∃ u vs, r = .tuple #[u, .int .i64 (tE b)] ∧ FO w w' u (tL b) vs ∧ (∀ N w1, BS N w1 v b → OSs N w1 vs (tL b)) ∧ vs.length = (tL b).length ∧ (∀ (j : Nat) (p : Value), vs[j]? = some p → capV p = ((tL b).getD j o0).data.length)) := by
  refine enter Tryd.func67 rfl Tryd.ntmps67 (l := [(0, [], _)]) rfl rfl ?_
  have S := St.refl [] w
  refine Run.seq ?_
  refine Run.region ?_
  refine asg1 rfl rfl ?_
  refine asg1 rfl rfl ?_
  refine Ro.nil ?_
  refine Nrm.code ?_
  refine Run.seq ?_
  refine Run.seq ?_
  refine Run.region ?_
  refine mv1 rfl rfl ?_
  refine lenS rfl hb.2 Tryd.underlying26 rfl rfl rfl ?_
  refine gtr1 rfl rfl rfl ?_
  refine Ro.nil ?_
  refine Nrm.code ?_
  refine Run.cond rfl (fun hc1 => ?_) (fun hc1 => ?_)
  ·
    try simp only [Bool.or_eq_true, Bool.and_eq_true, Bool.or_eq_false_iff, Bool.and_eq_false_iff, decide_eq_true_eq, decide_eq_false_iff_not, Bool.not_eq_true', Bool.not_eq_false', Bool.not_eq_true, Bool.not_eq_false] at hc1
    refine Run.seq ?_
    refine Run.region ?_
    refine asg1 rfl rfl ?_
    refine asg1 rfl rfl ?_
    refine Ro.nil ?_
    refine Nrm.code ?_
    refine Run.ret ?_
    refine Rt.two rfl rfl rfl ?_
    have hbad := topt_long (b := b) (by omega)
    have S := S.nilO
    exact ⟨.slice none 0 0, [], by rw [hbad.1], by rw [hbad.2]; exact S.toFO (i := 0) rfl, fun _ _ _ => by rw [hbad.2]; trivial, by rw [hbad.2]; rfl, fun j p h => by simp at h⟩
  ·
    try simp only [Bool.or_eq_true, Bool.and_eq_true, Bool.or_eq_false_iff, Bool.and_eq_false_iff, decide_eq_true_eq, decide_eq_false_iff_not, Bool.not_eq_true', Bool.not_eq_false', Bool.not_eq_true, Bool.not_eq_false] at hc1
    refine Run.skip ?_
    refine Nrm.code ?_
    refine Run.seq ?_
    refine Run.region ?_
    refine asg1 rfl rfl ?_
    have S := S.nilO
    refine Ro.nil ?_
    refine Nrm.code ?_
    refine Run.seq ?_
    refine Run.seq ?_
    refine Run.region ?_
    refine asg1 rfl rfl ?_
    refine Ro.nil ?_
    refine Nrm.code ?_
    refine Run.block ?_
    refine Run.loop4 (fun (i : Nat) (u : Value) (acc : List Opt) (vs : List Value) w_ => i ≤ b.length ∧ vs.length = acc.length ∧ acc.length ≤ i ∧ toptAcc b acc i ∧ (∀ N w1, BS N w1 v b → OSs N w1 vs acc) ∧ (∀ (j : Nat) (p : Value), vs[j]? = some p → capV p = (acc.getD j o0).data.length) ∧ St [] w [oO u acc vs] w_) (fun (i : Nat) (u : Value) (acc : List Opt) (vs : List Value) => [(0, [], v), (4, [], u), (5, [], .int .i64 i)]) (fun (i : Nat) (u : Value) (acc : List Opt) (vs : List Value) => b.length - i) (0) (_) ([]) ([]) ⟨Nat.zero_le _, rfl, Nat.le_refl _, toptAcc.zero b, fun _ _ _ => trivial, fun j p h => by simp at h, S⟩ ⟨rfl, rfl, rfl, trivial⟩ ?_
    rintro i u acc vs w1 ⟨hi, hvl, hal, hacc, hvs, hcp, S⟩
    refine Run.seq ?_
    refine Run.seq ?_
    refine Run.region ?_
    refine mv1 rfl rfl ?_
    refine mv1 rfl rfl ?_
    refine lenS rfl hb.2 Tryd.underlying26 rfl rfl rfl ?_
    refine lss1 rfl rfl rfl ?_
    refine Ro.nil ?_
    refine Nrm.code ?_
    refine Run.cond rfl (fun hc5 => ?_) (fun hc5 => ?_)
    ·
      try simp only [Bool.or_eq_true, Bool.and_eq_true, Bool.or_eq_false_iff, Bool.and_eq_false_iff, decide_eq_true_eq, decide_eq_false_iff_not, Bool.not_eq_true', Bool.not_eq_false', Bool.not_eq_true, Bool.not_eq_false] at hc5
      refine Run.skip ?_
      refine Nrm.code ?_
      refine Run.block ?_
      refine Run.seq ?_
      refine Run.region ?_
      refine mv1 rfl rfl ?_
      refine mv1 rfl rfl ?_
      refine ixa rfl rfl hb.2 e26 rfl rfl rfl rfl (fun _ => by first | omega | (simp only [List.length_cons, List.length_nil]; omega)) ?_
      refine ldB rfl hb S T5 rfl rfl rfl (fun _ => by omega) ?_
      intro q18 hq18 hbq18
      try simp only [Int.toNat_natCast, Nat.mul_one, Int.reduceToNat] at hq18
      refine cvi1 rfl rfl Tryd.underlying5 Tryd.underlying3 (w64 (by omega)) ?_
      refine asg1 rfl rfl ?_
      refine Ro.nil ?_
      refine Nrm.code ?_
      refine Run.seq ?_
      refine Run.seq ?_
      refine Run.region ?_
      refine mv1 rfl rfl ?_
      refine eql1 rfl rfl rfl ?_
      refine Ro.nil ?_
      refine Nrm.code ?_
      refine Run.cond rfl (fun hc7 => ?_) (fun hc7 => ?_)
      ·
        try simp only [Bool.or_eq_true, Bool.and_eq_true, Bool.or_eq_false_iff, Bool.and_eq_false_iff, decide_eq_true_eq, decide_eq_false_iff_not, Bool.not_eq_true', Bool.not_eq_false', Bool.not_eq_true, Bool.not_eq_false] at hc7
        refine Run.exit ?_
        refine Lv.code ?_
        refine Lv.miss rfl ?_
        refine Lv.back ?_
        refine Lv.hit ?_
        refine Nrm.code ?_
        refine Run.seq ?_
        refine Run.region ?_
        refine mv1 rfl rfl ?_
        refine asg1 rfl rfl ?_
        refine asg1 rfl rfl ?_
        refine Ro.nil ?_
        refine Nrm.code ?_
        refine Run.ret ?_
        refine Rt.two rfl rfl rfl ?_
        have hg := hacc.good (by omega) (topts_zero (by omega) (by omega))
        exact ⟨u, vs, by rw [hg.1], by rw [hg.2]; exact S.toFO (i := 0) rfl, by rw [hg.2]; exact hvs, by rw [hg.2]; exact hvl, by rw [hg.2]; exact hcp⟩
      ·
        try simp only [Bool.or_eq_true, Bool.and_eq_true, Bool.or_eq_false_iff, Bool.and_eq_false_iff, decide_eq_true_eq, decide_eq_false_iff_not, Bool.not_eq_true', Bool.not_eq_false', Bool.not_eq_true, Bool.not_eq_false] at hc7
        refine Run.skip ?_
        refine Nrm.code ?_
        refine Run.seq ?_
        refine Run.seq ?_
        refine Run.region ?_
        refine mv1 rfl rfl ?_
        refine eql1 rfl rfl rfl ?_
        refine Ro.nil ?_
        refine Nrm.code ?_
        refine Run.cond rfl (fun hc8 => ?_) (fun hc8 => ?_)
        ·
          try simp only [Bool.or_eq_true, Bool.and_eq_true, Bool.or_eq_false_iff, Bool.and_eq_false_iff, decide_eq_true_eq, decide_eq_false_iff_not, Bool.not_eq_true', Bool.not_eq_false', Bool.not_eq_true, Bool.not_eq_false] at hc8
          refine Run.seq ?_
          refine Run.region ?_
          refine mv1 rfl rfl ?_
          refine add1 rfl rfl rfl (w64 (by omega)) ?_
          refine asg1 rfl rfl ?_
          refine Ro.nil ?_
          refine Nrm.code ?_
          refine Run.exit ?_
          refine Lv.code ?_
          refine Lv.hit ?_
          refine Nrm.loop4 (i + 1) (_) (_) (_) ⟨by omega, hvl, by omega, hacc.skip (topts_one (by omega) (by omega)), hvs, hcp, S⟩ (by omega) ⟨rfl, rfl, rfl, trivial⟩
        ·
          try simp only [Bool.or_eq_true, Bool.and_eq_true, Bool.or_eq_false_iff, Bool.and_eq_false_iff, decide_eq_true_eq, decide_eq_false_iff_not, Bool.not_eq_true', Bool.not_eq_false', Bool.not_eq_true, Bool.not_eq_false] at hc8
          refine Run.skip ?_
          refine Nrm.code ?_
          refine Run.seq ?_
          refine Run.seq ?_
          refine Run.region ?_
          refine mv1 rfl rfl ?_
          refine add1 rfl rfl rfl (w64 (by omega)) ?_
          refine mv1 rfl rfl ?_
          refine lenS rfl hb.2 Tryd.underlying26 rfl rfl rfl ?_
          refine eql1 rfl rfl rfl ?_
          refine Ro.nil ?_
          refine Nrm.code ?_
          refine Run.cond rfl (fun hc10 => ?_) (fun hc10 => ?_)
          ·
            try simp only [Bool.or_eq_true, Bool.and_eq_true, Bool.or_eq_false_iff, Bool.and_eq_false_iff, decide_eq_true_eq, decide_eq_false_iff_not, Bool.not_eq_true', Bool.not_eq_false', Bool.not_eq_true, Bool.not_eq_false] at hc10
            refine Run.seq ?_
            refine Run.region ?_
            refine asg1 rfl rfl ?_
            refine asg1 rfl rfl ?_
            refine Ro.nil ?_
            refine Nrm.code ?_
            refine Run.ret ?_
            refine Rt.two rfl rfl rfl ?_
            have hbad := hacc.bad (by omega) (topts_end (by omega) (by omega) (by omega))
            have S := S.nilO
            exact ⟨.slice none 0 0, [], by rw [hbad.1], by rw [hbad.2]; exact S.toFO (i := 0) rfl, fun _ _ _ => by rw [hbad.2]; trivial, by rw [hbad.2]; rfl, fun j p h => by simp at h⟩
          ·
            try simp only [Bool.or_eq_true, Bool.and_eq_true, Bool.or_eq_false_iff, Bool.and_eq_false_iff, decide_eq_true_eq, decide_eq_false_iff_not, Bool.not_eq_true', Bool.not_eq_false', Bool.not_eq_true, Bool.not_eq_false] at hc10
            refine Run.skip ?_
            refine Nrm.code ?_
            refine Run.seq ?_
            refine Run.region ?_
            refine mv1 rfl rfl ?_
            refine mv1 rfl rfl ?_
            refine add1 rfl rfl rfl (w64 (by omega)) ?_
            refine ixa rfl rfl hb.2 e26 rfl rfl rfl rfl (fun _ => by first | omega | (simp only [List.length_cons, List.length_nil]; omega)) ?_
            refine ldB rfl hb S T5 rfl rfl rfl (fun _ => by omega) ?_
            intro q35 hq35 hbq35
            try simp only [Int.toNat_natCast, Nat.mul_one, Int.reduceToNat] at hq35
            replace hq35 : q35 = b.getD (i + 1) 0 := hq35
            refine cvi1 rfl rfl Tryd.underlying5 Tryd.underlying3 (w64 (by omega)) ?_
            refine asg1 rfl rfl ?_
            refine Ro.nil ?_
            refine Nrm.code ?_
            refine Run.seq ?_
            refine Run.seq ?_
            refine Run.region ?_
            refine mv1 rfl rfl ?_
            refine lss1 rfl rfl rfl ?_
            refine mv1 rfl rfl ?_
            refine mv rfl rfl rfl rfl ?_
            refine mv rfl rfl rfl rfl ?_
            refine add rfl rfl rfl rfl rfl rfl (fun hG => by first | exact w64 (by omega) | (simp [allT] at hG; exact w64 (by omega))) ?_
            refine mv rfl rfl rfl rfl ?_
            refine lenS rfl hb.2 Tryd.underlying26 rfl rfl rfl ?_
            refine gtr rfl rfl rfl rfl rfl rfl ?_
            refine pkO rfl rfl rfl rfl rfl rfl ?_
            refine mv1 rfl rfl ?_
            refine mv rfl rfl rfl rfl ?_
            refine mv rfl rfl rfl rfl ?_
            refine calg (vs := [_, _]) rfl ⟨⟨_, _, rfl, rfl⟩, ⟨_, _, rfl, rfl⟩, trivial⟩ k127 rfl (fun hG => by have h127 := c127 q18 q35 _ (by omega) (by omega) (hg3.now S); rw [right_len (by omega) (by (simp [allT] at hG); omega)] at h127; exact h127) ?_
            intro w2 B_; have S := S.call B_
            refine nt rfl rfl rfl rfl ?_
            refine pkO rfl rfl rfl rfl rfl rfl ?_
            refine Ro.nil ?_
            refine Nrm.code ?_
            refine Run.cond rfl (fun hc13 => ?_) (fun hc13 => ?_)
            ·
              try simp only [Bool.or_eq_true, Bool.and_eq_true, Bool.or_eq_false_iff, Bool.and_eq_false_iff, decide_eq_true_eq, decide_eq_false_iff_not, Bool.not_eq_true', Bool.not_eq_false', Bool.not_eq_true, Bool.not_eq_false] at hc13
              refine Run.seq ?_
              refine Run.region ?_
              refine asg1 rfl rfl ?_
              refine asg1 rfl rfl ?_
              refine Ro.nil ?_
              refine Nrm.code ?_
              refine Run.ret ?_
              refine Rt.two rfl rfl rfl ?_
              have hno : toptsG (b.drop i) = none := by
                by_cases hlt : q35 < 2 ∨ (b.length : Int) < i + q35
                · exact topts_bad (by omega) (by omega) (by omega) (by omega)
                · obtain ⟨m, hm⟩ : ∃ m : Nat, q35 = m := ⟨q35.toNat, by omega⟩
                  have hrf : refLen q18 q35 = false := by
                    rcases hc13 with h | h
                    · exact absurd h hlt
                    · exact h
                  rw [hm, hq18] at hrf
                  exact topts_no (by omega) (by omega) (by rw [← hm]; exact hq35.symm) (by omega) (by omega) hrf
              have hbad := hacc.bad (by omega) hno
              have S := S.nilO
              exact ⟨.slice none 0 0, [], by rw [hbad.1], by rw [hbad.2]; exact S.toFO (i := 0) rfl, fun _ _ _ => by rw [hbad.2]; trivial, by rw [hbad.2]; rfl, fun j p h => by simp at h⟩
            ·
              try simp only [Bool.or_eq_true, Bool.and_eq_true, Bool.or_eq_false_iff, Bool.and_eq_false_iff, decide_eq_true_eq, decide_eq_false_iff_not, Bool.not_eq_true', Bool.not_eq_false', Bool.not_eq_true, Bool.not_eq_false] at hc13
              obtain ⟨m, hm⟩ : ∃ m : Nat, q35 = m := ⟨q35.toNat, by omega⟩
              subst hm
              have hrf : refLen q18 (m : Int) = true := by simpa using hc13.2
              replace hc13 := hc13.1
              replace hq35 : (m : Int) = b.getD (i + 1) 0 := hq35
              refine Run.skip ?_
              refine Nrm.code ?_
              refine Run.seq ?_
              refine Run.region ?_
              refine mv1 rfl rfl ?_
              refine mv1 rfl rfl ?_
              refine mv1 rfl rfl ?_
              refine mv1 rfl rfl ?_
              refine add1 rfl rfl rfl (w64 (by omega)) ?_
              refine mv1 rfl rfl ?_
              refine mv1 rfl rfl ?_
              refine add1 rfl rfl rfl (w64 (by omega)) ?_
              refine mv1 rfl rfl ?_
              refine mv1 rfl rfl ?_
              refine add1 rfl rfl rfl (w64 (by omega)) ?_
              refine slC (lo := i + 2) (hi := i + m) (mx := i + m) rfl hb e26 rfl rfl rfl (i1 := some (i + 2)) (i2 := some (i + m)) (i3 := some (i + m)) ⟨_, _, _, rfl, rfl⟩ ⟨_, _, _, rfl, rfl⟩ ⟨_, _, _, rfl, rfl⟩ rfl rfl rfl (fun h => by first | rfl | cases h) (fun hG => by (try simp [allT] at hG); have hcap := hb.cap; omega) ?_
              have hv64 := hb.cut (lo := i + 2) (hi := i + m) (mx := i + m) (by have hcap := hb.cap; omega)
              refine bld B93 (qs := [(_, _), (_, _)]) ⟨⟨_, _, _, rfl, rfl, rfl, rfl, by first | (simp [Value.cells]; done) | simp [Value.cells, encIP]⟩, ⟨_, _, _, rfl, rfl, cells1 hv64.one, rfl, List.cons_ne_nil _ _⟩, trivial⟩ rfl rfl rfl ?_
              refine apOF (dt := (b.drop (i + 2)).take (i + m - (i + 2))) rfl e25 (qs := [(_, _)]) ⟨⟨_, _, _, rfl, rfl, rfl, rfl, by first | (simp [Value.cells]; done) | simp [Value.cells, encIP]⟩, trivial⟩ rfl hv64.one hvl S (i := 0) rfl rfl rfl (fun t e => by cases e; rfl) (fun _ => rfl) (by first | omega | (simp only [List.length_nil, List.length_append, List.length_cons]; omega)) ?_
              intro u_ u2 w3 S B_
              refine asg1 rfl rfl ?_
              refine Ro.nil ?_
              refine Nrm.code ?_
              refine Run.region ?_
              refine mv1 rfl rfl ?_
              refine mv1 rfl rfl ?_
              refine add1 rfl rfl rfl (w64 (by omega)) ?_
              refine asg1 rfl rfl ?_
              refine Ro.nil ?_
              refine Nrm.blk ?_
              refine Nrm.loop4 (i + m) (_) (_) (_) ⟨by omega, by simp [hvl], acc_len hal _ (by omega), hacc.step (by rw [hq18]; exact topts_go (by omega) (by omega) hq35.symm (by omega) (by omega) (by rw [← hq18]; exact hrf)),
                      fun N w1 h1 => (hvs N w1 h1).snoc (h1.cut (by have := h1.cap; omega)), caps_snoc (o := ⟨q18, (b.drop (i + 2)).take (i + m - (i + 2))⟩) hvl hcp (by rw [cut_cap hb, List.length_take, List.length_drop]; omega), S⟩ (by omega) ⟨rfl, rfl, rfl, trivial⟩
    ·
      try simp only [Bool.or_eq_true, Bool.and_eq_true, Bool.or_eq_false_iff, Bool.and_eq_false_iff, decide_eq_true_eq, decide_eq_false_iff_not, Bool.not_eq_true', Bool.not_eq_false', Bool.not_eq_true, Bool.not_eq_false] at hc5
      refine Run.exit ?_
      refine Lv.code ?_
      refine Lv.back ?_
      refine Lv.hit ?_
      refine Nrm.code ?_
      refine Run.seq ?_
      refine Run.region ?_
      refine mv1 rfl rfl ?_
      refine asg1 rfl rfl ?_
      refine asg1 rfl rfl ?_
      refine Ro.nil ?_
      refine Nrm.code ?_
      refine Run.ret ?_
      refine Rt.two rfl rfl rfl ?_
      have hg := hacc.good (by omega) (topts_nil (by omega))
      exact ⟨u, vs, by rw [hg.1], by rw [hg.2]; exact S.toFO (i := 0) rfl, by rw [hg.2]; exact hvs, by rw [hg.2]; exact hvl, by rw [hg.2]; exact hcp⟩
set_option maxHeartbeats 1000000 in
theorem c62W (s d : IP) (v : Value) (b : List Int) (w : World) (hs : s.ok) (ht : d.ok) (hb : BS [] w v b) (hg2 : GV [] w 2 166 (W10.map i64)) (hg3 : GV [] w 3 183 (lenT.map u64)) :
  CallsV Tryd.prog 62 #[.agg (encIP s).toArray, .agg (encIP d).toArray, v] w (fun r w' => ∃ o dv vs, r = .tuple #[.agg (encTcp (tcpT s d b) o dv).toArray, .int .i64 (tcpE s d b)] ∧ FO w w' o (tcpT s d b).opts vs ∧ (∀ N w1, BS N w1 v b → OSs N w1 vs (tcpT s d b).opts ∧ BS N w1 dv (tcpT s d b).data) ∧ vs.length = (tcpT s d b).opts.length ∧ (∀ (j : Nat) (p : Value), vs[j]? = some p → capV p = ((tcpT s d b).opts.getD j o0).data.length) ∧ dv = (if tcpE s d b = 0 then cut v (tcpH b) b.length b.length else .slice none 0 0)) := by
 refine enter Tryd.func62 rfl Tryd.ntmps62 (l := [(0, [], _), (1, [], _), (2, [], _)]) rfl rfl ?_
 have S := St.refl [] w
 have hB := byt_getD hb.1
 have hfl := fields_tcp hB
 have g12 := hB 12
 have g13 := hB 13
 have hH : 4 * (b.getD 12 0 / 16) = (tcpH b : Int) := by unfold tcpH; omega
 have hH2 : b.getD 12 0 / 16 * 4 = (tcpH b : Int) := by unfold tcpH; omega
 have hHb : tcpH b ≤ 60 := by omega
 have hfo := fitE_or s d
 have hte := tE_or (tcpO b)
 have ho4 : tE (tcpO b) = tE ((b.drop 20).take (tcpH b - 20)) := rfl
 have h0b := wd2_bd hb.1 0
 have h2b := wd2_bd hb.1 2
 have h14b := wd2_bd hb.1 14
 have h16b := wd2_bd hb.1 16
 have h18b := wd2_bd hb.1 18
 have n4b := numN_lt hb.1 4 4 (by decide)
 have n8b := numN_lt hb.1 8 4 (by decide)
 refine Run.seq ?_
 refine Run.region ?_
 refine boxA rfl S rfl ?_
 intro b3 w1 hb3 S B_
 refine boxA rfl S rfl ?_
 intro b4 w2 hb4 S B_
 refine alc T82 S rfl ?_
 intro b6 w3 hb6 S B_
 refine asg1 rfl rfl ?_
 refine Ro.nil ?_
 refine Nrm.code ?_
 refine Run.seq ?_
 refine Run.seq ?_
 refine Run.region ?_
 refine mv1 rfl rfl ?_
 refine lenS rfl hb.2 Tryd.underlying26 rfl rfl rfl ?_
 refine gtr1 rfl rfl rfl ?_
 refine Ro.nil ?_
 refine Nrm.code ?_
 refine Run.cond rfl (fun hc1 => ?_) (fun hc1 => ?_)
 ·
  try simp only [Bool.or_eq_true, Bool.and_eq_true, Bool.or_eq_false_iff, Bool.and_eq_false_iff, decide_eq_true_eq, decide_eq_false_iff_not, Bool.not_eq_true', Bool.not_eq_false', Bool.not_eq_true, Bool.not_eq_false] at hc1
  refine Run.seq ?_
  refine Run.region ?_
  refine bld B82 (qs := []) trivial rfl rfl rfl ?_
  refine stW rfl rfl T82 rfl rfl (by simp [Value.oneCell']) S (i := 0) rfl rfl ?_
  intro w4 S
  refine asg1 rfl rfl ?_
  refine Ro.nil ?_
  refine Nrm.code ?_
  refine Run.ret ?_
  refine Rt.cell2 rfl rfl rfl T82 S (i := 0) rfl rfl ?_
  have he : tcpE s d b = 2 := by
   unfold tcpE
   rw [if_pos (by omega)]
  exact ⟨.slice none 0 0, .slice none 0 0, [], by rw [tcpT_err he (by omega), he]; rfl, by rw [tcpT_err he (by omega)]; exact (S.nilO).toFO (i := 0) rfl, fun _ _ _ => by rw [tcpT_err he (by omega)]; exact ⟨trivial, BS.nil _ _⟩, by rw [tcpT_err he (by omega)]; rfl, fun j p h => by simp at h, by rw [if_neg (by omega)]⟩
 ·
  try simp only [Bool.or_eq_true, Bool.and_eq_true, Bool.or_eq_false_iff, Bool.and_eq_false_iff, decide_eq_true_eq, decide_eq_false_iff_not, Bool.not_eq_true', Bool.not_eq_false', Bool.not_eq_true, Bool.not_eq_false] at hc1
  refine Run.skip ?_
  refine Nrm.code ?_
  refine Run.seq ?_
  refine Run.seq ?_
  refine Run.region ?_
  refine ldW rfl T24 S (i := 2) rfl rfl rfl rfl rfl ?_
  refine ldW rfl T24 S (i := 1) rfl rfl rfl rfl rfl ?_
  refine calg (vs := [_, _]) rfl ⟨⟨_, _, rfl, rfl⟩, ⟨_, _, rfl, rfl⟩, trivial⟩ k123 rfl (fun hG => c123 s d _ hs ht) ?_
  intro w4 B_; have S := S.call B_
  refine asg1 rfl rfl ?_
  refine Ro.nil ?_
  refine Nrm.code ?_
  refine Run.seq ?_
  refine Run.region ?_
  refine mv1 rfl rfl ?_
  refine neq1 rfl rfl rfl ?_
  refine Ro.nil ?_
  refine Nrm.code ?_
  refine Run.cond rfl (fun hc4 => ?_) (fun hc4 => ?_)
  ·
   try simp only [Bool.or_eq_true, Bool.and_eq_true, Bool.or_eq_false_iff, Bool.and_eq_false_iff, decide_eq_true_eq, decide_eq_false_iff_not, Bool.not_eq_true', Bool.not_eq_false', Bool.not_eq_true, Bool.not_eq_false] at hc4
   refine Run.seq ?_
   refine Run.region ?_
   refine bld B82 (qs := []) trivial rfl rfl rfl ?_
   refine mv1 rfl rfl ?_
   refine stW rfl rfl T82 rfl rfl (by simp [Value.oneCell']) S (i := 0) rfl rfl ?_
   intro w5 S
   refine asg1 rfl rfl ?_
   refine Ro.nil ?_
   refine Nrm.code ?_
   refine Run.ret ?_
   refine Rt.cell2 rfl rfl rfl T82 S (i := 0) rfl rfl ?_
   have he : tcpE s d b = fitE s d := by
    unfold tcpE
    rw [if_neg (by omega), if_pos (by omega)]
   exact ⟨.slice none 0 0, .slice none 0 0, [], by rw [tcpT_err he (by omega), he]; rfl, by rw [tcpT_err he (by omega)]; exact (S.nilO).toFO (i := 0) rfl, fun _ _ _ => by rw [tcpT_err he (by omega)]; exact ⟨trivial, BS.nil _ _⟩, by rw [tcpT_err he (by omega)]; rfl, fun j p h => by simp at h, by rw [if_neg (by omega)]⟩
  ·
   try simp only [Bool.or_eq_true, Bool.and_eq_true, Bool.or_eq_false_iff, Bool.and_eq_false_iff, decide_eq_true_eq, decide_eq_false_iff_not, Bool.not_eq_true', Bool.not_eq_false', Bool.not_eq_true, Bool.not_eq_false] at hc4
   refine Run.skip ?_
   refine Nrm.code ?_
   refine Run.seq ?_
   refine Run.seq ?_
   refine Run.region ?_
   refine mv1 rfl rfl ?_
   refine lenS rfl hb.2 Tryd.underlying26 rfl rfl rfl ?_
   refine lss1 rfl rfl rfl ?_
   refine Ro.nil ?_
   refine Nrm.code ?_
   refine Run.cond rfl (fun hc6 => ?_) (fun hc6 => ?_)
   ·
    try simp only [Bool.or_eq_true, Bool.and_eq_true, Bool.or_eq_false_iff, Bool.and_eq_false_iff, decide_eq_true_eq, decide_eq_false_iff_not, Bool.not_eq_true', Bool.not_eq_false', Bool.not_eq_true, Bool.not_eq_false] at hc6
    refine Run.seq ?_
    refine Run.region ?_
    refine bld B82 (qs := []) trivial rfl rfl rfl ?_
    refine stW rfl rfl T82 rfl rfl (by simp [Value.oneCell']) S (i := 0) rfl rfl ?_
    intro w5 S
    refine asg1 rfl rfl ?_
    refine Ro.nil ?_
    refine Nrm.code ?_
    refine Run.ret ?_
    refine Rt.cell2 rfl rfl rfl T82 S (i := 0) rfl rfl ?_
    have he : tcpE s d b = 94 := by
     unfold tcpE
     rw [if_neg (by omega), if_neg (by omega), if_pos (by omega)]
    exact ⟨.slice none 0 0, .slice none 0 0, [], by rw [tcpT_err he (by omega), he]; rfl, by rw [tcpT_err he (by omega)]; exact (S.nilO).toFO (i := 0) rfl, fun _ _ _ => by rw [tcpT_err he (by omega)]; exact ⟨trivial, BS.nil _ _⟩, by rw [tcpT_err he (by omega)]; rfl, fun j p h => by simp at h, by rw [if_neg (by omega)]⟩
   ·
    try simp only [Bool.or_eq_true, Bool.and_eq_true, Bool.or_eq_false_iff, Bool.and_eq_false_iff, decide_eq_true_eq, decide_eq_false_iff_not, Bool.not_eq_true', Bool.not_eq_false', Bool.not_eq_true, Bool.not_eq_false] at hc6
    refine Run.skip ?_
    refine Nrm.code ?_
    refine Run.seq ?_
    refine Run.region ?_
    refine ldG hg2 S T166 rfl rfl ?_
    refine alc T166 S rfl ?_
    intro b9 w5 hb9 S B_
    refine stW rfl rfl T166 rfl rfl (by simp [Value.oneCell']) S (i := 0) rfl rfl ?_
    intro w6 S
    refine Ro.nil ?_
    refine Nrm.code ?_
    refine Run.seq ?_
    refine Run.region ?_
    refine mv1 rfl rfl ?_
    refine slAT rfl Tryd.underlying166 T3 rfl rfl rfl (i2 := none) trivial rfl (by decide) (by decide) ?_
    refine call (vs := [_, _, _]) ⟨⟨_, _, rfl, rfl⟩, ⟨_, _, rfl, rfl⟩, ⟨_, _, rfl, rfl⟩, trivial⟩ k101 rfl (c101 _ _ _ W10 _ (hb.now S) (S.varSl (i := 0) (m := 10) (sz := 1) rfl rfl rfl (by decide)) (by decide) (by decide) (by decide) (by rw [show W10.sum / 8 = 20 from by decide]; omega) (by omega)) ?_
    rintro _ w7 ⟨u10, rfl, hF⟩
    rw [hfl] at hF
    have S := S.fi hF
    refine mv1 rfl rfl ?_
    refine extr1 rfl rfl rfl ?_
    refine extr1 rfl rfl rfl ?_
    refine extr1 rfl rfl rfl ?_
    refine asg1 rfl rfl ?_
    refine asg1 rfl rfl ?_
    refine asg1 rfl rfl ?_
    refine Ro.nil ?_
    refine Nrm.code ?_
    refine Run.seq ?_
    refine Run.region ?_
    refine mv1 rfl rfl ?_
    refine ixa rfl rfl (S.slI (i := 0) rfl) e132 rfl rfl rfl rfl (fun _ => by first | omega | (simp only [List.length_cons, List.length_nil]; omega)) ?_
    refine ldE rfl (S.slI (i := 0) rfl) (St.refl [] _) T3 rfl rfl rfl (fun _ => rfl) ?_
    refine mul1 rfl rfl rfl ((show IntKind.i64.wrap (4 * (b.getD 12 0 / 16)) = (tcpH b : Int) from by rw [w64 (by omega)]; exact hH)) ?_
    refine asg1 rfl rfl ?_
    refine Ro.nil ?_
    refine Nrm.code ?_
    refine Run.seq ?_
    refine Run.block ?_
    refine Run.seq ?_
    refine Run.region ?_
    refine mv1 rfl rfl ?_
    refine lss1 rfl rfl rfl ?_
    refine mv1 rfl rfl ?_
    refine mv rfl rfl rfl rfl ?_
    refine mv rfl rfl rfl rfl ?_
    refine lenS rfl hb.2 Tryd.underlying26 rfl rfl rfl ?_
    refine gtr rfl rfl rfl rfl rfl rfl ?_
    refine pkO rfl rfl rfl rfl rfl rfl ?_
    refine asg1 rfl rfl ?_
    refine Ro.nil ?_
    refine Nrm.code ?_
    refine Run.cond rfl (fun hc11 => ?_) (fun hc11 => ?_)
    ·
     try simp only [Bool.or_eq_true, Bool.and_eq_true, Bool.or_eq_false_iff, Bool.and_eq_false_iff, decide_eq_true_eq, decide_eq_false_iff_not, Bool.not_eq_true', Bool.not_eq_false', Bool.not_eq_true, Bool.not_eq_false] at hc11
     refine Run.seq ?_
     refine Run.region ?_
     refine bld B82 (qs := []) trivial rfl rfl rfl ?_
     refine stW rfl rfl T82 rfl rfl (by simp [Value.oneCell']) S (i := 2) rfl rfl ?_
     intro w8 S
     refine asg1 rfl rfl ?_
     refine Ro.nil ?_
     refine Nrm.code ?_
     refine Run.ret ?_
     refine Rt.cell2 rfl rfl rfl T82 S (i := 2) rfl rfl ?_
     have he : tcpE s d b = 95 := by
      unfold tcpE
      rw [if_neg (by omega), if_neg (by omega), if_neg (by omega), if_pos (by omega)]
     exact ⟨.slice none 0 0, .slice none 0 0, [], by rw [tcpT_err he (by omega), he]; rfl, by rw [tcpT_err he (by omega)]; exact (S.nilO).toFO (i := 0) rfl, fun _ _ _ => by rw [tcpT_err he (by omega)]; exact ⟨trivial, BS.nil _ _⟩, by rw [tcpT_err he (by omega)]; rfl, fun j p h => by simp at h, by rw [if_neg (by omega)]⟩
    ·
     try simp only [Bool.or_eq_true, Bool.and_eq_true, Bool.or_eq_false_iff, Bool.and_eq_false_iff, decide_eq_true_eq, decide_eq_false_iff_not, Bool.not_eq_true', Bool.not_eq_false', Bool.not_eq_true, Bool.not_eq_false] at hc11
     refine Run.seq ?_
     refine Run.region ?_
     refine ldW rfl T24 S (i := 4) rfl rfl rfl rfl rfl ?_
     refine ldW rfl T24 S (i := 3) rfl rfl rfl rfl rfl ?_
     refine mv1 rfl rfl ?_
     refine calg (vs := [_, _, _, _]) rfl ⟨⟨_, _, rfl, rfl⟩, ⟨_, _, rfl, rfl⟩, ⟨_, _, rfl, rfl⟩, ⟨_, _, rfl, rfl⟩, trivial⟩ k124 rfl (fun hG => c124 s d 6 _ b _ hs ht (hb.now S) (by omega) (fit_pse (by omega) (by decide) (by omega))) ?_
     intro w8 B_; have S := S.call B_
     refine nt1 rfl rfl ?_
     refine asg1 rfl rfl ?_
     refine Ro.nil ?_
     refine Nrm.code ?_
     refine Run.cond rfl (fun hc13 => ?_) (fun hc13 => ?_)
     ·
      try simp only [Bool.or_eq_true, Bool.and_eq_true, Bool.or_eq_false_iff, Bool.and_eq_false_iff, decide_eq_true_eq, decide_eq_false_iff_not, Bool.not_eq_true', Bool.not_eq_false', Bool.not_eq_true, Bool.not_eq_false] at hc13
      have hgd : psum s d 6 b ≠ 65535 := by simpa using hc13
      refine Run.seq ?_
      refine Run.region ?_
      refine bld B82 (qs := []) trivial rfl rfl rfl ?_
      refine stW rfl rfl T82 rfl rfl (by simp [Value.oneCell']) S (i := 2) rfl rfl ?_
      intro w9 S
      refine asg1 rfl rfl ?_
      refine Ro.nil ?_
      refine Nrm.code ?_
      refine Run.ret ?_
      refine Rt.cell2 rfl rfl rfl T82 S (i := 2) rfl rfl ?_
      have he : tcpE s d b = 96 := by
       unfold tcpE
       rw [if_neg (by omega), if_neg (by omega), if_neg (by omega), if_neg (by omega), if_pos hgd]
      exact ⟨.slice none 0 0, .slice none 0 0, [], by rw [tcpT_err he (by omega), he]; rfl, by rw [tcpT_err he (by omega)]; exact (S.nilO).toFO (i := 0) rfl, fun _ _ _ => by rw [tcpT_err he (by omega)]; exact ⟨trivial, BS.nil _ _⟩, by rw [tcpT_err he (by omega)]; rfl, fun j p h => by simp at h, by rw [if_neg (by omega)]⟩
     ·
      try simp only [Bool.or_eq_true, Bool.and_eq_true, Bool.or_eq_false_iff, Bool.and_eq_false_iff, decide_eq_true_eq, decide_eq_false_iff_not, Bool.not_eq_true', Bool.not_eq_false', Bool.not_eq_true, Bool.not_eq_false] at hc13
      have hgd : ¬ psum s d 6 b ≠ 65535 := by simpa using hc13
      refine Run.skip ?_
      refine Nrm.blk ?_
      refine Nrm.code ?_
      refine Run.seq ?_
      refine Run.region ?_
      refine mv1 rfl rfl ?_
      refine mv1 rfl rfl ?_
      refine mv1 rfl rfl ?_
      refine slC (lo := 20) (hi := tcpH b) (mx := tcpH b) rfl hb e26 rfl rfl rfl (i1 := some 20) (i2 := some (tcpH b)) (i3 := some (tcpH b)) ⟨_, _, _, rfl, rfl⟩ ⟨_, _, _, rfl, rfl⟩ ⟨_, _, _, rfl, rfl⟩ rfl rfl rfl (fun h => by first | rfl | cases h) (fun hG => by (try simp [allT] at hG); have hcap := hb.cap; omega) ?_
      have hv64 := hb.cut (lo := 20) (hi := tcpH b) (mx := tcpH b) (by have hcap := hb.cap; omega)
      refine call (vs := [_]) ⟨⟨_, _, rfl, rfl⟩, trivial⟩ k67 rfl (c67W _ _ _ (hv64.now S) (hg3.now S)) ?_
      rintro _ w9 ⟨u14, vs, rfl, hF, hwin, hvl, hcp⟩
      have S := S.fo hF
      refine mv1 rfl rfl ?_
      refine extr1 rfl rfl rfl ?_
      refine extr1 rfl rfl rfl ?_
      refine asg1 rfl rfl ?_
      refine asg1 rfl rfl ?_
      refine Ro.nil ?_
      refine Nrm.code ?_
      refine Run.seq ?_
      refine Run.seq ?_
      refine Run.region ?_
      refine mv1 rfl rfl ?_
      refine neq1 rfl rfl rfl ?_
      refine Ro.nil ?_
      refine Nrm.code ?_
      refine Run.cond rfl (fun hc16 => ?_) (fun hc16 => ?_)
      ·
       try simp only [Bool.or_eq_true, Bool.and_eq_true, Bool.or_eq_false_iff, Bool.and_eq_false_iff, decide_eq_true_eq, decide_eq_false_iff_not, Bool.not_eq_true', Bool.not_eq_false', Bool.not_eq_true, Bool.not_eq_false] at hc16
       refine Run.seq ?_
       refine Run.region ?_
       refine bld B82 (qs := []) trivial rfl rfl rfl ?_
       refine mv1 rfl rfl ?_
       refine stW rfl rfl T82 rfl rfl (by simp [Value.oneCell']) S (i := 3) rfl rfl ?_
       intro w10 S
       refine asg1 rfl rfl ?_
       refine Ro.nil ?_
       refine Nrm.code ?_
       refine Run.ret ?_
       refine Rt.cell2 rfl rfl rfl T82 S (i := 3) rfl rfl ?_
       have he : tcpE s d b = tE (tcpO b) := by
        unfold tcpE
        rw [if_neg (by omega), if_neg (by omega), if_neg (by omega), if_neg (by omega), if_neg hgd]
       exact ⟨.slice none 0 0, .slice none 0 0, [], by rw [tcpT_err he (by omega), he]; rfl, by rw [tcpT_err he (by omega)]; exact (S.nilO).toFO (i := 0) rfl, fun _ _ _ => by rw [tcpT_err he (by omega)]; exact ⟨trivial, BS.nil _ _⟩, by rw [tcpT_err he (by omega)]; rfl, fun j p h => by simp at h, by rw [if_neg (by omega)]⟩
      ·
       try simp only [Bool.or_eq_true, Bool.and_eq_true, Bool.or_eq_false_iff, Bool.and_eq_false_iff, decide_eq_true_eq, decide_eq_false_iff_not, Bool.not_eq_true', Bool.not_eq_false', Bool.not_eq_true, Bool.not_eq_false] at hc16
       refine Run.skip ?_
       refine Nrm.code ?_
       refine Run.seq ?_
       refine Run.heldB (by kernel_rfl) S [true, true, true, false, true, true] rfl rfl rfl ?_
       intro w10 BD S SC
       refine Hb.take (i := 0) SC (fun _ _ S B => S.call B) Pp.body rfl (by kernel_rfl) (by kernel_rfl) (by kernel_rfl) rfl rfl ?_
       refine qmv rfl rfl rfl rfl ?_
       refine Hb.back ?_
       refine Hb.take (i := 1) SC (fun _ _ S B => S.call B) Pp.body rfl (by kernel_rfl) (by kernel_rfl) (by kernel_rfl) rfl rfl ?_
       refine qixa rfl rfl (S.slI (i := 1) rfl) e132 rfl rfl rfl rfl (fun _ => by first | omega | (simp only [List.length_cons, List.length_nil]; omega)) ?_
       refine Hb.back ?_
       refine Hb.take (i := 2) SC (fun _ _ S B => S.call B) Pp.body rfl (by kernel_rfl) (by kernel_rfl) (by kernel_rfl) rfl rfl ?_
       refine qldR rfl (fun _ S => S) (i := 1) rfl T3 rfl rfl rfl (fun _ => rfl) ?_
       refine Hb.back ?_
       refine Hb.take (i := 3) SC (fun _ _ S B => S.call B) Pp.body rfl (by kernel_rfl) (by kernel_rfl) (by kernel_rfl) rfl rfl ?_
       refine qmv rfl rfl rfl rfl ?_
       refine Hb.back ?_
       refine Hb.take (i := 4) SC (fun _ _ S B => S.call B) Pp.body rfl (by kernel_rfl) (by kernel_rfl) (by kernel_rfl) rfl rfl ?_
       refine qixa rfl rfl (S.slI (i := 1) rfl) e132 rfl rfl rfl rfl (fun _ => by first | omega | (simp only [List.length_cons, List.length_nil]; omega)) ?_
       refine Hb.back ?_
       refine Hb.take (i := 5) SC (fun _ _ S B => S.call B) Pp.body rfl (by kernel_rfl) (by kernel_rfl) (by kernel_rfl) rfl rfl ?_
       refine qldR rfl (fun _ S => S) (i := 1) rfl T3 rfl rfl rfl (fun _ => rfl) ?_
       refine Hb.back ?_
       refine Hb.take (i := 6) SC (fun _ _ S B => S.call B) Pp.body rfl (by kernel_rfl) (by kernel_rfl) (by kernel_rfl) rfl rfl ?_
       refine qmv rfl rfl rfl rfl ?_
       refine Hb.back ?_
       refine Hb.take (i := 7) SC (fun _ _ S B => S.call B) Pp.body rfl (by kernel_rfl) (by kernel_rfl) (by kernel_rfl) rfl rfl ?_
       refine qixa rfl rfl (S.slI (i := 1) rfl) e132 rfl rfl rfl rfl (fun _ => by first | omega | (simp only [List.length_cons, List.length_nil]; omega)) ?_
       refine Hb.back ?_
       refine Hb.take (i := 8) SC (fun _ _ S B => S.call B) Pp.body rfl (by kernel_rfl) (by kernel_rfl) (by kernel_rfl) rfl rfl ?_
       refine qldR rfl (fun _ S => S) (i := 1) rfl T3 rfl rfl rfl (fun _ => rfl) ?_
       refine Hb.back ?_
       refine Hb.take (i := 9) SC (fun _ _ S B => S.call B) Pp.body rfl (by kernel_rfl) (by kernel_rfl) (by kernel_rfl) rfl rfl ?_
       refine qmv rfl rfl rfl rfl ?_
       refine Hb.back ?_
       refine Hb.take (i := 10) SC (fun _ _ S B => S.call B) Pp.body rfl (by kernel_rfl) (by kernel_rfl) (by kernel_rfl) rfl rfl ?_
       refine qixa rfl rfl (S.slI (i := 1) rfl) e132 rfl rfl rfl rfl (fun _ => by first | omega | (simp only [List.length_cons, List.length_nil]; omega)) ?_
       refine Hb.back ?_
       refine Hb.take (i := 11) SC (fun _ _ S B => S.call B) Pp.body rfl (by kernel_rfl) (by kernel_rfl) (by kernel_rfl) rfl rfl ?_
       refine qldR rfl (fun _ S => S) (i := 1) rfl T3 rfl rfl rfl (fun _ => rfl) ?_
       refine Hb.back ?_
       refine Hb.take (i := 12) SC (fun _ _ S B => S.call B) Pp.body rfl (by kernel_rfl) (by kernel_rfl) (by kernel_rfl) rfl rfl ?_
       refine qmv rfl rfl rfl rfl ?_
       refine Hb.back ?_
       refine Hb.take (i := 13) SC (fun _ _ S B => S.call B) Pp.body rfl (by kernel_rfl) (by kernel_rfl) (by kernel_rfl) rfl rfl ?_
       refine qixa rfl rfl (S.slI (i := 1) rfl) e132 rfl rfl rfl rfl (fun _ => by first | omega | (simp only [List.length_cons, List.length_nil]; omega)) ?_
       refine Hb.back ?_
       refine Hb.take (i := 14) SC (fun _ _ S B => S.call B) Pp.body rfl (by kernel_rfl) (by kernel_rfl) (by kernel_rfl) rfl rfl ?_
       refine qldR rfl (fun _ S => S) (i := 1) rfl T3 rfl rfl rfl (fun _ => rfl) ?_
       refine Hb.back ?_
       refine Hb.take (i := 15) SC (fun _ _ S B => S.call B) Pp.body rfl (by kernel_rfl) (by kernel_rfl) (by kernel_rfl) rfl rfl ?_
       refine qmv rfl rfl rfl rfl ?_
       refine Hb.back ?_
       refine Hb.take (i := 16) SC (fun _ _ S B => S.call B) Pp.body rfl (by kernel_rfl) (by kernel_rfl) (by kernel_rfl) rfl rfl ?_
       refine qixa rfl rfl (S.slI (i := 1) rfl) e132 rfl rfl rfl rfl (fun _ => by first | omega | (simp only [List.length_cons, List.length_nil]; omega)) ?_
       refine Hb.back ?_
       refine Hb.take (i := 17) SC (fun _ _ S B => S.call B) Pp.body rfl (by kernel_rfl) (by kernel_rfl) (by kernel_rfl) rfl rfl ?_
       refine qldR rfl (fun _ S => S) (i := 1) rfl T3 rfl rfl rfl (fun _ => rfl) ?_
       refine Hb.back ?_
       refine Hb.take (i := 18) SC (fun _ _ S B => S.call B) Pp.body rfl (by kernel_rfl) (by kernel_rfl) (by kernel_rfl) rfl rfl ?_
       refine qmv rfl rfl rfl rfl ?_
       refine Hb.back ?_
       refine Hb.take (i := 19) SC (fun _ _ S B => S.call B) Pp.body rfl (by kernel_rfl) (by kernel_rfl) (by kernel_rfl) rfl rfl ?_
       refine qixa rfl rfl (S.slI (i := 1) rfl) e132 rfl rfl rfl rfl (fun _ => by first | omega | (simp only [List.length_cons, List.length_nil]; omega)) ?_
       refine Hb.back ?_
       refine Hb.take (i := 20) SC (fun _ _ S B => S.call B) Pp.body rfl (by kernel_rfl) (by kernel_rfl) (by kernel_rfl) rfl rfl ?_
       refine qldR rfl (fun _ S => S) (i := 1) rfl T3 rfl rfl rfl (fun _ => rfl) ?_
       refine Hb.back ?_
       refine Hb.take (i := 21) SC (fun _ _ S B => S.call B) Pp.body rfl (by kernel_rfl) (by kernel_rfl) (by kernel_rfl) rfl rfl ?_
       refine qmv rfl rfl rfl rfl ?_
       refine Hb.back ?_
       refine Hb.take (i := 22) SC (fun _ _ S B => S.call B) Pp.body rfl (by kernel_rfl) (by kernel_rfl) (by kernel_rfl) rfl rfl ?_
       refine qmv rfl rfl rfl rfl ?_
       refine Hb.back ?_
       refine Hb.take (i := 23) SC (fun _ _ S B => S.call B) Pp.body rfl (by kernel_rfl) (by kernel_rfl) (by kernel_rfl) rfl rfl ?_
       refine qmv rfl rfl rfl rfl ?_
       refine Hb.back ?_
       refine Hb.take (i := 24) SC (fun _ _ S B => S.call B) Pp.body rfl (by kernel_rfl) (by kernel_rfl) (by kernel_rfl) rfl rfl ?_
       refine qmv rfl rfl rfl rfl ?_
       refine Hb.back ?_
       refine Hb.take (i := 25) SC (fun _ _ S B => S.call B) Pp.body rfl (by kernel_rfl) (by kernel_rfl) (by kernel_rfl) rfl rfl ?_
       refine qlenS rfl hb.2 Tryd.underlying26 rfl rfl rfl ?_
       refine Hb.back ?_
       refine Hb.take (i := 26) SC (fun _ _ S B => S.call B) Pp.body rfl (by kernel_rfl) (by kernel_rfl) (by kernel_rfl) rfl rfl ?_
       refine qmv rfl rfl rfl rfl ?_
       refine Hb.back ?_
       refine Hb.take (i := 27) SC (fun _ _ S B => S.call B) Pp.body rfl (by kernel_rfl) (by kernel_rfl) (by kernel_rfl) rfl rfl ?_
       refine qlenS rfl hb.2 Tryd.underlying26 rfl rfl rfl ?_
       refine Hb.back ?_
       refine Hb.take (i := 28) SC (fun _ _ S B => S.call B) Pp.body rfl (by kernel_rfl) (by kernel_rfl) (by kernel_rfl) rfl rfl ?_
       have hv100 := hb.cut (lo := tcpH b) (hi := b.length) (mx := b.length) (by have hcap := hb.cap; omega)
       refine qslC (lo := tcpH b) (hi := b.length) (mx := b.length) rfl hb e26 rfl rfl rfl (i1 := some (tcpH b)) (i2 := some (b.length)) (i3 := some (b.length)) ⟨_, _, _, rfl, rfl⟩ ⟨_, _, _, rfl, rfl⟩ ⟨_, _, _, rfl, rfl⟩ rfl rfl rfl (fun h => by first | rfl | cases h) (fun hG => by (try simp [allT] at hG); have hcap := hb.cap; omega) ?_
       refine Hb.back ?_
       refine Hb.take (i := 29) SC (fun _ _ S B => S.call B) Pp.body rfl (by kernel_rfl) (by kernel_rfl) (by kernel_rfl) rfl rfl ?_
       refine qbld B82 (qs := [(_, _), (_, _), (_, _), (_, _), (_, _), (_, _), (_, _), (_, _), (_, _)]) ⟨⟨_, _, _, rfl, rfl, rfl, rfl, by first | (simp [Value.cells]; done) | simp [Value.cells, encIP]⟩, ⟨_, _, _, rfl, rfl, rfl, rfl, by first | (simp [Value.cells]; done) | simp [Value.cells, encIP]⟩, ⟨_, _, _, rfl, rfl, rfl, rfl, by first | (simp [Value.cells]; done) | simp [Value.cells, encIP]⟩, ⟨_, _, _, rfl, rfl, rfl, rfl, by first | (simp [Value.cells]; done) | simp [Value.cells, encIP]⟩, ⟨_, _, _, rfl, rfl, rfl, rfl, by first | (simp [Value.cells]; done) | simp [Value.cells, encIP]⟩, ⟨_, _, _, rfl, rfl, rfl, rfl, by first | (simp [Value.cells]; done) | simp [Value.cells, encIP]⟩, ⟨_, _, _, rfl, rfl, rfl, rfl, by first | (simp [Value.cells]; done) | simp [Value.cells, encIP]⟩, ⟨_, _, _, rfl, rfl, cells1 (S.slI (i := 0) rfl).one, rfl, List.cons_ne_nil _ _⟩, ⟨_, _, _, rfl, rfl, cells1 hv100.one, rfl, List.cons_ne_nil _ _⟩, trivial⟩ rfl rfl rfl ?_
       refine Hb.back ?_
       refine Hb.one (i := 30) (by kernel_rfl) rfl rfl ?_
       intro w11 BD; have S := S.call BD
       refine stW rfl rfl T82 rfl rfl (one_cons rfl (one_cons rfl (one_cons rfl (one_cons rfl (one_cons rfl (one_cons rfl (one_cons rfl (one_cons (S.slI (i := 0) rfl).one (one_cons hv100.one one_nil))))))))) S (i := 3) rfl rfl ?_
       intro w12 S
       have SC := S.pick [true, true, true, false, true, true] rfl
       refine Hb.on SC ?_
       refine Hb.take (i := 31) SC (fun _ _ S B => S.call B) Pp.body rfl (by kernel_rfl) (by kernel_rfl) (by kernel_rfl) rfl rfl ?_
       refine qasg rfl rfl rfl rfl ?_
       refine Hb.back ?_
       refine Hb.done (by kernel_rfl) ?_
       intro w13 BD; have S := S.call BD
       refine Nrm.code ?_
       refine Run.ret ?_
       refine Rt.cell2 rfl rfl rfl T82 S (i := 3) rfl rfl ?_
       have he : tcpE s d b = 0 := by
        unfold tcpE
        rw [if_neg (by omega), if_neg (by omega), if_neg (by omega), if_neg (by omega), if_neg hgd]
        omega
       exact ⟨_, _, vs, by rw [tcpT, if_pos he, he]; rfl, by rw [tcpT, if_pos he]; exact (S.pick [true, false, false, false, false, false] rfl).toFO (i := 0) rfl, fun N w1 h1 => by rw [tcpT, if_pos he]; exact ⟨hwin N w1 (h1.cut (by have := h1.cap; omega)), h1.cut (by have := h1.cap; omega)⟩, by rw [tcpT, if_pos he]; exact hvl, by rw [tcpT, if_pos he]; exact hcp, by rw [if_pos he]⟩
end Go.Proofs.YtkahmepenjhcpaaDoor.W
/- Plain laws of layer 9: one bit turned. No program walked here; no statement of the seat is proved here. -/
namespace Go.Proofs.YtkahmepenjhcpaaDoor.W
open Go
set_option linter.unusedVariables false
set_option linter.unusedSimpArgs false
def bitM (r : Int) : Int := (128 : Int).fdiv (2 ^ (min r.toNat IntKind.u8.bits))
def xor8 (a r : Int) : Int := IntKind.u8.wrap (((a % 2 ^ IntKind.u8.bits).toNat ^^^ (bitM r % 2 ^ IntKind.u8.bits).toNat : Nat) : Int)
def turnB (b : List Int) (k : Int) : List Int := b.set (k / 8).toNat (xor8 (b.getD (k / 8).toNat 0) (k % 8))
end Go.Proofs.YtkahmepenjhcpaaDoor.W
/- Plain laws of layer 9: one bit of an endpoint turned. No program walked here; no statement of the seat is proved here. -/
namespace Go.Proofs.YtkahmepenjhcpaaDoor.W
open Go
set_option linter.unusedVariables false
set_option linter.unusedSimpArgs false
def flipJ (x : IP) (j : Nat) (r : Int) : IP := ⟨x.v, fun i => if i = j then xor8 (x.a i) r else x.a i⟩
/-- the endpoints differ by one bit that counts -/
def Flip (s d s' d' : IP) : Prop := fitE s' d' = 0 ∧ ∀ p n : Int, 0 ≤ p ∧ p ≤ 255 → 0 ≤ n ∧ n ≤ 65535 → ∃ i r, i < (pseL s d p n).length ∧ (0 ≤ r ∧ r < 8) ∧ pseL s' d' p n = (pseL s d p n).set i (xor8 ((pseL s d p n).getD i 0) r)
theorem getD_left {A B : List Int} {i : Nat} (h : i < A.length) : (A ++ B).getD i 0 = A.getD i 0 := by
  rw [List.getD_eq_getElem?_getD, List.getElem?_append_left h, List.getD_eq_getElem?_getD]
end Go.Proofs.YtkahmepenjhcpaaDoor.W
/- The walk of L4Window. No statement of the seat is proved here. -/
namespace Go.Proofs.YtkahmepenjhcpaaDoor.W
open Go
set_option linter.unusedSimpArgs false
set_option linter.unusedVariables false
def xorV (a x : Int) : Int := IntKind.u8.wrap (((a % 2 ^ IntKind.u8.bits).toNat ^^^ (x % 2 ^ IntKind.u8.bits).toNat : Nat) : Int)
theorem xorV_bd (a x : Int) : 0 ≤ xorV a x ∧ xorV a x < 256 := by
  unfold xorV; rw [w8m]; omega
def mixX (b : List Int) (off : Nat) (x : Int) : Nat → List Int
  | 0 => b
  | j + 1 => (mixX b off x j).set (off + j) (xorV ((mixX b off x j).getD (off + j) 0) x)
theorem mixX_len (b : List Int) (off : Nat) (x : Int) : ∀ j, (mixX b off x j).length = b.length
  | 0 => rfl
  | j + 1 => by simp only [mixX, List.length_set]; exact mixX_len b off x j
theorem mixX_byt {b : List Int} (hb : byt b) (off : Nat) (x : Int) : ∀ j, byt (mixX b off x j)
  | 0 => hb
  | j + 1 => byt_set (mixX_byt hb off x j) _ (xorV_bd _ _)
theorem mixX_at (b : List Int) (off : Nat) (x : Int) (i : Nat) : ∀ j, off + j ≤ b.length → (mixX b off x j).getD i 0 = if off ≤ i ∧ i < off + j then xorV (b.getD i 0) x else b.getD i 0
  | 0, _ => by rw [if_neg (by omega)]; rfl
  | j + 1, h => by
    have ih := fun i => mixX_at b off x i j (by omega)
    have hl := mixX_len b off x j
    simp only [mixX]
    by_cases e : i = off + j
    · subst e
      rw [getD_set_eq (by omega), ih, if_neg (by omega), if_pos (by omega)]
    · rw [getD_set_ne (Ne.symm e), ih]
      by_cases h2 : off ≤ i ∧ i < off + j
      · rw [if_pos h2, if_pos (by omega)]
      · rw [if_neg h2, if_neg (by omega)]
theorem mixX_next (b : List Int) (off : Nat) (x : Int) (j : Nat) (h : off + j < b.length) : (mixX b off x j ++ marks).set (off + j) (xorV ((mixX b off x j).getD (off + j) 0) x) = mixX b off x (j + 1) ++ marks := by
  rw [List.set_append_left _ _ (by rw [mixX_len]; exact h)]; rfl
theorem win_bs {N : List Nat} {w : World} {q : Value} {l : List Int} {n off hi : Nat} (h : BS N w q (l ++ marks)) (hl : l.length = n) (h1 : off ≤ hi ∧ hi ≤ n) : BS N w (W.cut (W.cut q 0 n (capV q)) off hi hi) ((l.drop off).take (hi - off)) := by
  have h2 := h.cutM
  rw [hl] at h2
  exact h2.cut (by have := h2.cap; omega)
theorem eP_win {w : World} {q : Value} {l : List Int} {n off hi j : Nat} (h : (oB q l).holds w) (hl : l ≠ []) (ho : off < hi) : eP (W.cut (W.cut q 0 n (capV q)) off hi hi) j = eP q (off + j) := by
  have hp : 0 < l.length := by
    cases l with
    | nil => exact absurd rfl hl
    | cons a r => simp
  rcases own_slice h with ⟨_, h2⟩ | ⟨b, cap, rfl, hc⟩
  · exact absurd h2 hl
  · have hc' : 0 < cap := by omega
    simp only [W.cut, capV]
    (repeat' split) <;> simp_all [eP, add_new] <;> omega
theorem OSs.at1 {N : List Nat} {w : World} {vs : List Value} {os : List Opt} {i : Nat} {p : Value} (h : OSs N w vs os) (hi : i < os.length) (hp : vs[i]? = some p) : BS N w p (os.getD i o0).data := by
  obtain ⟨p', h1, h2⟩ := h.at hi
  rw [hp] at h1; cases h1; exact h2
theorem b789 : byt [7, 8, 9] := by intro x hx; revert x; decide +kernel
theorem marks_ne (l : List Int) : l ++ marks ≠ [] := by simp
def offB (b : List Int) (g : Bool) : Nat := if g then 8 else tcpH b
def hiB (b : List Int) (g : Bool) : Nat := if g then lenU b else b.length
set_option maxHeartbeats 1000000 in
theorem c23 (s d : IP) (v : Value) (b : List Int) (w : World) (hs : s.ok) (ht : d.ok) (hb : BS [] w v b) (x : Int) (hx : 0 ≤ x ∧ x < 256) (hl : b.length ≤ 1099511627000) (hg1 : GV [] w 1 163 (W16.map i64)) (hg2 : GV [] w 2 166 (W10.map i64)) (hg3 : GV [] w 3 183 (lenT.map u64)) :
    CallsD Tryd.prog 23 #[.agg (encIP s).toArray, .agg (encIP d).toArray, v, .int .u8 x] w (.bool true) := by
  refine enter Tryd.func23 rfl Tryd.ntmps23 (l := [(0, [], _), (1, [], _), (2, [], _), (3, [], _)]) rfl rfl ?_
  have S := St.refl [] w
  have hte := tE_or b
  have htl0 := topt_len0 b
  have hue := udpE_bd s d b
  have htce := tcpE_bd s d b
  refine Run.seq ?_
  refine Run.region ?_
  refine boxA rfl S rfl ?_
  intro b4 w1 hb4 S B_
  refine boxA rfl S rfl ?_
  intro b5 w2 hb5 S B_
  refine asg1 rfl rfl ?_
  refine Ro.nil ?_
  refine Nrm.code ?_
  refine Run.seq ?_
  refine Run.region ?_
  refine calg (vs := []) rfl trivial k54 rfl (fun hG => c54 _ (hg1.now S) (hg2.now S) (hg3.now S)) ?_
  intro w3 B_; have S := S.call B_
  refine asg1 rfl rfl ?_
  refine Ro.nil ?_
  refine Nrm.code ?_
  refine Run.seq ?_
  refine Run.region ?_
  refine mv1 rfl rfl ?_
  refine call (vs := [_]) ⟨⟨_, _, rfl, rfl⟩, trivial⟩ k66 rfl (c66 _ _ _ (hb.now S) (by omega)) ?_
  rintro u10 w4 hF
  have S := S.fb hF
  have hby_u10 : byt (b ++ marks) := byt_app hb.1 marks_byt
  refine asg1 rfl rfl ?_
  refine Ro.nil ?_
  refine Nrm.code ?_
  refine Run.seq ?_
  refine Run.region ?_
  refine mv1 rfl rfl ?_
  refine mv1 rfl rfl ?_
  refine lenS rfl hb.2 Tryd.underlying26 rfl rfl rfl ?_
  have hr3 := S.bsI (i := 0) rfl hby_u10
  refine slC (lo := 0) (hi := b.length) (mx := capV u10) rfl hr3 e26 rfl rfl rfl (i1 := none) (i2 := some b.length) (i3 := none) trivial ⟨_, _, _, rfl, rfl⟩ trivial rfl rfl rfl (fun h => by first | rfl | cases h) (fun _ => by have := hr3.cap; rw [List.length_append] at *; omega) ?_
  refine asg1 rfl rfl ?_
  refine Ro.nil ?_
  refine Nrm.code ?_
  refine Run.seq ?_
  refine Run.region ?_
  refine ldW rfl T24 S (i := 2) rfl rfl rfl rfl rfl ?_
  refine ldW rfl T24 S (i := 1) rfl rfl rfl rfl rfl ?_
  refine mv1 rfl rfl ?_
  refine call (vs := [_, _, _]) ⟨⟨_, _, rfl, rfl⟩, ⟨_, _, rfl, rfl⟩, ⟨_, _, rfl, rfl⟩, trivial⟩ k57 rfl (c57W s d _ b _ hs ht ((S.bsI (i := 0) rfl hby_u10).cutM) (hg1.now S)) ?_
  rintro _ w5 ⟨d12, rfl, B1, hw12, hd12⟩
  have hd12o := (hw12 _ _ ((S.bsI (i := 0) rfl hby_u10).cutM)).one
  have S := S.call B1
  have hcd12 : capV d12 = (udpU s d b).data.length := by
    rw [hd12]
    split
    · rename_i h; rw [cut_cap hr3.cutM, (udp_chk hb.1 h).2.2, (udp_chk hb.1 h).2.1]
    · rename_i h; rw [udpU, if_neg h]; rfl
  refine mv1 rfl rfl ?_
  refine extr1 rfl rfl rfl ?_
  refine extr1 rfl rfl rfl ?_
  refine alc T73 S rfl ?_
  intro b12 w6 hb12 S B_
  refine stW rfl rfl T73 rfl rfl (one_cons rfl (one_cons rfl (one_cons rfl (one_cons hd12o one_nil)))) S (i := 0) rfl rfl ?_
  intro w7 S
  refine asg1 rfl rfl ?_
  refine Ro.nil ?_
  refine Nrm.code ?_
  refine Run.seq ?_
  refine Run.region ?_
  refine ldW rfl T24 S (i := 3) rfl rfl rfl rfl rfl ?_
  refine ldW rfl T24 S (i := 2) rfl rfl rfl rfl rfl ?_
  refine mv1 rfl rfl ?_
  refine call (vs := [_, _, _]) ⟨⟨_, _, rfl, rfl⟩, ⟨_, _, rfl, rfl⟩, ⟨_, _, rfl, rfl⟩, trivial⟩ k62 rfl (c62W s d _ b _ hs ht ((S.bsI (i := 1) rfl hby_u10).cutM) (hg2.now S) (hg3.now S)) ?_
  rintro _ w8 ⟨o14, d14, vs14, rfl, hF14, hw14, hvl14, hcp14, hd14⟩
  have hd14o := (hw14 _ _ ((S.bsI (i := 1) rfl hby_u10).cutM)).2.one
  have S := S.fo hF14
  have hcd14 : capV d14 = (tcpT s d b).data.length := by
    rw [hd14]
    split
    · rename_i h; rw [cut_cap hr3.cutM, tcpT, if_pos h]; show _ = ((b.drop (tcpH b)).take (b.length - tcpH b)).length; rw [List.length_take, List.length_drop]; omega
    · rename_i h; rw [tcpT, if_neg h]; rfl
  refine mv1 rfl rfl ?_
  refine extr1 rfl rfl rfl ?_
  refine extr1 rfl rfl rfl ?_
  refine alc T82 S rfl ?_
  intro b14 w9 hb14 S B_
  refine stW rfl rfl T82 rfl rfl (one_cons rfl (one_cons rfl (one_cons rfl (one_cons rfl (one_cons rfl (one_cons rfl (one_cons rfl (one_cons (S.slI (i := 1) rfl).one (one_cons hd14o one_nil))))))))) S (i := 0) rfl rfl ?_
  intro w10 S
  refine asg1 rfl rfl ?_
  refine Ro.nil ?_
  refine Nrm.code ?_
  refine Run.seq ?_
  refine Run.region ?_
  refine mv1 rfl rfl ?_
  refine call (vs := [_]) ⟨⟨_, _, rfl, rfl⟩, trivial⟩ k67 rfl (c67W _ b _ ((S.bsI (i := 3) rfl hby_u10).cutM) (hg3.now S)) ?_
  rintro _ w11 ⟨u16, vs16, rfl, hF16, hw16, hvl16, hcp16⟩
  have S := S.fo hF16
  refine mv1 rfl rfl ?_
  refine extr1 rfl rfl rfl ?_
  refine extr1 rfl rfl rfl ?_
  refine asg1 rfl rfl ?_
  refine asg1 rfl rfl ?_
  refine Ro.nil ?_
  refine Nrm.code ?_
  refine Run.seq ?_
  refine Run.seq ?_
  refine Run.region ?_
  have hto1 : (tcpT s d b).opts.length ≤ 40 := by
    unfold tcpT
    split
    · exact (topt_len0 (tcpO b)).1
    · simp [t00]
  have hto2 : ∀ o ∈ (tcpT s d b).opts, o.data.length ≤ 40 := by
    unfold tcpT
    split
    · exact (topt_len0 (tcpO b)).2
    · intro o ho; simp [t00] at ho
  have hul : (udpU s d b).data.length ≤ b.length := by
    unfold udpU
    split
    · show ((b.drop 8).take _).length ≤ _; rw [List.length_take, List.length_drop]; omega
    · simp [u00]
  have htl : (tcpT s d b).data.length ≤ b.length := by
    unfold tcpT
    split
    · show ((b.drop _).take _).length ≤ _; rw [List.length_take, List.length_drop]; omega
    · simp [t00]
  refine asg1 rfl rfl ?_
  refine Ro.nil ?_
  refine Nrm.code ?_
  refine Run.block ?_
  refine Run.loop1 (fun (i : Nat) w_ => i ≤ (tL b).length ∧ St [] w [oO u16 (tL b) vs16, .var b14 82 (encTcp (tcpT s d b) o14 d14), oO o14 (tcpT s d b).opts vs14, .var b12 73 (encUdp (udpU s d b) d12), oB u10 (b ++ marks)] w_) (fun (i : Nat) => [(2, [], v), (3, [], .int .u8 x), (9, [], .bool true), (10, [], u10), (12, [], .pointer (some ⟨b12, 0, none⟩)), (13, [], .int .i64 (udpE s d b)), (14, [], .pointer (some ⟨b14, 0, none⟩)), (15, [], .int .i64 (tcpE s d b)), (16, [], u16), (17, [], .int .i64 (tE b)), (18, [], .int .i64 i)]) (fun (i : Nat) => (tL b).length - i) (0) ⟨Nat.zero_le _, S.pick [true, true, true, true, true, false, false] rfl⟩ ⟨rfl, rfl, rfl, rfl, rfl, rfl, rfl, rfl, rfl, rfl, rfl, trivial⟩ ?_
  rintro i w12 ⟨hi, S⟩
  refine Run.seq ?_
  refine Run.seq ?_
  refine Run.region ?_
  refine mv1 rfl rfl ?_
  refine mv1 rfl rfl ?_
  refine lenS rfl (S.slI (i := 0) rfl) Tryd.underlying25 rfl rfl rfl ?_
  refine lss1 rfl rfl rfl ?_
  refine mv1 rfl rfl ?_
  refine mv rfl rfl rfl rfl ?_
  refine pkA rfl rfl rfl rfl rfl rfl ?_
  refine Ro.nil ?_
  refine Nrm.code ?_
  refine Run.cond rfl (fun hc8 => ?_) (fun hc8 => ?_)
  ·
    try simp only [Bool.or_eq_true, Bool.and_eq_true, Bool.or_eq_false_iff, Bool.and_eq_false_iff, decide_eq_true_eq, decide_eq_false_iff_not, Bool.not_eq_true', Bool.not_eq_false', Bool.not_eq_true, Bool.not_eq_false] at hc8
    refine Run.skip ?_
    refine Nrm.code ?_
    refine Run.seq ?_
    refine Run.block ?_
    refine Run.seq ?_
    refine Run.region ?_
    obtain ⟨p1, hp1⟩ : ∃ p, vs16[i]? = some p := ⟨vs16[i]'(by omega), List.getElem?_eq_getElem (by omega)⟩
    have hcap1 := hcp16 i p1 hp1
    have hdb1 := htl0.2 _ (getD_mem' (d := o0) (show i < (tL b).length by omega))
    refine mv1 rfl rfl ?_
    refine mv1 rfl rfl ?_
    refine ixa rfl rfl (S.slI (i := 0) rfl) e25 rfl rfl rfl rfl (fun _ => by first | omega | (simp only [List.length_cons, List.length_nil]; omega)) ?_
    refine flE rfl (S.slI (i := 0) rfl) fo93_1 rfl rfl rfl (fun _ => by have h_ := optC_len hvl16; simp only [Int.toNat_natCast]; omega) ?_
    refine ldE rfl (S.slI (i := 0) rfl) (St.refl [] _) T26 rfl rfl rfl (fun _ => (optC_at (by omega) hp1).2) ?_
    refine bsl e26 (qs := [(_, _), (_, _), (_, _)]) ⟨⟨_, _, _, rfl, rfl, rfl, rfl, by first | (simp [Value.cells]; done) | simp [Value.cells, encIP]⟩, ⟨_, _, _, rfl, rfl, rfl, rfl, by first | (simp [Value.cells]; done) | simp [Value.cells, encIP]⟩, ⟨_, _, _, rfl, rfl, rfl, rfl, by first | (simp [Value.cells]; done) | simp [Value.cells, encIP]⟩, trivial⟩ rfl rfl rfl rfl S ?_
    intro u68 w13 S B_
    have S : St _ _ (oB u68 [7, 8, 9] :: _) w13 := S
    refine apG rfl rfl e26 ((hw16 [] _ ((S.bsI (i := 5) rfl hby_u10).cutM)).at1 (by omega) hp1) (S.bsI (i := 0) (l := [7, 8, 9]) rfl b789) (by rw [hcap1]; simp) S rfl (by have := htl0.2 _ (getD_mem' (d := o0) (show i < (tL b).length by omega)); simp only [List.length_cons, List.length_nil]; omega) ?_
    intro u69 w14 S B_
    refine asg1 rfl rfl ?_
    refine Ro.nil ?_
    refine Nrm.code ?_
    refine Run.region ?_
    refine mv1 rfl rfl ?_
    refine lenS rfl (S.slI (i := 0) rfl) Tryd.underlying26 rfl rfl rfl ?_
    refine mv1 rfl rfl ?_
    refine mv1 rfl rfl ?_
    refine ixa rfl rfl (S.slI (i := 2) rfl) e25 rfl rfl rfl rfl (fun _ => by first | omega | (simp only [List.length_cons, List.length_nil]; omega)) ?_
    refine flE rfl (S.slI (i := 2) rfl) fo93_1 rfl rfl rfl (fun _ => by have h_ := optC_len hvl16; simp only [Int.toNat_natCast]; omega) ?_
    refine ldE rfl (S.slI (i := 2) rfl) (St.refl [] _) T26 rfl rfl rfl (fun _ => (optC_at (by omega) hp1).2) ?_
    refine lenS rfl ((hw16 [] _ ((S.bsI (i := 6) rfl hby_u10).cutM)).at1 (by omega) hp1).2 Tryd.underlying26 rfl rfl rfl ?_
    refine add1 rfl rfl rfl (w64 (by omega)) ?_
    refine eql1 rfl rfl rfl ?_
    refine mv1 rfl rfl ?_
    refine mv rfl rfl rfl rfl ?_
    refine mv rfl rfl rfl rfl ?_
    refine calg (vs := [_, _]) rfl ⟨⟨_, _, rfl, rfl⟩, ⟨_, _, rfl, rfl⟩, trivial⟩ k68 rfl (fun hG => c68 _ _ (b ++ marks) b _ (S.bsI (i := 6) rfl hby_u10) (hb.now S) (by omega)) ?_
    intro w15 B_; have S := S.call B_
    refine pkA rfl rfl rfl rfl rfl rfl ?_
    refine asg1 rfl rfl ?_
    refine Ro.nil ?_
    refine Nrm.blk ?_
    refine Nrm.code ?_
    refine Run.region ?_
    refine mv1 rfl rfl ?_
    refine add1 rfl rfl rfl (w64 (by omega)) ?_
    refine asg1 rfl rfl ?_
    refine Ro.nil ?_
    refine Nrm.loop1 (i + 1) ⟨by omega, S.pick [false, false, true, true, true, true, true] rfl⟩ (by omega) ⟨rfl, rfl, (by simp; rfl), rfl, rfl, rfl, rfl, rfl, rfl, rfl, rfl, trivial⟩
  ·
    try simp only [Bool.or_eq_true, Bool.and_eq_true, Bool.or_eq_false_iff, Bool.and_eq_false_iff, decide_eq_true_eq, decide_eq_false_iff_not, Bool.not_eq_true', Bool.not_eq_false', Bool.not_eq_true, Bool.not_eq_false] at hc8
    refine Run.exit ?_
    refine Lv.code ?_
    refine Lv.back ?_
    refine Lv.hit ?_
    refine Nrm.code ?_
    refine Run.seq ?_
    refine Run.seq ?_
    refine Run.region ?_
    refine asg1 rfl rfl ?_
    refine Ro.nil ?_
    refine Nrm.code ?_
    refine Run.block ?_
    refine Run.loop1 (fun (i : Nat) w_ => i ≤ (tcpT s d b).opts.length ∧ St [] w [oO u16 (tL b) vs16, .var b14 82 (encTcp (tcpT s d b) o14 d14), oO o14 (tcpT s d b).opts vs14, .var b12 73 (encUdp (udpU s d b) d12), oB u10 (b ++ marks)] w_) (fun (i : Nat) => [(2, [], v), (3, [], .int .u8 x), (9, [], .bool true), (10, [], u10), (12, [], .pointer (some ⟨b12, 0, none⟩)), (13, [], .int .i64 (udpE s d b)), (14, [], .pointer (some ⟨b14, 0, none⟩)), (15, [], .int .i64 (tcpE s d b)), (16, [], u16), (17, [], .int .i64 (tE b)), (20, [], .int .i64 i)]) (fun (i : Nat) => (tcpT s d b).opts.length - i) (0) ⟨Nat.zero_le _, S⟩ ⟨rfl, rfl, rfl, rfl, rfl, rfl, rfl, rfl, rfl, rfl, rfl, trivial⟩ ?_
    rintro i w13 ⟨hi, S⟩
    refine Run.seq ?_
    refine Run.seq ?_
    refine Run.region ?_
    refine mv1 rfl rfl ?_
    refine fld (o' := 7) rfl fo82_7 rfl rfl rfl rfl ?_
    refine ld1 rfl T25 S (i := 1) rfl rfl rfl rfl rfl ?_
    refine lenS rfl (S.slI (i := 2) rfl) Tryd.underlying25 rfl rfl rfl ?_
    refine lss1 rfl rfl rfl ?_
    refine mv1 rfl rfl ?_
    refine mv rfl rfl rfl rfl ?_
    refine pkA rfl rfl rfl rfl rfl rfl ?_
    refine Ro.nil ?_
    refine Nrm.code ?_
    refine Run.cond rfl (fun hc13 => ?_) (fun hc13 => ?_)
    ·
      try simp only [Bool.or_eq_true, Bool.and_eq_true, Bool.or_eq_false_iff, Bool.and_eq_false_iff, decide_eq_true_eq, decide_eq_false_iff_not, Bool.not_eq_true', Bool.not_eq_false', Bool.not_eq_true, Bool.not_eq_false] at hc13
      refine Run.skip ?_
      refine Nrm.code ?_
      refine Run.seq ?_
      refine Run.block ?_
      refine Run.seq ?_
      refine Run.region ?_
      obtain ⟨p1, hp1⟩ : ∃ p, vs14[i]? = some p := ⟨vs14[i]'(by omega), List.getElem?_eq_getElem (by omega)⟩
      have hcap1 := hcp14 i p1 hp1
      have hdb1 := hto2 _ (getD_mem' (d := o0) (show i < (tcpT s d b).opts.length by omega))
      refine fld (o' := 7) rfl fo82_7 rfl rfl rfl rfl ?_
      refine ld1 rfl T25 S (i := 1) rfl rfl rfl rfl rfl ?_
      refine mv1 rfl rfl ?_
      refine ixa rfl rfl (S.slI (i := 2) rfl) e25 rfl rfl rfl rfl (fun _ => by first | omega | (simp only [List.length_cons, List.length_nil]; omega)) ?_
      refine flE rfl (S.slI (i := 2) rfl) fo93_1 rfl rfl rfl (fun _ => by have h_ := optC_len hvl14; simp only [Int.toNat_natCast]; omega) ?_
      refine ldE rfl (S.slI (i := 2) rfl) (St.refl [] _) T26 rfl rfl rfl (fun _ => (optC_at (by omega) hp1).2) ?_
      refine bsl e26 (qs := [(_, _), (_, _), (_, _)]) ⟨⟨_, _, _, rfl, rfl, rfl, rfl, by first | (simp [Value.cells]; done) | simp [Value.cells, encIP]⟩, ⟨_, _, _, rfl, rfl, rfl, rfl, by first | (simp [Value.cells]; done) | simp [Value.cells, encIP]⟩, ⟨_, _, _, rfl, rfl, rfl, rfl, by first | (simp [Value.cells]; done) | simp [Value.cells, encIP]⟩, trivial⟩ rfl rfl rfl rfl S ?_
      intro u101 w14 S B_
      have S : St _ _ (oB u101 [7, 8, 9] :: _) w14 := S
      refine apG rfl rfl e26 (((hw14 [] _ ((S.bsI (i := 5) rfl hby_u10).cutM)).1).at1 (by omega) hp1) (S.bsI (i := 0) (l := [7, 8, 9]) rfl b789) (by rw [hcap1]; simp) S rfl (by have := hto2 _ (getD_mem' (d := o0) (show i < (tcpT s d b).opts.length by omega)); simp only [List.length_cons, List.length_nil]; omega) ?_
      intro u102 w15 S B_
      refine asg1 rfl rfl ?_
      refine Ro.nil ?_
      refine Nrm.code ?_
      refine Run.region ?_
      refine mv1 rfl rfl ?_
      refine lenS rfl (S.slI (i := 0) rfl) Tryd.underlying26 rfl rfl rfl ?_
      refine fld (o' := 7) rfl fo82_7 rfl rfl rfl rfl ?_
      refine ld1 rfl T25 S (i := 3) rfl rfl rfl rfl rfl ?_
      refine mv1 rfl rfl ?_
      refine ixa rfl rfl (S.slI (i := 4) rfl) e25 rfl rfl rfl rfl (fun _ => by first | omega | (simp only [List.length_cons, List.length_nil]; omega)) ?_
      refine flE rfl (S.slI (i := 4) rfl) fo93_1 rfl rfl rfl (fun _ => by have h_ := optC_len hvl14; simp only [Int.toNat_natCast]; omega) ?_
      refine ldE rfl (S.slI (i := 4) rfl) (St.refl [] _) T26 rfl rfl rfl (fun _ => (optC_at (by omega) hp1).2) ?_
      refine lenS rfl (((hw14 [] _ ((S.bsI (i := 6) rfl hby_u10).cutM)).1).at1 (by omega) hp1).2 Tryd.underlying26 rfl rfl rfl ?_
      refine add1 rfl rfl rfl (w64 (by omega)) ?_
      refine eql1 rfl rfl rfl ?_
      refine mv1 rfl rfl ?_
      refine mv rfl rfl rfl rfl ?_
      refine mv rfl rfl rfl rfl ?_
      refine calg (vs := [_, _]) rfl ⟨⟨_, _, rfl, rfl⟩, ⟨_, _, rfl, rfl⟩, trivial⟩ k68 rfl (fun hG => c68 _ _ (b ++ marks) b _ (S.bsI (i := 6) rfl hby_u10) (hb.now S) (by omega)) ?_
      intro w16 B_; have S := S.call B_
      refine pkA rfl rfl rfl rfl rfl rfl ?_
      refine asg1 rfl rfl ?_
      refine Ro.nil ?_
      refine Nrm.blk ?_
      refine Nrm.code ?_
      refine Run.region ?_
      refine mv1 rfl rfl ?_
      refine add1 rfl rfl rfl (w64 (by omega)) ?_
      refine asg1 rfl rfl ?_
      refine Ro.nil ?_
      refine Nrm.loop1 (i + 1) ⟨by omega, S.pick [false, false, true, true, true, true, true] rfl⟩ (by omega) ⟨rfl, rfl, (by simp; rfl), rfl, rfl, rfl, rfl, rfl, rfl, rfl, rfl, trivial⟩
    ·
      try simp only [Bool.or_eq_true, Bool.and_eq_true, Bool.or_eq_false_iff, Bool.and_eq_false_iff, decide_eq_true_eq, decide_eq_false_iff_not, Bool.not_eq_true', Bool.not_eq_false', Bool.not_eq_true, Bool.not_eq_false] at hc13
      refine Run.exit ?_
      refine Lv.code ?_
      refine Lv.back ?_
      refine Lv.hit ?_
      refine Nrm.code ?_
      refine Run.seq ?_
      refine Run.seq ?_
      refine Run.region ?_
      refine mv1 rfl rfl ?_
      refine nt1 rfl rfl ?_
      refine Ro.nil ?_
      refine Nrm.code ?_
      refine Run.cond rfl (fun hc17 => ?_) (fun hc17 => ?_)
      ·
        try simp only [Bool.or_eq_true, Bool.and_eq_true, Bool.or_eq_false_iff, Bool.and_eq_false_iff, decide_eq_true_eq, decide_eq_false_iff_not, Bool.not_eq_true', Bool.not_eq_false', Bool.not_eq_true, Bool.not_eq_false] at hc17
        exfalso; simp at hc17
      ·
        try simp only [Bool.or_eq_true, Bool.and_eq_true, Bool.or_eq_false_iff, Bool.and_eq_false_iff, decide_eq_true_eq, decide_eq_false_iff_not, Bool.not_eq_true', Bool.not_eq_false', Bool.not_eq_true, Bool.not_eq_false] at hc17
        refine Run.skip ?_
        refine Nrm.code ?_
        refine Run.seq ?_
        refine Run.region ?_
        refine fld (o' := 3) rfl fo73_3 rfl rfl rfl rfl ?_
        refine ld1 rfl T26 S (i := 3) rfl rfl rfl rfl rfl ?_
        refine bsl e26 (qs := [(_, _), (_, _), (_, _)]) ⟨⟨_, _, _, rfl, rfl, rfl, rfl, by first | (simp [Value.cells]; done) | simp [Value.cells, encIP]⟩, ⟨_, _, _, rfl, rfl, rfl, rfl, by first | (simp [Value.cells]; done) | simp [Value.cells, encIP]⟩, ⟨_, _, _, rfl, rfl, rfl, rfl, by first | (simp [Value.cells]; done) | simp [Value.cells, encIP]⟩, trivial⟩ rfl rfl rfl rfl S ?_
        intro u123 w14 S B_
        have S : St _ _ (oB u123 [7, 8, 9] :: _) w14 := S
        refine apG rfl rfl e26 (hw12 [] _ ((S.bsI (i := 5) rfl hby_u10).cutM)) (S.bsI (i := 0) (l := [7, 8, 9]) rfl b789) (by rw [hcd12]; simp) S rfl (by simp only [List.length_cons, List.length_nil]; omega) ?_
        intro u124 w15 S B_
        refine asg1 rfl rfl ?_
        refine Ro.nil ?_
        refine Nrm.code ?_
        refine Run.seq ?_
        refine Run.region ?_
        refine fld (o' := 8) rfl fo82_8 rfl rfl rfl rfl ?_
        refine ld1 rfl T26 S (i := 3) rfl rfl rfl rfl rfl ?_
        refine bsl e26 (qs := [(_, _), (_, _), (_, _)]) ⟨⟨_, _, _, rfl, rfl, rfl, rfl, by first | (simp [Value.cells]; done) | simp [Value.cells, encIP]⟩, ⟨_, _, _, rfl, rfl, rfl, rfl, by first | (simp [Value.cells]; done) | simp [Value.cells, encIP]⟩, ⟨_, _, _, rfl, rfl, rfl, rfl, by first | (simp [Value.cells]; done) | simp [Value.cells, encIP]⟩, trivial⟩ rfl rfl rfl rfl S ?_
        intro u127 w16 S B_
        have S : St _ _ (oB u127 [7, 8, 9] :: _) w16 := S
        refine apG rfl rfl e26 ((hw14 [] _ ((S.bsI (i := 7) rfl hby_u10).cutM)).2) (S.bsI (i := 0) (l := [7, 8, 9]) rfl b789) (by rw [hcd14]; simp) S rfl (by simp only [List.length_cons, List.length_nil]; omega) ?_
        intro u128 w17 S B_
        refine asg1 rfl rfl ?_
        refine Ro.nil ?_
        refine Nrm.code ?_
        refine Run.seq ?_
        refine Run.seq ?_
        refine Run.region ?_
        refine mv1 rfl rfl ?_
        refine mv1 rfl rfl ?_
        refine calg (vs := [_, _]) rfl ⟨⟨_, _, rfl, rfl⟩, ⟨_, _, rfl, rfl⟩, trivial⟩ k68 rfl (fun hG => c68 _ _ (b ++ marks) b _ (S.bsI (i := 8) rfl hby_u10) (hb.now S) (by omega)) ?_
        intro w18 B_; have S := S.call B_
        refine nt1 rfl rfl ?_
        refine mv1 rfl rfl ?_
        refine mv rfl rfl rfl rfl ?_
        refine lenS rfl (S.slI (i := 2) rfl) Tryd.underlying26 rfl rfl rfl ?_
        refine lss rfl rfl rfl rfl rfl rfl ?_
        refine pkO rfl rfl rfl rfl rfl rfl ?_
        refine mv1 rfl rfl ?_
        refine mv rfl rfl rfl rfl ?_
        refine lenS rfl (S.slI (i := 0) rfl) Tryd.underlying26 rfl rfl rfl ?_
        refine lss rfl rfl rfl rfl rfl rfl ?_
        refine pkO rfl rfl rfl rfl rfl rfl ?_
        refine Ro.nil ?_
        refine Nrm.code ?_
        refine Run.cond rfl (fun hc21 => ?_) (fun hc21 => ?_)
        ·
          try simp only [Bool.or_eq_true, Bool.and_eq_true, Bool.or_eq_false_iff, Bool.and_eq_false_iff, decide_eq_true_eq, decide_eq_false_iff_not, Bool.not_eq_true', Bool.not_eq_false', Bool.not_eq_true, Bool.not_eq_false] at hc21
          exfalso; (simp at hc21; omega)
        ·
          try simp only [Bool.or_eq_true, Bool.and_eq_true, Bool.or_eq_false_iff, Bool.and_eq_false_iff, decide_eq_true_eq, decide_eq_false_iff_not, Bool.not_eq_true', Bool.not_eq_false', Bool.not_eq_true, Bool.not_eq_false] at hc21
          refine Run.skip ?_
          refine Nrm.code ?_
          refine Run.seq ?_
          refine Run.region ?_
          refine fld (o' := 3) rfl fo73_3 rfl rfl rfl rfl ?_
          refine ld1 rfl T26 S (i := 7) rfl rfl rfl rfl rfl ?_
          refine asg1 rfl rfl ?_
          refine Ro.nil ?_
          refine Nrm.code ?_
          refine Run.seq ?_
          refine Run.region ?_
          refine asg1 rfl rfl ?_
          refine Ro.nil ?_
          refine Nrm.code ?_
          refine Run.cut (γ := Bool) (fun g w_ => ((offB b g) ≤ (hiB b g) ∧ (hiB b g) ≤ b.length) ∧ St [] w [oB u10 (b ++ marks)] w_) (fun g => [(2, [], v), (3, [], .int .u8 x), (10, [], u10), (24, [], (W.cut (W.cut u10 0 b.length (capV u10)) (offB b g) (hiB b g) (hiB b g))), (25, [], .int .i64 (offB b g))]) ?_ ?_
          ·
            refine Run.seq ?_
            refine Run.region ?_
            refine mv1 rfl rfl ?_
            refine calg (vs := [_]) rfl ⟨⟨_, _, rfl, rfl⟩, trivial⟩ k56 rfl (fun hG => c56 (udpE s d b) _ (by have := hue; omega)) ?_
            intro w19 B_; have S := S.call B_
            refine neq1 rfl rfl rfl ?_
            refine Ro.nil ?_
            refine Nrm.code ?_
            refine Run.cond rfl (fun hc25 => ?_) (fun hc25 => ?_)
            ·
              try simp only [Bool.or_eq_true, Bool.and_eq_true, Bool.or_eq_false_iff, Bool.and_eq_false_iff, decide_eq_true_eq, decide_eq_false_iff_not, Bool.not_eq_true', Bool.not_eq_false', Bool.not_eq_true, Bool.not_eq_false] at hc25
              have hUE : udpE s d b ≠ 0 := hc25
              refine Run.seq ?_
              refine Run.seq ?_
              refine Run.region ?_
              refine mv1 rfl rfl ?_
              refine calg (vs := [_]) rfl ⟨⟨_, _, rfl, rfl⟩, trivial⟩ k56 rfl (fun hG => c56 (tcpE s d b) _ (by have := htce; omega)) ?_
              intro w20 B_; have S := S.call B_
              refine neq1 rfl rfl rfl ?_
              refine Ro.nil ?_
              refine Nrm.code ?_
              refine Run.cond rfl (fun hc26 => ?_) (fun hc26 => ?_)
              ·
                try simp only [Bool.or_eq_true, Bool.and_eq_true, Bool.or_eq_false_iff, Bool.and_eq_false_iff, decide_eq_true_eq, decide_eq_false_iff_not, Bool.not_eq_true', Bool.not_eq_false', Bool.not_eq_true, Bool.not_eq_false] at hc26
                refine Run.seq ?_
                refine Run.region ?_
                refine mv1 rfl rfl ?_
                refine calg (vs := [_]) rfl ⟨⟨_, _, rfl, rfl⟩, trivial⟩ k56 rfl (fun hG => c56 (tE b) _ (by have := hte; omega)) ?_
                intro w21 B_; have S := S.call B_
                refine neq1 rfl rfl rfl ?_
                refine mv1 rfl rfl ?_
                refine mv rfl rfl rfl rfl ?_
                refine lenS rfl (S.slI (i := 4) rfl) Tryd.underlying25 rfl rfl rfl ?_
                refine eql rfl rfl rfl rfl rfl rfl ?_
                refine pkO rfl rfl rfl rfl rfl rfl ?_
                refine mv1 rfl rfl ?_
                refine mv rfl rfl rfl rfl ?_
                refine mv rfl rfl rfl rfl ?_
                refine calg (vs := [_, _]) rfl ⟨⟨_, _, rfl, rfl⟩, ⟨_, _, rfl, rfl⟩, trivial⟩ k68 rfl (fun hG => c68 _ _ (b ++ marks) b _ (S.bsI (i := 8) rfl hby_u10) (hb.now S) (by omega)) ?_
                intro w22 B_; have S := S.call B_
                refine pkO rfl rfl rfl rfl rfl rfl ?_
                refine asg1 rfl rfl ?_
                refine Ro.nil ?_
                refine Nrm.code ?_
                refine Run.ret ?_
                refine Rt.one rfl rfl ?_
                exact ⟨by simp, S.bl⟩
              ·
                try simp only [Bool.or_eq_true, Bool.and_eq_true, Bool.or_eq_false_iff, Bool.and_eq_false_iff, decide_eq_true_eq, decide_eq_false_iff_not, Bool.not_eq_true', Bool.not_eq_false', Bool.not_eq_true, Bool.not_eq_false] at hc26
                have hE : tcpE s d b = 0 := by omega
                have hfT := tcp_facts hE
                have hlT : ((b.length : Int) - ((tcpT s d b).data.length : Int)) = (tcpH b : Int) := by
                  rw [tcpT, if_pos hE]
                  show ((b.length : Int) - (((b.drop (tcpH b)).take (b.length - tcpH b)).length : Int)) = (tcpH b : Int)
                  rw [List.length_take, List.length_drop]
                  omega
                have hoT : offB b false ≤ hiB b false ∧ hiB b false ≤ b.length := ⟨by show tcpH b ≤ b.length; omega, by show b.length ≤ b.length; omega⟩
                refine Run.skip ?_
                refine Nrm.code ?_
                refine Run.seq ?_
                refine Run.region ?_
                refine fld (o' := 8) rfl fo82_8 rfl rfl rfl rfl ?_
                refine ld1 rfl T26 S (i := 5) rfl rfl rfl rfl rfl ?_
                refine asg1 rfl rfl ?_
                refine Ro.nil ?_
                refine Nrm.code ?_
                refine Run.region ?_
                refine mv1 rfl rfl ?_
                refine lenS rfl hb.2 Tryd.underlying26 rfl rfl rfl ?_
                refine mv1 rfl rfl ?_
                refine lenS rfl ((hw14 [] _ ((S.bsI (i := 8) rfl hby_u10).cutM)).2).2 Tryd.underlying26 rfl rfl rfl ?_
                refine sub1 rfl rfl rfl (w64 (by omega)) ?_
                refine asg1 rfl rfl ?_
                refine Ro.nil ?_
                exact Nrm.cut false ⟨hoT, S.pick [false, false, false, false, false, false, false, false, true] rfl⟩ ⟨rfl, rfl, rfl, (by rw [hd14, if_pos hE]; rfl), (by rw [hlT]; rfl), trivial⟩
            ·
              try simp only [Bool.or_eq_true, Bool.and_eq_true, Bool.or_eq_false_iff, Bool.and_eq_false_iff, decide_eq_true_eq, decide_eq_false_iff_not, Bool.not_eq_true', Bool.not_eq_false', Bool.not_eq_true, Bool.not_eq_false] at hc25
              have hE : udpE s d b = 0 := by omega
              have hfU := udp_facts hE
              have hoU : offB b true ≤ hiB b true ∧ hiB b true ≤ b.length := ⟨by show 8 ≤ lenU b; omega, by show lenU b ≤ b.length; omega⟩
              refine Run.skip ?_
              exact Nrm.cut true ⟨hoU, S.pick [false, false, false, false, false, false, false, false, true] rfl⟩ ⟨rfl, rfl, rfl, (by rw [hd12, if_pos hE]; rfl), rfl, trivial⟩
          ·
            rintro g w19 ⟨hoh, S⟩
            refine Run.seq ?_
            refine Run.seq ?_
            refine Run.region ?_
            refine asg1 rfl rfl ?_
            refine Ro.nil ?_
            refine Nrm.code ?_
            refine Run.block ?_
            refine Run.loop1 (fun (j : Nat) w_ => j ≤ (hiB b g) - (offB b g) ∧ St [] w [oB u10 ((mixX b (offB b g) x j) ++ marks)] w_) (fun (j : Nat) => [(2, [], v), (3, [], .int .u8 x), (10, [], u10), (24, [], (W.cut (W.cut u10 0 b.length (capV u10)) (offB b g) (hiB b g) (hiB b g))), (25, [], .int .i64 (offB b g)), (26, [], .int .i64 j)]) (fun (j : Nat) => (hiB b g) - (offB b g) - j) (0) ⟨Nat.zero_le _, S⟩ ⟨rfl, rfl, rfl, rfl, rfl, rfl, trivial⟩ ?_
            rintro j w20 ⟨hj, S⟩
            have hml := mixX_len b (offB b g) x j
            refine Run.seq ?_
            refine Run.seq ?_
            refine Run.region ?_
            refine mv1 rfl rfl ?_
            refine mv1 rfl rfl ?_
            refine lenS rfl (win_bs (S.bsI (i := 0) rfl (byt_app (mixX_byt hb.1 _ x _) marks_byt)) (mixX_len b _ x _) hoh).2 Tryd.underlying26 rfl rfl rfl ?_
            refine lss1 rfl rfl rfl ?_
            refine Ro.nil ?_
            refine Nrm.code ?_
            refine Run.cond rfl (fun hc31 => ?_) (fun hc31 => ?_)
            ·
              try simp only [Bool.or_eq_true, Bool.and_eq_true, Bool.or_eq_false_iff, Bool.and_eq_false_iff, decide_eq_true_eq, decide_eq_false_iff_not, Bool.not_eq_true', Bool.not_eq_false', Bool.not_eq_true, Bool.not_eq_false] at hc31
              refine Run.skip ?_
              refine Nrm.code ?_
              refine Run.seq ?_
              refine Run.block ?_
              refine Run.region ?_
              rw [List.length_take, List.length_drop, mixX_len] at hc31
              refine mv1 rfl rfl ?_
              refine mv1 rfl rfl ?_
              refine mv1 rfl rfl ?_
              refine mv1 rfl rfl ?_
              refine ixa rfl rfl (win_bs (S.bsI (i := 0) rfl (byt_app (mixX_byt hb.1 _ x _) marks_byt)) (mixX_len b _ x _) hoh).2 e26 rfl rfl rfl rfl (fun _ => by have := mixX_len b (offB b g) x j; rw [List.length_take, List.length_drop]; omega) ?_
              refine ldB rfl (win_bs (S.bsI (i := 0) rfl (byt_app (mixX_byt hb.1 _ x _) marks_byt)) (mixX_len b _ x _) hoh) (St.refl [] _) T5 rfl rfl rfl (fun _ => by have := mixX_len b (offB b g) x j; rw [List.length_take, List.length_drop]; omega) ?_
              intro q182 hq182 hbq182
              try simp only [Int.toNat_natCast, Nat.mul_one, Int.reduceToNat] at hq182
              refine mv1 rfl rfl ?_
              refine bxor rfl rfl rfl rfl rfl rfl (fun _ => rfl) ?_
              refine ixa rfl rfl (win_bs (S.bsI (i := 0) rfl (byt_app (mixX_byt hb.1 _ x _) marks_byt)) (mixX_len b _ x _) hoh).2 e26 rfl rfl rfl rfl (fun _ => by have := mixX_len b (offB b g) x j; rw [List.length_take, List.length_drop]; omega) ?_
              have hrow := S.hold_at (i := 0) rfl
              have eq182 : q182 = (mixX b (offB b g) x j).getD ((offB b g) + j) 0 := by rw [hq182]; exact getD_cut (by omega)
              have heP : eP u10 (((offB b g) + j) * 1) = eP (W.cut (W.cut u10 0 b.length (capV u10)) (offB b g) (hiB b g) (hiB b g)) ((j : Int).toNat * 1) := by rw [Nat.mul_one, Int.toNat_natCast, Nat.mul_one]; exact (eP_win hrow (marks_ne _) (by omega)).symm
              refine stB (v := u10) (j := (offB b g) + j) (by rw [heP]; rfl) rfl T5 S (i := 0) rfl (by rw [List.length_append, mixX_len]; omega) rfl ?_
              intro w21 S
              have S : St [] w [oB u10 (mixX b (offB b g) x (j + 1) ++ marks)] w21 := by have S2 := S; rw [eq182] at S2; rw [← mixX_next b (offB b g) x j (by omega)]; exact S2
              refine Ro.nil ?_
              refine Nrm.blk ?_
              refine Nrm.code ?_
              refine Run.region ?_
              refine mv1 rfl rfl ?_
              refine add1 rfl rfl rfl (w64 (by omega)) ?_
              refine asg1 rfl rfl ?_
              refine Ro.nil ?_
              refine Nrm.loop1 (j + 1) ⟨by omega, S⟩ (by omega) ⟨rfl, rfl, rfl, rfl, rfl, rfl, trivial⟩
            ·
              try simp only [Bool.or_eq_true, Bool.and_eq_true, Bool.or_eq_false_iff, Bool.and_eq_false_iff, decide_eq_true_eq, decide_eq_false_iff_not, Bool.not_eq_true', Bool.not_eq_false', Bool.not_eq_true, Bool.not_eq_false] at hc31
              refine Run.exit ?_
              refine Lv.code ?_
              refine Lv.back ?_
              refine Lv.hit ?_
              refine Nrm.code ?_
              refine Run.seq ?_
              refine Run.seq ?_
              refine Run.region ?_
              rw [List.length_take, List.length_drop, mixX_len] at hc31
              have hjj : j = (hiB b g) - (offB b g) := by omega
              subst hjj
              obtain ⟨hu10, S⟩ := S.layBI (i := 0) rfl rfl (byt_app (mixX_byt hb.1 _ x _) marks_byt)
              obtain ⟨N1, hN1, S_1⟩ := S.reb
              have hb := hb.st S; rw [hN1] at hb
              have hg1 := hg1.st S; rw [hN1] at hg1
              have hg2 := hg2.st S; rw [hN1] at hg2
              have hg3 := hg3.st S; rw [hN1] at hg3
              rw [hN1] at hu10
              have SS := S
              have S := S_1
              refine asg1 rfl rfl ?_
              refine Ro.nil ?_
              refine Nrm.code ?_
              refine Run.block ?_
              refine Run.loop1 (fun (j : Nat) w_ => j ≤ (hiB b g) - (offB b g) ∧ St N1 w20 [] w_) (fun (j : Nat) => [(2, [], v), (3, [], .int .u8 x), (10, [], u10), (24, [], (W.cut (W.cut u10 0 b.length (capV u10)) (offB b g) (hiB b g) (hiB b g))), (25, [], .int .i64 (offB b g)), (27, [], .int .i64 j)]) (fun (j : Nat) => (hiB b g) - (offB b g) - j) (0) ⟨Nat.zero_le _, S⟩ ⟨rfl, rfl, rfl, rfl, rfl, rfl, trivial⟩ ?_
              rintro j w21 ⟨hj, S⟩
              refine Run.seq ?_
              refine Run.seq ?_
              refine Run.region ?_
              refine mv1 rfl rfl ?_
              refine mv1 rfl rfl ?_
              refine lenS rfl (win_bs hu10 (mixX_len b _ x _) hoh).2 Tryd.underlying26 rfl rfl rfl ?_
              refine lss1 rfl rfl rfl ?_
              refine Ro.nil ?_
              refine Nrm.code ?_
              refine Run.cond rfl (fun hc35 => ?_) (fun hc35 => ?_)
              ·
                try simp only [Bool.or_eq_true, Bool.and_eq_true, Bool.or_eq_false_iff, Bool.and_eq_false_iff, decide_eq_true_eq, decide_eq_false_iff_not, Bool.not_eq_true', Bool.not_eq_false', Bool.not_eq_true, Bool.not_eq_false] at hc35
                refine Run.skip ?_
                refine Nrm.code ?_
                refine Run.seq ?_
                refine Run.block ?_
                refine Run.seq ?_
                refine Run.draw (by kernel_rfl) (by kernel_rfl) S ?_
                rw [List.length_take, List.length_drop, mixX_len] at hc35
                have hjl : offB b g + j < b.length := by omega
                refine qmv rfl rfl rfl rfl ?_
                refine qmv rfl rfl rfl rfl ?_
                refine qmv rfl rfl rfl rfl ?_
                refine qadd rfl rfl rfl rfl rfl rfl (fun _ => w64 (by omega)) ?_
                refine qixa rfl rfl hu10.2 e26 rfl rfl rfl rfl (fun _ => by rw [List.length_append, mixX_len]; omega) ?_
                refine qldB rfl hu10 (fun _ S => S) T5 rfl rfl rfl (fun _ => by rw [List.length_append, mixX_len]; omega) ?_
                intro q197 hq197 hbq197
                try simp only [Int.toNat_natCast, Nat.mul_one, Int.reduceToNat] at hq197
                refine qmv rfl rfl rfl rfl ?_
                refine qmv rfl rfl rfl rfl ?_
                refine qmv rfl rfl rfl rfl ?_
                refine qadd rfl rfl rfl rfl rfl rfl (fun _ => w64 (by omega)) ?_
                refine qixa rfl rfl hb.2 e26 rfl rfl rfl rfl (fun _ => by first | omega | (simp only [List.length_cons, List.length_nil]; omega)) ?_
                refine qldB rfl hb (fun _ S => S) T5 rfl rfl rfl (fun _ => by omega) ?_
                intro q203 hq203 hbq203
                try simp only [Int.toNat_natCast, Nat.mul_one, Int.reduceToNat] at hq203
                refine qmv rfl rfl rfl rfl ?_
                refine qbxor rfl rfl rfl rfl rfl rfl (fun _ => rfl) ?_
                refine qneq rfl rfl rfl rfl rfl rfl ?_
                refine Qo.nil (fun w22 S => ?_)
                refine Nrm.code ?_
                refine Run.cond rfl (fun hc37 => ?_) (fun hc37 => ?_)
                ·
                  try simp only [Bool.or_eq_true, Bool.and_eq_true, Bool.or_eq_false_iff, Bool.and_eq_false_iff, decide_eq_true_eq, decide_eq_false_iff_not, Bool.not_eq_true', Bool.not_eq_false', Bool.not_eq_true, Bool.not_eq_false] at hc37
                  exfalso; (refine hc37 ?_; have e : ((offB b g : Int) + (j : Int)).toNat = offB b g + j := by {omega}; rw [e] at hq197 hq203; rw [hq197, hq203, getD_left (by rw [mixX_len]; omega), mixX_at b _ x _ _ (by omega), if_pos (by omega)]; rfl)
                ·
                  try simp only [Bool.or_eq_true, Bool.and_eq_true, Bool.or_eq_false_iff, Bool.and_eq_false_iff, decide_eq_true_eq, decide_eq_false_iff_not, Bool.not_eq_true', Bool.not_eq_false', Bool.not_eq_true, Bool.not_eq_false] at hc37
                  refine Run.skip ?_
                  refine Nrm.blk ?_
                  refine Nrm.code ?_
                  refine Run.region ?_
                  refine mv1 rfl rfl ?_
                  refine add1 rfl rfl rfl (w64 (by omega)) ?_
                  refine asg1 rfl rfl ?_
                  refine Ro.nil ?_
                  refine Nrm.loop1 (j + 1) ⟨by omega, S⟩ (by omega) ⟨rfl, rfl, rfl, rfl, rfl, rfl, trivial⟩
              ·
                try simp only [Bool.or_eq_true, Bool.and_eq_true, Bool.or_eq_false_iff, Bool.and_eq_false_iff, decide_eq_true_eq, decide_eq_false_iff_not, Bool.not_eq_true', Bool.not_eq_false', Bool.not_eq_true, Bool.not_eq_false] at hc35
                refine Run.exit ?_
                refine Lv.code ?_
                refine Lv.back ?_
                refine Lv.hit ?_
                refine Nrm.code ?_
                refine Run.seq ?_
                refine Run.region ?_
                refine asg1 rfl rfl ?_
                refine Ro.nil ?_
                refine Nrm.code ?_
                refine Run.ret ?_
                refine Rt.one rfl rfl ?_
                exact ⟨rfl, (SS.tran hN1 S).bl⟩
end Go.Proofs.YtkahmepenjhcpaaDoor.W
/- What the reading of an argument gives: numbers, bytes, options, addresses, datagrams. No statement of the seat is proved here. -/
namespace Go.Proofs.YtkahmepenjhcpaaDoor.W
open Go
set_option linter.unusedVariables false
set_option linter.unusedSimpArgs false
section
variable {H : Type} {enc : TypeId × Value → H} {W : World} {hd : Bool} {n : Nat} {cs : List Value} {x : DataW H × List MemPlace}
theorem wf_i64 {k : Int} (h : (Lit.int .i64 k).wf = true) : inI k := by
  have := h
  simp [Lit.wf, IntKind.min, IntKind.max, IntKind.signed, IntKind.bits] at this
  unfold inI; omega
theorem wf_u8 {k : Int} (h : (Lit.int .u8 k).wf = true) : 0 ≤ k ∧ k < 256 := by
  have := h
  simp [Lit.wf, IntKind.min, IntKind.max, IntKind.signed, IntKind.bits] at this
  omega
theorem rd_int (h : DataW.trod enc Tryd.prog W 0 (fun _ => true) hd n 3 cs = some x) : ∃ k, cs = [i64 k] ∧ inI k := by
  obtain ⟨k, h1, _, h2⟩ := DataW.trod_int Tryd.underlying3 h
  exact ⟨k, h1, wf_i64 h2⟩
theorem rd_u8 (h : DataW.trod enc Tryd.prog W 0 (fun _ => true) hd n 5 cs = some x) : ∃ k, cs = [u8 k] ∧ 0 ≤ k ∧ k < 256 := by
  obtain ⟨k, h1, _, h2⟩ := DataW.trod_int Tryd.underlying5 h
  exact ⟨k, h1, wf_u8 h2⟩
theorem cell_spot {w : World} {a : Addr} {v : Value} (h : w.cell? a = some v) : a.spot = none := by
  cases hs : a.spot with
  | none => rfl
  | some s =>
    obtain ⟨b, o, sp⟩ := a
    simp only at hs
    subst hs
    simp only [World.cell?] at h
    split at h <;> simp at h
theorem cells_get {w : World} {a : Addr} {m : Nat} {cs : List Value} (h : w.cells? 0 a m = some cs) : cs.length = m ∧ ∀ i, i < m → w.cell? (a.add i) = cs[i]? := by
  unfold World.cells? at h
  rw [if_pos (Nat.zero_le _)] at h
  refine ⟨by simpa using mapM_some_length h, fun i hi => ?_⟩
  exact mapM_some_get h i i (by simp [hi])
theorem bulk1 (d : DataW H) : 1 ≤ Rows.uptoBulk d := by
  cases d with
  | lit l => cases l <;> simp [Rows.uptoBulk]
  | _ => simp [Rows.uptoBulk]
theorem bulk_len : ∀ l : List (DataW H), l.length ≤ Rows.uptoBulkAll l
  | [] => by simp [Rows.uptoBulkAll]
  | d :: l => by have := bulk1 d; have := bulk_len l; simp only [Rows.uptoBulkAll, List.length_cons]; omega
theorem bulk_mem {d : DataW H} : ∀ {l : List (DataW H)}, d ∈ l → Rows.uptoBulk d ≤ Rows.uptoBulkAll l
  | [], h => by simp at h
  | x :: l, h => by
    simp only [Rows.uptoBulkAll]
    rcases List.mem_cons.1 h with e | e
    · rw [e]; omega
    · have := bulk_mem e; omega
theorem bulk_slice (a b : List (DataW H)) : Rows.uptoBulkAll a + 1 ≤ Rows.uptoBulk (.slice a b) := by simp only [Rows.uptoBulk]; omega
theorem bulk_agg (a : List (DataW H)) : Rows.uptoBulkAll a ≤ Rows.uptoBulk (.agg a) := by simp only [Rows.uptoBulk]; omega
/-- bytes, read -/
theorem rd_bytes {v : Value} (h : DataW.trod enc Tryd.prog W 0 (fun _ => true) hd n 26 [v] = some x) : ∃ l, BS [] W v l ∧ l.length ≤ Rows.uptoBulk x.1 := by
  rcases Go.Deep.open_slice Tryd.underlying26 h with ⟨h1, _⟩ | ⟨a, len, cap, m, k, D, Pl, h1, _, hlc, hcm, hm, hxe, hel⟩
  · simp only [List.cons.injEq, and_true] at h1
    subst h1
    exact ⟨[], BS.nil _ _, by simp⟩
  · simp only [List.cons.injEq, and_true] at h1
    subst h1
    simp only [if_true] at hm
    subst hm
    have hx : ∀ i, ∃ b, i < m → W.cell? (a.add i) = some (u8 b) ∧ 0 ≤ b ∧ b < 256 := by
      intro i
      by_cases hi : i < m
      · obtain ⟨cs', g1, g2⟩ := hel i hi
        rw [cells5, Nat.mul_one] at g1
        obtain ⟨b, rfl, hb⟩ := rd_u8 g2
        have h0 := (cells_get g1).2 0 (by omega)
        have hz : (a.add i).add 0 = a.add i := by simp [Addr.add]
        rw [hz] at h0
        exact ⟨b, fun _ => ⟨h0, hb⟩⟩
      · exact ⟨0, fun h => absurd h hi⟩
    obtain ⟨f, hf⟩ := Classical.axiomOfChoice hx
    refine ⟨(List.range len).map f, ⟨?_, by simp, some a, m, by simp, by simpa using hlc, (fun e => nomatch e), ?_⟩, by rw [hxe]; have h1 := bulk_slice ((List.range len).map D) ((List.range (m - len)).map fun j => D (len + j)); have h2 := bulk_len ((List.range len).map D); simp only [List.length_map, List.length_range] at h2 ⊢; omega⟩
    · intro b hb
      obtain ⟨i, hi, rfl⟩ := List.mem_map.1 hb
      have := (hf i (by have := List.mem_range.1 hi; omega)).2
      exact this
    · intro i hi
      simp only [List.length_map, List.length_range] at hi
      have h1 := (hf i (by omega)).1
      have hs2 : a.spot = none := by
        have h0 := (hf 0 (by omega)).1
        rw [show a.add 0 = a from by simp [Addr.add]] at h0
        exact cell_spot h0
      refine ⟨a, rfl, hs2, by simp, ?_⟩
      have e : (⟨a.block, a.off + i, none⟩ : Addr) = a.add i := by
        obtain ⟨b, o, sp⟩ := a
        simp only at hs2
        subst hs2; exact (add_new b o i).symm
      rw [e, h1]
      simp
theorem rd_field {t : TypeId} {fs : Array Field} (ht : Tryd.prog.underlying t = some (.struct fs)) (h : DataW.trod enc Tryd.prog W 0 (fun _ => true) hd n t cs = some x) (i : Nat) {ft : TypeId} {off sz : Nat}
    (hf : (fs[i]?).map (fun f => (f.type, f.offset)) = some (ft, off)) (hc : Tryd.prog.cellsOf ft = sz) :
    ∃ y k, DataW.trod enc Tryd.prog W 0 (fun _ => true) hd k ft ((cs.drop off).take sz) = some y ∧ Rows.uptoBulk y.1 ≤ Rows.uptoBulk x.1 := by
  obtain ⟨xs, k, _, hx, _, hl, hg⟩ := DataW.trod_struct ht h
  cases hff : fs[i]? with
  | none => rw [hff] at hf; simp at hf
  | some f =>
    rw [hff] at hf
    simp only [Option.map_some, Option.some.injEq, Prod.mk.injEq] at hf
    obtain ⟨rfl, rfl⟩ := hf
    subst hc
    have hi : i < xs.length := by rw [hl]; exact (Array.getElem?_eq_some_iff.1 hff).1
    have h1 := hg i f hff
    rw [List.getElem?_eq_getElem hi] at h1
    refine ⟨xs[i], k, h1, ?_⟩
    rw [hx]
    have h2 := bulk_agg (xs.map (·.1))
    have h3 := bulk_mem (d := xs[i].1) (l := xs.map (·.1)) (List.mem_map_of_mem (List.getElem_mem hi))
    exact Nat.le_trans h3 h2
theorem rd_len {t : TypeId} {fs : Array Field} (ht : Tryd.prog.underlying t = some (.struct fs)) (h : DataW.trod enc Tryd.prog W 0 (fun _ => true) hd n t cs = some x) : cs.length = Tryd.prog.cellsOf t := by
  obtain ⟨xs, k, _, hx, hl, _⟩ := DataW.trod_struct ht h; exact hl
theorem cells22 : Tryd.prog.cellsOf 22 = 16 := by kernel_rfl
theorem cells24 : Tryd.prog.cellsOf 24 = 17 := by kernel_rfl
theorem cells3 : Tryd.prog.cellsOf 3 = 1 := by kernel_rfl
theorem take1 {l : List Value} {i : Nat} {v : Value} (h : (l.drop i).take 1 = [v]) : l[i]? = some v := by
  have := congrArg (fun l : List Value => l[0]?) h
  simpa [List.getElem?_take, List.getElem?_drop] using this
/-- an address, read -/
theorem rd_ip (h : DataW.trod enc Tryd.prog W 0 (fun _ => true) hd n 24 cs = some x) : ∃ X : IP, cs = encIP X ∧ X.ok := by
  have hl := rd_len Tryd.underlying24 h
  rw [cells24] at hl
  obtain ⟨y0, k0, g0, _⟩ := rd_field Tryd.underlying24 h 0 (ft := 3) (off := 0) rfl cells3
  obtain ⟨y1, k1, g1, _⟩ := rd_field Tryd.underlying24 h 1 (ft := 22) (off := 1) rfl cells22
  obtain ⟨v, e0, hv⟩ := rd_int g0
  obtain ⟨xs, m, _, _, hl1, hl2, hg⟩ := DataW.trod_array Tryd.underlying22 g1
  have hx : ∀ i, ∃ b, i < 16 → cs[1 + i]? = some (u8 b) ∧ 0 ≤ b ∧ b < 256 := by
    intro i
    by_cases hi : i < 16
    · have g := hg i hi
      rw [List.getElem?_eq_getElem (by omega), cells5, Nat.mul_one] at g
      obtain ⟨b, e, hb⟩ := rd_u8 g
      refine ⟨b, fun _ => ⟨?_, hb⟩⟩
      have e2 := take1 e
      rw [List.getElem?_take_of_lt hi, List.getElem?_drop] at e2
      exact e2
    · exact ⟨0, fun h => absurd h hi⟩
  obtain ⟨f, hf⟩ := Classical.axiomOfChoice hx
  refine ⟨⟨v, f⟩, ?_, fun i hi => (hf i hi).2, hv⟩
  apply List.ext_getElem?
  intro i
  rcases Nat.lt_or_ge i 17 with hi | hi
  · cases i with
    | zero => rw [take1 e0]; rfl
    | succ i =>
      have h1 := encIP_at ⟨v, f⟩ i (by omega)
      rw [show i + 1 = 1 + i from by omega, h1]
      exact (hf i (by omega)).1
  · rw [List.getElem?_eq_none (by omega), List.getElem?_eq_none (by simp [encIP]; omega)]
theorem BSs.mk {N : List Nat} {w : World} (F : Nat → Value) (G : Nat → List Int) : ∀ (l : List Nat), (∀ i ∈ l, BS N w (F i) (G i)) → BSs N w (l.map F) (l.map G)
  | [], _ => trivial
  | i :: l, h => ⟨h i (by simp), BSs.mk F G l (fun j hj => h j (by simp [hj]))⟩
end
end Go.Proofs.YtkahmepenjhcpaaDoor.W
/- What the reading of a datagram gives. No statement of the seat is proved here. -/
namespace Go.Proofs.YtkahmepenjhcpaaDoor.W
open Go
set_option linter.unusedVariables false
set_option linter.unusedSimpArgs false
section
variable {H : Type} {enc : TypeId × Value → H} {W : World} {hd : Bool} {n : Nat} {cs : List Value} {x : DataW H × List MemPlace}
end
end Go.Proofs.YtkahmepenjhcpaaDoor.W
/- What the reading of lists of parts, of UDP datagrams and of segments gives. No statement of the seat is proved here. -/
namespace Go.Proofs.YtkahmepenjhcpaaDoor.W
open Go
set_option linter.unusedVariables false
set_option linter.unusedSimpArgs false
theorem cells_slice {P : Program} {w : World} {r : Reach} {base : Nat} {t e : TypeId} {v : Value} (ht : P.underlying t = some (.slice e)) (h : Value.okWide P w r base t v) : v.cells.toList = [v] := by
  obtain ⟨a, l, c, h1⟩ := Go.WideShapes.okWide_slice ht h
  rw [h1]; rfl
theorem cells_int {P : Program} {w : World} {r : Reach} {base : Nat} {t : TypeId} {k : IntKind} {v : Value} (ht : P.underlying t = some (.int k)) (h : Value.okWide P w r base t v) : v.cells.toList = [v] := by
  obtain ⟨n, h1⟩ := Go.WideShapes.okWide_int ht h
  rw [h1]; rfl
theorem agg_of {v : Value} {l : List Value} (h : v.cells.toList = l) (hl : 2 ≤ l.length) : v = .agg l.toArray := by
  cases v <;> first
    | (exfalso; subst h; simp [Value.cells] at hl; done)
    | (simp only [Value.cells] at h; rw [← h])
section
variable {H : Type} {enc : TypeId × Value → H} {W : World} {hd : Bool} {n : Nat} {cs : List Value} {x : DataW H × List MemPlace}
def Udp.ok (u : Udp) : Prop := inI u.sport ∧ inI u.dport
def Tcp.ok (t : Tcp) : Prop := inI t.sport ∧ inI t.dport ∧ inI t.seq ∧ inI t.ack ∧ inI t.flags ∧ inI t.win ∧ inI t.urg ∧ ∀ o ∈ t.opts, inI o.kind
end
end Go.Proofs.YtkahmepenjhcpaaDoor.W
/- Tables of layer 9, as a row lays them. No statement of the seat is proved here. -/
namespace Go.Proofs.YtkahmepenjhcpaaDoor.W
open Go
set_option linter.unusedVariables false
set_option linter.unusedSimpArgs false
theorem laid_tl {P : Program} {x : String × DataW Unit} {r : List (String × DataW Unit)} {w : World} (h : laidMet P (x :: r) w) : laidMet P r w := by
  obtain ⟨ps, hv, hnd, hrows⟩ := h
  obtain ⟨n, d⟩ := x
  obtain ⟨g, t, cs, fuel, p, q, _, _, _, _, hq, rfl⟩ := hv
  exact ⟨q, hq, List.Nodup.sublist (List.sublist_append_right _ _) hnd, fun b off hm => hrows b off (List.mem_append_right _ hm)⟩
theorem gv_tab {W : World} {name : String} {k : IntKind} {zs : List Int} {g : Nat} {T : TypeId} (h : Lib.TabIs Tryd.prog W name k zs) (hg : Tryd.prog.globalNamed name = some g) : GV [] W g T (zs.map fun z => Value.int k z) := by
  intro i hi
  have hi' : i < zs.length := by simpa using hi
  refine ⟨⟨g, 0, none⟩, rfl, rfl, by simp, ?_⟩
  have := h.cell hg i hi'
  rw [Nat.zero_add, this, List.getElem_map, List.getD_eq_getElem?_getD, List.getElem?_eq_getElem hi']
  rfl
theorem gName1 : Tryd.prog.globalNamed "weir/l4.udpWidths" = some 1 := by kernel_rfl
theorem gName2 : Tryd.prog.globalNamed "weir/l4.tcpWidths" = some 2 := by kernel_rfl
theorem gName3 : Tryd.prog.globalNamed "weir/l4.lengths" = some 3 := by kernel_rfl
theorem gType1 : (Tryd.prog.globals[1]?).map (·.type) = some 163 := by kernel_rfl
theorem gType2 : (Tryd.prog.globals[2]?).map (·.type) = some 166 := by kernel_rfl
theorem gType3 : (Tryd.prog.globals[3]?).map (·.type) = some 183 := by kernel_rfl
theorem cells163 : Tryd.prog.cellsOf 163 = 4 := by kernel_rfl
theorem cells166 : Tryd.prog.cellsOf 166 = 10 := by kernel_rfl
theorem cells183 : Tryd.prog.cellsOf 183 = 9 := by kernel_rfl
theorem cells182 : Tryd.prog.cellsOf 182 = 1 := by kernel_rfl
def laid9 : List (String × DataW Unit) := [("weir/l4.udpWidths", Lib.tabData .i64 W16), ("weir/l4.tcpWidths", Lib.tabData .i64 W10), ("weir/l4.lengths", Lib.tabData .u64 lenT)]
theorem gv1_of {W : World} (h : laidMet Tryd.prog laid9 W) : GV [] W 1 163 (W16.map i64) :=
  gv_tab (Lib.tabIs_of_head gName1 gType1 Tryd.underlying163 Tryd.underlying3 cells3 cells163 h) gName1
theorem gv2_of {W : World} (h : laidMet Tryd.prog laid9 W) : GV [] W 2 166 (W10.map i64) :=
  gv_tab (Lib.tabIs_of_head gName2 gType2 Tryd.underlying166 Tryd.underlying3 cells3 cells166 (laid_tl h)) gName2
theorem gv3_of {W : World} (h : laidMet Tryd.prog laid9 W) : GV [] W 3 183 (lenT.map u64) :=
  gv_tab (Lib.tabIs_of_head (rest := []) gName3 gType3 Tryd.underlying183 Tryd.underlying182 cells182 cells183 (laid_tl (laid_tl h))) gName3
def setC (c : Array Value) : Obj → Obj
  | .cells _ t frozen => .cells c t frozen
  | o => o
noncomputable def laidWorld9 (os : Os) : World :=
  { World.holding Tryd.prog os ⟨#[], #[], []⟩ with
    heap := (((World.holding Tryd.prog os ⟨#[], #[], []⟩).heap.modify 1 (setC #[.int .i64 16, .int .i64 16, .int .i64 16, .int .i64 16])).modify 2 (setC #[.int .i64 16, .int .i64 16, .int .i64 32, .int .i64 32, .int .i64 4, .int .i64 4, .int .i64 8, .int .i64 16, .int .i64 16, .int .i64 16])).modify 3 (setC #[.int .u64 0, .int .u64 0, .int .u64 16, .int .u64 8, .int .u64 4, .int .u64 17247241216, .int .u64 0, .int .u64 0, .int .u64 1024]) }
end Go.Proofs.YtkahmepenjhcpaaDoor.W
/- A reading of the arguments stands behind a call that leaves what was there. No statement of the seat is proved here. -/
namespace Go.Proofs.YtkahmepenjhcpaaDoor.W
open Go
set_option linter.unusedVariables false
theorem laidOut : laidOutB Tryd.prog = true := by kernel_rfl
theorem mapsR : mapsRowed Tryd.prog = true := by kernel_rfl
def sizedB (P : Program) : Bool := (List.range P.types.size).all fun t => match P.underlying t with
  | some (.slice e) => decide (0 < P.cellsOf e)
  | _ => true
theorem sizedAll : sizedB Tryd.prog = true := by kernel_rfl
theorem sized {t e : TypeId} (ht : t < Tryd.prog.types.size) (hu : Tryd.prog.underlying t = some (.slice e)) : 0 < Tryd.prog.cellsOf e := by
  have h := sizedAll
  unfold sizedB at h
  rw [List.all_eq_true] at h
  have := h t (List.mem_range.2 ht)
  rw [hu] at this
  simpa using this
theorem stays {H : Type} {enc : TypeId × Value → H} {W W' : World} {t : TypeId} {v : Value} {d : DataW H} {p : List MemPlace} (B : Bl W W') (ht : t < Tryd.prog.types.size)
    (h : DataW.Trod enc Tryd.prog W 0 (fun _ => true) true t v d p) (sp : Nat → Bool) (hs : ∀ q ∈ p, sp q.block = true) : DataW.Trod enc Tryd.prog W' 0 sp true t v d p := by
  obtain ⟨n, h⟩ := h
  exact ⟨n, DataW.trod_stays (T := (· < Tryd.prog.types.size)) (kids_rows laidOut mapsR) (fun ht hu => sized ht hu) (fun h => by cases h) ht h
    (fun q hq => Go.RowKit.Below.same B (DataW.trod_lt n t _ _ h q hq)) hs⟩
/-- what a call that only reads leaves: the row's own answer -/
theorem post_kept {H : Type} {enc : TypeId × Value → H} {P : Program} {s : ChangeSpec} {f : Func} {apart fresh handsOn again : Bool} {W W' : World} {args : Array Value} {v : Value} {ds gs : List (DataW H)} {before pa : List MemPlace}
    (hW : DataW.Whole enc P f.params.toList s.vars apart W args.toList ds gs before)
    (hres : ∀ (b : Nat) (sp : Nat → Bool) (hd : Bool), DataW.TrodAll enc P W' b sp hd f.resultTypes.toList (v.resultList f.resultTypes.size) (s.fn H (ds ++ gs)).results [])
    (hargs : ∀ sp : Nat → Bool, (∀ p ∈ before, sp p.block = true) → DataW.TrodAll enc P W' 0 sp true f.params.toList args.toList (s.fn H (ds ++ gs)).args pa)
    (hvars : ∀ sp : Nat → Bool, DataW.TrodVars enc P W' sp s.vars (s.fn H (ds ++ gs)).vars [])
    (hps : before = pa) (B : Bl W W')
    (hok : ∀ (j : Nat) (t : TypeId) (r : Value), f.resultTypes[j]? = some t → (v.resultList f.resultTypes.size)[j]? = some r → Value.okWide P W' .any 0 t r) :
    s.post enc P f apart fresh handsOn again W args v W' := by
  have hlt := fun p hp => hW.lt p hp
  have hold : ∀ p ∈ before, (fun b => decide (b < W.heap.size)) p.block = true := fun p hp => by simpa using hlt p hp
  subst hps
  refine ⟨ds, gs, before, [], before, [], hW, hres _ _ _, hargs _ hold, hvars _, Go.RowKit.Below.frame B _, fun _ => ?_⟩
  obtain ⟨_, _, _, _, _, hz, hn⟩ := hW
  refine ⟨hok, _, _, ([] ++ before) ++ [], ⟨[] ++ before, [], Go.ChangeShapes.trodAll_append (hargs _ (fun _ _ => rfl)) (hres _ _ _), hvars _, rfl, ?_, ?_⟩, ?_⟩
  · intro b off hp
    have hp' : MemPlace.cell b off ∈ before := by simpa using hp
    rw [Go.RowKit.Below.frozen B (hlt _ hp')]
    exact hz b off hp'
  · intro ha
    have := hn ha
    simpa using this
  · intro p hp _
    simpa using hp
end Go.Proofs.YtkahmepenjhcpaaDoor.W
