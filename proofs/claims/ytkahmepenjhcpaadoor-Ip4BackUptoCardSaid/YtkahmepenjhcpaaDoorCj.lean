/- Contracts: options read. No statement of the seat is proved here. -/
import Derived.Test.YtkahmepenjhcpaaDoorCi
import Derived.Test.YtkahmepenjhcpaaDoorFs
namespace Go.Proofs.YtkahmepenjhcpaaDoor.W
open Go
set_option linter.unusedSimpArgs false
set_option linter.unusedVariables false

set_option maxHeartbeats 1000000 in
theorem c44 (v : Value) (b : List Int) (w : World) (hb : BS [] w v b) :
    CallsV Tryd.prog 44 #[v] w (fun r w' => ∃ u vs, r = .tuple #[u, .int .i64 (optE b)] ∧ FO w w' u (optL b) vs ∧ ∀ N w1, BS N w1 v b → OSs N w1 vs (optL b)) := by
  refine enter Tryd.func44 rfl Tryd.ntmps44 (l := [(0, [], _)]) rfl rfl ?_
  have S := St.refl [] w
  refine Run.seq ?_
  refine Run.region ?_
  refine asg1 rfl rfl ?_
  refine asg1 rfl rfl ?_
  refine Ro.nil ?_
  refine Nrm.code ?_
  refine Run.seq ?_
  refine Run.seq ?_
  refine Run.region ?_
  refine mv1 rfl rfl ?_
  refine lenS rfl hb.2 Tryd.underlying26 rfl rfl rfl ?_
  refine gtr1 rfl rfl rfl ?_
  refine Ro.nil ?_
  refine Nrm.code ?_
  refine Run.cond rfl (fun hc1 => ?_) (fun hc1 => ?_)
  ·
    try simp only [Bool.or_eq_true, Bool.and_eq_true, Bool.or_eq_false_iff, Bool.and_eq_false_iff, decide_eq_true_eq, decide_eq_false_iff_not, Bool.not_eq_true', Bool.not_eq_false', Bool.not_eq_true, Bool.not_eq_false] at hc1
    refine Run.seq ?_
    refine Run.region ?_
    refine asg1 rfl rfl ?_
    refine asg1 rfl rfl ?_
    refine Ro.nil ?_
    refine Nrm.code ?_
    refine Run.ret ?_
    refine Rt.two rfl rfl rfl ?_
    have hbad := opt_long (b := b) (by omega)
    have S := S.nilO
    exact ⟨.slice none 0 0, [], by rw [hbad.1], by rw [hbad.2]; exact S.toFO (i := 0) rfl, fun _ _ _ => by rw [hbad.2]; trivial⟩
  ·
    try simp only [Bool.or_eq_true, Bool.and_eq_true, Bool.or_eq_false_iff, Bool.and_eq_false_iff, decide_eq_true_eq, decide_eq_false_iff_not, Bool.not_eq_true', Bool.not_eq_false', Bool.not_eq_true, Bool.not_eq_false] at hc1
    refine Run.skip ?_
    refine Nrm.code ?_
    refine Run.seq ?_
    refine Run.region ?_
    refine asg1 rfl rfl ?_
    have S := S.nilO
    refine Ro.nil ?_
    refine Nrm.code ?_
    refine Run.seq ?_
    refine Run.seq ?_
    refine Run.region ?_
    refine asg1 rfl rfl ?_
    refine Ro.nil ?_
    refine Nrm.code ?_
    refine Run.block ?_
    refine Run.loop4 (fun (i : Nat) (u : Value) (acc : List Opt) (vs : List Value) w_ => i ≤ b.length ∧ vs.length = acc.length ∧ acc.length ≤ i ∧ optAcc b acc i ∧ (∀ N w1, BS N w1 v b → OSs N w1 vs acc) ∧ St [] w [oO u acc vs] w_) (fun (i : Nat) (u : Value) (acc : List Opt) (vs : List Value) => [(0, [], v), (4, [], u), (5, [], .int .i64 i)]) (fun (i : Nat) (u : Value) (acc : List Opt) (vs : List Value) => b.length - i) (0) (_) ([]) ([]) ⟨Nat.zero_le _, rfl, Nat.le_refl _, optAcc.zero b, fun _ _ _ => trivial, S⟩ ⟨rfl, rfl, rfl, trivial⟩ ?_
    rintro i u acc vs w1 ⟨hi, hvl, hal, hacc, hvs, S⟩
    refine Run.seq ?_
    refine Run.seq ?_
    refine Run.region ?_
    refine mv1 rfl rfl ?_
    refine mv1 rfl rfl ?_
    refine lenS rfl hb.2 Tryd.underlying26 rfl rfl rfl ?_
    refine lss1 rfl rfl rfl ?_
    refine Ro.nil ?_
    refine Nrm.code ?_
    refine Run.cond rfl (fun hc5 => ?_) (fun hc5 => ?_)
    ·
      try simp only [Bool.or_eq_true, Bool.and_eq_true, Bool.or_eq_false_iff, Bool.and_eq_false_iff, decide_eq_true_eq, decide_eq_false_iff_not, Bool.not_eq_true', Bool.not_eq_false', Bool.not_eq_true, Bool.not_eq_false] at hc5
      refine Run.skip ?_
      refine Nrm.code ?_
      refine Run.block ?_
      refine Run.seq ?_
      refine Run.seq ?_
      refine Run.region ?_
      refine mv1 rfl rfl ?_
      refine mv1 rfl rfl ?_
      refine ixa rfl rfl hb.2 e26 rfl rfl rfl rfl (fun _ => by omega) ?_
      refine ldB rfl hb S T5 rfl rfl rfl (fun _ => by omega) ?_
      intro q17 hq17 hbq17
      try simp only [Int.toNat_natCast, Nat.mul_one] at hq17
      refine Ro.nil ?_
      refine Nrm.code ?_
      refine Run.block ?_
      refine Run.seq ?_
      refine Run.region ?_
      refine eql1 rfl rfl rfl ?_
      refine asg1 rfl rfl ?_
      refine Ro.nil ?_
      refine Nrm.code ?_
      refine Run.cond rfl (fun hc7 => ?_) (fun hc7 => ?_)
      ·
        try simp only [Bool.or_eq_true, Bool.and_eq_true, Bool.or_eq_false_iff, Bool.and_eq_false_iff, decide_eq_true_eq, decide_eq_false_iff_not, Bool.not_eq_true', Bool.not_eq_false', Bool.not_eq_true, Bool.not_eq_false] at hc7
        refine Run.seq ?_
        refine Run.region ?_
        refine mv1 rfl rfl ?_
        refine asg1 rfl rfl ?_
        refine asg1 rfl rfl ?_
        refine Ro.nil ?_
        refine Nrm.code ?_
        refine Run.ret ?_
        refine Rt.two rfl rfl rfl ?_
        have hg := hacc.good (by omega) (optsG_zero (by omega) (by omega))
        exact ⟨u, vs, by rw [hg.1], by rw [hg.2]; exact S.toFO (i := 0) rfl, by rw [hg.2]; exact hvs⟩
      ·
        try simp only [Bool.or_eq_true, Bool.and_eq_true, Bool.or_eq_false_iff, Bool.and_eq_false_iff, decide_eq_true_eq, decide_eq_false_iff_not, Bool.not_eq_true', Bool.not_eq_false', Bool.not_eq_true, Bool.not_eq_false] at hc7
        refine Run.seq ?_
        refine Run.region ?_
        refine eql1 rfl rfl rfl ?_
        refine asg1 rfl rfl ?_
        refine Ro.nil ?_
        refine Nrm.code ?_
        refine Run.cond rfl (fun hc9 => ?_) (fun hc9 => ?_)
        ·
          try simp only [Bool.or_eq_true, Bool.and_eq_true, Bool.or_eq_false_iff, Bool.and_eq_false_iff, decide_eq_true_eq, decide_eq_false_iff_not, Bool.not_eq_true', Bool.not_eq_false', Bool.not_eq_true, Bool.not_eq_false] at hc9
          refine Run.seq ?_
          refine Run.region ?_
          refine mv1 rfl rfl ?_
          refine add1 rfl rfl rfl (w64 (by omega)) ?_
          refine asg1 rfl rfl ?_
          refine Ro.nil ?_
          refine Nrm.code ?_
          refine Run.exit ?_
          refine Lv.miss rfl ?_
          refine Lv.code ?_
          refine Lv.hit ?_
          refine Nrm.loop4 (i + 1) (_) (_) (_) ⟨by omega, hvl, by omega, hacc.skip (optsG_one (by omega) (by omega)), hvs, S⟩ (by omega) ⟨rfl, rfl, rfl, trivial⟩
        ·
          try simp only [Bool.or_eq_true, Bool.and_eq_true, Bool.or_eq_false_iff, Bool.and_eq_false_iff, decide_eq_true_eq, decide_eq_false_iff_not, Bool.not_eq_true', Bool.not_eq_false', Bool.not_eq_true, Bool.not_eq_false] at hc9
          refine Run.skip ?_
          refine Nrm.blk ?_
          refine Nrm.code ?_
          refine Run.seq ?_
          refine Run.seq ?_
          refine Run.region ?_
          refine mv1 rfl rfl ?_
          refine add1 rfl rfl rfl (w64 (by omega)) ?_
          refine mv1 rfl rfl ?_
          refine lenS rfl hb.2 Tryd.underlying26 rfl rfl rfl ?_
          refine eql1 rfl rfl rfl ?_
          refine Ro.nil ?_
          refine Nrm.code ?_
          refine Run.cond rfl (fun hc11 => ?_) (fun hc11 => ?_)
          ·
            try simp only [Bool.or_eq_true, Bool.and_eq_true, Bool.or_eq_false_iff, Bool.and_eq_false_iff, decide_eq_true_eq, decide_eq_false_iff_not, Bool.not_eq_true', Bool.not_eq_false', Bool.not_eq_true, Bool.not_eq_false] at hc11
            refine Run.seq ?_
            refine Run.region ?_
            refine asg1 rfl rfl ?_
            refine asg1 rfl rfl ?_
            refine Ro.nil ?_
            refine Nrm.code ?_
            refine Run.ret ?_
            refine Rt.two rfl rfl rfl ?_
            have hbad := hacc.bad (by omega) (optsG_end (by omega) (by omega) (by omega))
            have S := S.nilO
            exact ⟨.slice none 0 0, [], by rw [hbad.1], by rw [hbad.2]; exact S.toFO (i := 0) rfl, fun _ _ _ => by rw [hbad.2]; trivial⟩
          ·
            try simp only [Bool.or_eq_true, Bool.and_eq_true, Bool.or_eq_false_iff, Bool.and_eq_false_iff, decide_eq_true_eq, decide_eq_false_iff_not, Bool.not_eq_true', Bool.not_eq_false', Bool.not_eq_true, Bool.not_eq_false] at hc11
            refine Run.skip ?_
            refine Nrm.code ?_
            refine Run.seq ?_
            refine Run.region ?_
            refine mv1 rfl rfl ?_
            refine mv1 rfl rfl ?_
            refine add1 rfl rfl rfl (w64 (by omega)) ?_
            refine ixa rfl rfl hb.2 e26 rfl rfl rfl rfl (fun _ => by omega) ?_
            refine ldB rfl hb S T5 rfl rfl rfl (fun _ => by omega) ?_
            intro q34 hq34 hbq34
            try simp only [Int.toNat_natCast, Nat.mul_one] at hq34
            obtain ⟨m, hm⟩ : ∃ m : Nat, q34 = m := ⟨q34.toNat, by omega⟩
            subst hm
            replace hq34 : (m : Int) = b.getD (i + 1) 0 := hq34
            refine cvi1 rfl rfl Tryd.underlying5 Tryd.underlying3 (w64 (by omega)) ?_
            refine asg1 rfl rfl ?_
            refine Ro.nil ?_
            refine Nrm.code ?_
            refine Run.seq ?_
            refine Run.seq ?_
            refine Run.region ?_
            refine mv1 rfl rfl ?_
            refine lss1 rfl rfl rfl ?_
            refine mv1 rfl rfl ?_
            refine mv rfl rfl rfl rfl ?_
            refine mv rfl rfl rfl rfl ?_
            refine add rfl rfl rfl rfl rfl rfl (fun hG => by first | exact w64 (by omega) | (simp [allT] at hG; exact w64 (by omega))) ?_
            refine mv rfl rfl rfl rfl ?_
            refine lenS rfl hb.2 Tryd.underlying26 rfl rfl rfl ?_
            refine gtr rfl rfl rfl rfl rfl rfl ?_
            refine pkO rfl rfl rfl rfl rfl rfl ?_
            refine Ro.nil ?_
            refine Nrm.code ?_
            refine Run.cond rfl (fun hc14 => ?_) (fun hc14 => ?_)
            ·
              try simp only [Bool.or_eq_true, Bool.and_eq_true, Bool.or_eq_false_iff, Bool.and_eq_false_iff, decide_eq_true_eq, decide_eq_false_iff_not, Bool.not_eq_true', Bool.not_eq_false', Bool.not_eq_true, Bool.not_eq_false] at hc14
              refine Run.seq ?_
              refine Run.region ?_
              refine asg1 rfl rfl ?_
              refine asg1 rfl rfl ?_
              refine Ro.nil ?_
              refine Nrm.code ?_
              refine Run.ret ?_
              refine Rt.two rfl rfl rfl ?_
              have hbad := hacc.bad (by omega) (optsG_bad (by omega) (by omega) (by omega) (by omega))
              have S := S.nilO
              exact ⟨.slice none 0 0, [], by rw [hbad.1], by rw [hbad.2]; exact S.toFO (i := 0) rfl, fun _ _ _ => by rw [hbad.2]; trivial⟩
            ·
              try simp only [Bool.or_eq_true, Bool.and_eq_true, Bool.or_eq_false_iff, Bool.and_eq_false_iff, decide_eq_true_eq, decide_eq_false_iff_not, Bool.not_eq_true', Bool.not_eq_false', Bool.not_eq_true, Bool.not_eq_false] at hc14
              refine Run.skip ?_
              refine Nrm.code ?_
              refine Run.seq ?_
              refine Run.held (by kernel_rfl) S [false] rfl rfl rfl ?_
              intro w2 BD S SC
              refine Ho.take (i := 0) SC Pp.body rfl (by kernel_rfl) (by kernel_rfl) (by kernel_rfl) rfl rfl ?_
              refine qmv rfl rfl rfl rfl ?_
              refine Ho.back ?_
              refine Ho.take (i := 1) SC Pp.body rfl (by kernel_rfl) (by kernel_rfl) (by kernel_rfl) rfl rfl ?_
              refine qmv rfl rfl rfl rfl ?_
              refine Ho.back ?_
              refine Ho.take (i := 2) SC Pp.body rfl (by kernel_rfl) (by kernel_rfl) (by kernel_rfl) rfl rfl ?_
              refine qmv rfl rfl rfl rfl ?_
              refine Ho.back ?_
              refine Ho.take (i := 3) SC Pp.body rfl (by kernel_rfl) (by kernel_rfl) (by kernel_rfl) rfl rfl ?_
              refine qixa rfl rfl hb.2 e26 rfl rfl rfl rfl (fun hG => by (try simp [allT] at hG); omega) ?_
              refine Ho.back ?_
              refine Ho.take (i := 4) SC Pp.body rfl (by kernel_rfl) (by kernel_rfl) (by kernel_rfl) rfl rfl ?_
              refine qldB rfl hb (fun _ S => S) T5 rfl rfl rfl (fun _ => by omega) ?_
              intro q50 hq50 hbq50
              try simp only [Int.toNat_natCast, Nat.mul_one] at hq50
              refine Ho.back ?_
              refine Ho.take (i := 5) SC Pp.body rfl (by kernel_rfl) (by kernel_rfl) (by kernel_rfl) rfl rfl ?_
              refine qcvi rfl rfl rfl rfl Tryd.underlying5 Tryd.underlying3 (fun _ => w64 (by omega)) ?_
              refine Ho.back ?_
              refine Ho.take (i := 6) SC Pp.body rfl (by kernel_rfl) (by kernel_rfl) (by kernel_rfl) rfl rfl ?_
              refine qmv rfl rfl rfl rfl ?_
              refine Ho.back ?_
              refine Ho.take (i := 7) SC Pp.body rfl (by kernel_rfl) (by kernel_rfl) (by kernel_rfl) rfl rfl ?_
              refine qmv rfl rfl rfl rfl ?_
              refine Ho.back ?_
              refine Ho.take (i := 8) SC Pp.body rfl (by kernel_rfl) (by kernel_rfl) (by kernel_rfl) rfl rfl ?_
              refine qadd rfl rfl rfl rfl rfl rfl (fun _ => w64 (by omega)) ?_
              refine Ho.back ?_
              refine Ho.take (i := 9) SC Pp.body rfl (by kernel_rfl) (by kernel_rfl) (by kernel_rfl) rfl rfl ?_
              refine qmv rfl rfl rfl rfl ?_
              refine Ho.back ?_
              refine Ho.take (i := 10) SC Pp.body rfl (by kernel_rfl) (by kernel_rfl) (by kernel_rfl) rfl rfl ?_
              refine qmv rfl rfl rfl rfl ?_
              refine Ho.back ?_
              refine Ho.take (i := 11) SC Pp.body rfl (by kernel_rfl) (by kernel_rfl) (by kernel_rfl) rfl rfl ?_
              refine qadd rfl rfl rfl rfl rfl rfl (fun _ => w64 (by omega)) ?_
              refine Ho.back ?_
              refine Ho.take (i := 12) SC Pp.body rfl (by kernel_rfl) (by kernel_rfl) (by kernel_rfl) rfl rfl ?_
              refine qmv rfl rfl rfl rfl ?_
              refine Ho.back ?_
              refine Ho.take (i := 13) SC Pp.body rfl (by kernel_rfl) (by kernel_rfl) (by kernel_rfl) rfl rfl ?_
              refine qmv rfl rfl rfl rfl ?_
              refine Ho.back ?_
              refine Ho.take (i := 14) SC Pp.body rfl (by kernel_rfl) (by kernel_rfl) (by kernel_rfl) rfl rfl ?_
              refine qadd rfl rfl rfl rfl rfl rfl (fun _ => w64 (by omega)) ?_
              refine Ho.back ?_
              refine Ho.take (i := 15) SC Pp.body rfl (by kernel_rfl) (by kernel_rfl) (by kernel_rfl) rfl rfl ?_
              have hv61 := hb.cut (lo := i + 2) (hi := i + m) (mx := i + m) (by have hcap := hb.cap; omega)
              refine qslC (lo := i + 2) (hi := i + m) (mx := i + m) rfl hb e26 rfl rfl rfl (i1 := some (i + 2)) (i2 := some (i + m)) (i3 := some (i + m)) ⟨_, _, _, rfl, rfl⟩ ⟨_, _, _, rfl, rfl⟩ ⟨_, _, _, rfl, rfl⟩ rfl rfl rfl (fun h => by first | rfl | cases h) (fun hG => by (try simp [allT] at hG); have hcap := hb.cap; omega) ?_
              refine Ho.back ?_
              refine Ho.take (i := 16) SC Pp.body rfl (by kernel_rfl) (by kernel_rfl) (by kernel_rfl) rfl rfl ?_
              refine qbld B93 (qs := [(_, _), (_, _)]) ⟨⟨_, _, _, rfl, rfl, rfl, rfl, by simp [Value.cells]⟩, ⟨_, _, _, rfl, rfl, cells1 hv61.one, rfl, List.cons_ne_nil _ _⟩, trivial⟩ rfl rfl rfl ?_
              refine Ho.back ?_
              refine Ho.one (i := 17) (by kernel_rfl) rfl rfl ?_
              refine bsl e25 (qs := [(_, _)]) ⟨⟨_, _, _, rfl, rfl, rfl, rfl, by simp [Value.cells]⟩, trivial⟩ rfl rfl rfl rfl S ?_
              intro u63 w3 S B_
              have SC := S.pick [false, false] rfl
              refine Ho.on SC ?_
              refine Ho.one (i := 18) (by kernel_rfl) rfl rfl ?_
              refine apO (i := 1) ((b.drop (i + 2)).take (i + m - (i + 2))) rfl rfl e25 (S.slI (i := 0) rfl) hv61.one hvl S rfl rfl (fun v' => rfl) (by omega) ?_
              intro u2 w4 S B_
              have SC := S.pick [false, false] rfl
              refine Ho.on SC ?_
              refine Ho.take (i := 19) SC Pp.body rfl (by kernel_rfl) (by kernel_rfl) (by kernel_rfl) rfl rfl ?_
              refine qasg rfl rfl rfl rfl ?_
              refine Ho.back ?_
              refine Ho.done (by kernel_rfl) ?_
              refine Nrm.code ?_
              refine Run.region ?_
              refine mv1 rfl rfl ?_
              refine mv1 rfl rfl ?_
              refine add1 rfl rfl rfl (w64 (by omega)) ?_
              refine asg1 rfl rfl ?_
              refine Ro.nil ?_
              refine Nrm.blk ?_
              refine Nrm.loop4 (i + m) (_) (_) (_) ⟨by omega, by simp [hvl], acc_len hal _ (by omega), hacc.step (by rw [hq50]; exact optsG_go (by omega) (by omega) hq34.symm (by omega) (by omega)),
                      fun N w1 h1 => (hvs N w1 h1).snoc (h1.cut (by have := h1.cap; omega)), S.drop0⟩ (by omega) ⟨rfl, rfl, rfl, trivial⟩
    ·
      try simp only [Bool.or_eq_true, Bool.and_eq_true, Bool.or_eq_false_iff, Bool.and_eq_false_iff, decide_eq_true_eq, decide_eq_false_iff_not, Bool.not_eq_true', Bool.not_eq_false', Bool.not_eq_true, Bool.not_eq_false] at hc5
      refine Run.exit ?_
      refine Lv.code ?_
      refine Lv.back ?_
      refine Lv.hit ?_
      refine Nrm.code ?_
      refine Run.seq ?_
      refine Run.region ?_
      refine mv1 rfl rfl ?_
      refine asg1 rfl rfl ?_
      refine asg1 rfl rfl ?_
      refine Ro.nil ?_
      refine Nrm.code ?_
      refine Run.ret ?_
      refine Rt.two rfl rfl rfl ?_
      have hg := hacc.good (by omega) (optsG_nil (by omega))
      exact ⟨u, vs, by rw [hg.1], by rw [hg.2]; exact S.toFO (i := 0) rfl, by rw [hg.2]; exact hvs⟩

end Go.Proofs.YtkahmepenjhcpaaDoor.W
