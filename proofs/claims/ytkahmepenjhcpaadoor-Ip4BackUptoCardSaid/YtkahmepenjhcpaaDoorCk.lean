/- Contracts: the reference reads options. No statement of the seat is proved here. -/
import Derived.Test.YtkahmepenjhcpaaDoorCj
import Derived.Test.YtkahmepenjhcpaaDoorFt
namespace Go.Proofs.YtkahmepenjhcpaaDoor.W
open Go
set_option linter.unusedSimpArgs false
set_option linter.unusedVariables false


theorem mid_drop {A B N : List Nat} : ∀ i ∈ A ++ N, i ∈ A ++ (B ++ N) := by
  intro i hi
  rcases List.mem_append.1 hi with h | h
  · exact List.mem_append_left _ h
  · exact List.mem_append_right _ (List.mem_append_right _ h)

set_option maxHeartbeats 1000000 in
theorem c45 (v : Value) (b : List Int) (w : World) (hb : BS [] w v b) :
    CallsV Tryd.prog 45 #[v] w (fun r w' => ∃ u, r = .tuple #[u, .int .i64 (optE b)] ∧ FOS w w' u (optL b)) := by
  refine enter Tryd.func45 rfl Tryd.ntmps45 (l := [(0, [], _)]) rfl rfl ?_
  have S := St.refl [] w
  refine Run.seq ?_
  refine Run.region ?_
  refine asg1 rfl rfl ?_
  refine asg1 rfl rfl ?_
  refine Ro.nil ?_
  refine Nrm.code ?_
  refine Run.seq ?_
  refine Run.seq ?_
  refine Run.region ?_
  refine mv1 rfl rfl ?_
  refine lenS rfl hb.2 Tryd.underlying26 rfl rfl rfl ?_
  refine gtr1 rfl rfl rfl ?_
  refine Ro.nil ?_
  refine Nrm.code ?_
  refine Run.cond rfl (fun hc1 => ?_) (fun hc1 => ?_)
  ·
    try simp only [Bool.or_eq_true, Bool.and_eq_true, Bool.or_eq_false_iff, Bool.and_eq_false_iff, decide_eq_true_eq, decide_eq_false_iff_not, Bool.not_eq_true', Bool.not_eq_false', Bool.not_eq_true, Bool.not_eq_false] at hc1
    refine Run.seq ?_
    refine Run.region ?_
    refine asg1 rfl rfl ?_
    refine asg1 rfl rfl ?_
    refine Ro.nil ?_
    refine Nrm.code ?_
    refine Run.ret ?_
    refine Rt.two rfl rfl rfl ?_
    have hbad := opt_long (b := b) (by omega)
    have S := S.nilO
    exact ⟨.slice none 0 0, by rw [hbad.1], by rw [hbad.2]; exact S.toFOS (i := 0) rfl (fun _ _ => trivial)⟩
  ·
    try simp only [Bool.or_eq_true, Bool.and_eq_true, Bool.or_eq_false_iff, Bool.and_eq_false_iff, decide_eq_true_eq, decide_eq_false_iff_not, Bool.not_eq_true', Bool.not_eq_false', Bool.not_eq_true, Bool.not_eq_false] at hc1
    refine Run.skip ?_
    refine Nrm.code ?_
    refine Run.seq ?_
    refine Run.region ?_
    refine asg1 rfl rfl ?_
    have S := S.nilO
    refine Ro.nil ?_
    refine Nrm.code ?_
    refine Run.seq ?_
    refine Run.region ?_
    refine asg1 rfl rfl ?_
    refine Ro.nil ?_
    refine Nrm.code ?_
    refine Run.seq ?_
    refine Run.block ?_
    refine Run.loop4 (fun (i : Nat) (u : Value) (acc : List Opt) (vs : List Value) w_ => i ≤ b.length ∧ vs.length = acc.length ∧ acc.length ≤ i ∧ optAcc b acc i ∧ (∀ N, (∀ j ∈ N, j < w.heap.size) → OSs (idsL [oO u acc vs] ++ N) w_ vs acc) ∧ St [] w [oO u acc vs] w_) (fun (i : Nat) (u : Value) (acc : List Opt) (vs : List Value) => [(0, [], v), (4, [], u), (5, [], .int .i64 i)]) (fun (i : Nat) (u : Value) (acc : List Opt) (vs : List Value) => b.length - i) (0) (_) ([]) ([]) ⟨Nat.zero_le _, rfl, Nat.le_refl _, optAcc.zero b, fun _ _ => trivial, S⟩ ⟨rfl, rfl, rfl, trivial⟩ ?_
    rintro i u acc vs w1 ⟨hi, hvl, hal, hacc, hvs, S⟩
    refine Run.seq ?_
    refine Run.seq ?_
    refine Run.region ?_
    refine mv1 rfl rfl ?_
    refine mv1 rfl rfl ?_
    refine lenS rfl hb.2 Tryd.underlying26 rfl rfl rfl ?_
    refine lss1 rfl rfl rfl ?_
    refine mv1 rfl rfl ?_
    refine mv rfl rfl rfl rfl ?_
    refine mv rfl rfl rfl rfl ?_
    refine ixa rfl rfl hb.2 e26 rfl rfl rfl rfl (fun hG => by (try simp [allT] at hG); omega) ?_
    refine ldB rfl hb S T5 rfl rfl rfl (fun hG => by first | exact by omega | (simp [allT] at hG; exact by omega)) ?_
    intro q18 hq18 hbq18
    try simp only [Int.toNat_natCast, Nat.mul_one] at hq18
    refine neq rfl rfl rfl rfl rfl rfl ?_
    refine pkA rfl rfl rfl rfl rfl rfl ?_
    refine Ro.nil ?_
    refine Nrm.code ?_
    refine Run.cond rfl (fun hc5 => ?_) (fun hc5 => ?_)
    ·
      try simp only [Bool.or_eq_true, Bool.and_eq_true, Bool.or_eq_false_iff, Bool.and_eq_false_iff, decide_eq_true_eq, decide_eq_false_iff_not, Bool.not_eq_true', Bool.not_eq_false', Bool.not_eq_true, Bool.not_eq_false] at hc5
      refine Run.skip ?_
      refine Nrm.code ?_
      refine Run.block ?_
      refine Run.seq ?_
      refine Run.seq ?_
      refine Run.region ?_
      refine mv1 rfl rfl ?_
      refine mv1 rfl rfl ?_
      refine ixa rfl rfl hb.2 e26 rfl rfl rfl rfl (fun _ => by omega) ?_
      refine ldB rfl hb S T5 rfl rfl rfl (fun _ => by omega) ?_
      intro q24 hq24 hbq24
      try simp only [Int.toNat_natCast, Nat.mul_one] at hq24
      refine eql1 rfl rfl rfl ?_
      refine Ro.nil ?_
      refine Nrm.code ?_
      refine Run.cond rfl (fun hc6 => ?_) (fun hc6 => ?_)
      ·
        try simp only [Bool.or_eq_true, Bool.and_eq_true, Bool.or_eq_false_iff, Bool.and_eq_false_iff, decide_eq_true_eq, decide_eq_false_iff_not, Bool.not_eq_true', Bool.not_eq_false', Bool.not_eq_true, Bool.not_eq_false] at hc6
        refine Run.seq ?_
        refine Run.region ?_
        refine mv1 rfl rfl ?_
        refine add1 rfl rfl rfl (w64 (by omega)) ?_
        refine asg1 rfl rfl ?_
        refine Ro.nil ?_
        refine Nrm.code ?_
        refine Run.exit ?_
        refine Lv.code ?_
        refine Lv.hit ?_
        refine Nrm.loop4 (i + 1) (_) (_) (_) ⟨by omega, hvl, by omega, hacc.skip (optsG_one (by omega) (by omega)), hvs, S⟩ (by omega) ⟨rfl, rfl, rfl, trivial⟩
      ·
        try simp only [Bool.or_eq_true, Bool.and_eq_true, Bool.or_eq_false_iff, Bool.and_eq_false_iff, decide_eq_true_eq, decide_eq_false_iff_not, Bool.not_eq_true', Bool.not_eq_false', Bool.not_eq_true, Bool.not_eq_false] at hc6
        refine Run.skip ?_
        refine Nrm.code ?_
        refine Run.seq ?_
        refine Run.seq ?_
        refine Run.region ?_
        refine mv1 rfl rfl ?_
        refine add1 rfl rfl rfl (w64 (by omega)) ?_
        refine mv1 rfl rfl ?_
        refine lenS rfl hb.2 Tryd.underlying26 rfl rfl rfl ?_
        refine geq1 rfl rfl rfl ?_
        refine mv1 rfl rfl ?_
        refine mv rfl rfl rfl rfl ?_
        refine mv rfl rfl rfl rfl ?_
        refine add rfl rfl rfl rfl rfl rfl (fun hG => by first | exact w64 (by omega) | (simp [allT] at hG; exact w64 (by omega))) ?_
        refine ixa rfl rfl hb.2 e26 rfl rfl rfl rfl (fun hG => by (try simp [allT] at hG); omega) ?_
        refine ldB rfl hb S T5 rfl rfl rfl (fun hG => by first | exact by omega | (simp [allT] at hG; exact by omega)) ?_
        intro q38 hq38 hbq38
        try simp only [Int.toNat_natCast, Nat.mul_one] at hq38
        replace hq38 : q38 = b.getD (i + 1) 0 := hq38
        refine lss rfl rfl rfl rfl rfl rfl ?_
        refine pkO rfl rfl rfl rfl rfl rfl ?_
        refine mv1 rfl rfl ?_
        refine mv rfl rfl rfl rfl ?_
        refine mv rfl rfl rfl rfl ?_
        refine mv rfl rfl rfl rfl ?_
        refine add rfl rfl rfl rfl rfl rfl (fun hG => by first | exact w64 (by omega) | (simp [allT] at hG; exact w64 (by omega))) ?_
        refine ixa rfl rfl hb.2 e26 rfl rfl rfl rfl (fun hG => by (try simp [allT] at hG); omega) ?_
        refine ldB rfl hb S T5 rfl rfl rfl (fun hG => by first | exact by omega | (simp [allT] at hG; exact by omega)) ?_
        intro q47 hq47 hbq47
        try simp only [Int.toNat_natCast, Nat.mul_one] at hq47
        replace hq47 : q47 = b.getD (i + 1) 0 := hq47
        refine cvi rfl rfl rfl rfl Tryd.underlying5 Tryd.underlying3 (fun hG => by first | exact w64 (by omega) | (simp [allT] at hG; exact w64 (by omega))) ?_
        refine add rfl rfl rfl rfl rfl rfl (fun hG => by first | exact w64 (by omega) | (simp [allT] at hG; exact w64 (by omega))) ?_
        refine mv rfl rfl rfl rfl ?_
        refine lenS rfl hb.2 Tryd.underlying26 rfl rfl rfl ?_
        refine gtr rfl rfl rfl rfl rfl rfl ?_
        refine pkO rfl rfl rfl rfl rfl rfl ?_
        refine Ro.nil ?_
        refine Nrm.code ?_
        refine Run.cond rfl (fun hc8 => ?_) (fun hc8 => ?_)
        ·
          try simp only [Bool.or_eq_true, Bool.and_eq_true, Bool.or_eq_false_iff, Bool.and_eq_false_iff, decide_eq_true_eq, decide_eq_false_iff_not, Bool.not_eq_true', Bool.not_eq_false', Bool.not_eq_true, Bool.not_eq_false] at hc8
          refine Run.seq ?_
          refine Run.region ?_
          refine asg1 rfl rfl ?_
          refine asg1 rfl rfl ?_
          refine Ro.nil ?_
          refine Nrm.code ?_
          refine Run.ret ?_
          refine Rt.two rfl rfl rfl ?_
          have hno : optsG (b.drop i) = none := by
            rcases Nat.lt_or_ge (i + 1) b.length with hlt | hge
            · exact optsG_bad hlt (by omega) (by omega) (by omega)
            · exact optsG_end (by omega) (by omega) (by omega)
          have hbad := hacc.bad (by omega) hno
          have S := S.nilO
          exact ⟨.slice none 0 0, by rw [hbad.1], by rw [hbad.2]; exact S.toFOS (i := 0) rfl (fun _ _ => trivial)⟩
        ·
          try simp only [Bool.or_eq_true, Bool.and_eq_true, Bool.or_eq_false_iff, Bool.and_eq_false_iff, decide_eq_true_eq, decide_eq_false_iff_not, Bool.not_eq_true', Bool.not_eq_false', Bool.not_eq_true, Bool.not_eq_false] at hc8
          refine Run.skip ?_
          refine Nrm.code ?_
          refine Run.seq ?_
          refine Run.region ?_
          refine mv1 rfl rfl ?_
          refine mv1 rfl rfl ?_
          refine add1 rfl rfl rfl (w64 (by omega)) ?_
          refine ixa rfl rfl hb.2 e26 rfl rfl rfl rfl (fun _ => by omega) ?_
          refine ldB rfl hb S T5 rfl rfl rfl (fun _ => by omega) ?_
          intro q58 hq58 hbq58
          try simp only [Int.toNat_natCast, Nat.mul_one] at hq58
          obtain ⟨m, hm⟩ : ∃ m : Nat, q58 = m := ⟨q58.toNat, by omega⟩
          subst hm
          replace hq58 : (m : Int) = b.getD (i + 1) 0 := hq58
          refine cvi1 rfl rfl Tryd.underlying5 Tryd.underlying3 (w64 (by omega)) ?_
          refine asg1 rfl rfl ?_
          refine Ro.nil ?_
          refine Nrm.code ?_
          refine Run.seq ?_
          refine Run.held (by kernel_rfl) S [false] rfl rfl rfl ?_
          intro w2 BD S SC
          refine Ho.take (i := 0) SC Pp.body rfl (by kernel_rfl) (by kernel_rfl) (by kernel_rfl) rfl rfl ?_
          refine qmv rfl rfl rfl rfl ?_
          refine Ho.back ?_
          refine Ho.take (i := 1) SC Pp.body rfl (by kernel_rfl) (by kernel_rfl) (by kernel_rfl) rfl rfl ?_
          refine qmv rfl rfl rfl rfl ?_
          refine Ho.back ?_
          refine Ho.take (i := 2) SC Pp.body rfl (by kernel_rfl) (by kernel_rfl) (by kernel_rfl) rfl rfl ?_
          refine qmv rfl rfl rfl rfl ?_
          refine Ho.back ?_
          refine Ho.take (i := 3) SC Pp.body rfl (by kernel_rfl) (by kernel_rfl) (by kernel_rfl) rfl rfl ?_
          refine qixa rfl rfl hb.2 e26 rfl rfl rfl rfl (fun hG => by (try simp [allT] at hG); omega) ?_
          refine Ho.back ?_
          refine Ho.take (i := 4) SC Pp.body rfl (by kernel_rfl) (by kernel_rfl) (by kernel_rfl) rfl rfl ?_
          refine qldB rfl hb (fun _ S => S) T5 rfl rfl rfl (fun _ => by omega) ?_
          intro q64 hq64 hbq64
          try simp only [Int.toNat_natCast, Nat.mul_one] at hq64
          refine Ho.back ?_
          refine Ho.take (i := 5) SC Pp.body rfl (by kernel_rfl) (by kernel_rfl) (by kernel_rfl) rfl rfl ?_
          refine qcvi rfl rfl rfl rfl Tryd.underlying5 Tryd.underlying3 (fun _ => w64 (by omega)) ?_
          refine Ho.back ?_
          refine Ho.take (i := 6) SC Pp.body rfl (by kernel_rfl) (by kernel_rfl) (by kernel_rfl) rfl rfl ?_
          refine qmv rfl rfl rfl rfl ?_
          refine Ho.back ?_
          refine Ho.take (i := 7) SC Pp.body rfl (by kernel_rfl) (by kernel_rfl) (by kernel_rfl) rfl rfl ?_
          refine qmv rfl rfl rfl rfl ?_
          refine Ho.back ?_
          refine Ho.take (i := 8) SC Pp.body rfl (by kernel_rfl) (by kernel_rfl) (by kernel_rfl) rfl rfl ?_
          refine qadd rfl rfl rfl rfl rfl rfl (fun _ => w64 (by omega)) ?_
          refine Ho.back ?_
          refine Ho.take (i := 9) SC Pp.body rfl (by kernel_rfl) (by kernel_rfl) (by kernel_rfl) rfl rfl ?_
          refine qmv rfl rfl rfl rfl ?_
          refine Ho.back ?_
          refine Ho.take (i := 10) SC Pp.body rfl (by kernel_rfl) (by kernel_rfl) (by kernel_rfl) rfl rfl ?_
          refine qmv rfl rfl rfl rfl ?_
          refine Ho.back ?_
          refine Ho.take (i := 11) SC Pp.body rfl (by kernel_rfl) (by kernel_rfl) (by kernel_rfl) rfl rfl ?_
          refine qadd rfl rfl rfl rfl rfl rfl (fun _ => w64 (by omega)) ?_
          refine Ho.back ?_
          refine Ho.take (i := 12) SC Pp.body rfl (by kernel_rfl) (by kernel_rfl) (by kernel_rfl) rfl rfl ?_
          have hv72 := hb.cut (lo := i + 2) (hi := i + m) (mx := capV v) (by have hcap := hb.cap; omega)
          refine qslC (lo := i + 2) (hi := i + m) (mx := capV v) rfl hb e26 rfl rfl rfl (i1 := some (i + 2)) (i2 := some (i + m)) (i3 := none) ⟨_, _, _, rfl, rfl⟩ ⟨_, _, _, rfl, rfl⟩ trivial rfl rfl rfl (fun h => by first | rfl | cases h) (fun hG => by (try simp [allT] at hG); have hcap := hb.cap; omega) ?_
          refine Ho.back ?_
          refine Ho.one (i := 13) (by kernel_rfl) rfl rfl ?_
          have S0 := S
          refine call (vs := [_]) ⟨⟨_, _, rfl, rfl⟩, trivial⟩ k39 rfl (c39 _ _ _ (hv72.now S) (by rw [List.length_take]; omega)) ?_
          rintro q w3 hF
          have S := S.call hF.1
          have hqb : ∀ N, (∀ j ∈ N, j < w.heap.size) → BS (idsL [oO u acc vs] ++ N) w3 q _ := fun N hN => hF.bs hv72.1 (below_app S0 hN)
          have hvs := fun N hN => ((hvs N hN).bl BD).bl hF.1
          have Sb := S
          have S := S.rebase
          have hq1 := hqb [] (by simp)
          have SC := (Sb.trans S).pick [false] rfl
          refine Ho.on SC ?_
          refine Ho.take (i := 14) SC Pp.body rfl (by kernel_rfl) (by kernel_rfl) (by kernel_rfl) rfl rfl ?_
          refine qbld B93 (qs := [(_, _), (_, _)]) ⟨⟨_, _, _, rfl, rfl, rfl, rfl, by simp [Value.cells]⟩, ⟨_, _, _, rfl, rfl, cells1 hq1.one, rfl, List.cons_ne_nil _ _⟩, trivial⟩ rfl rfl rfl ?_
          refine Ho.back ?_
          refine Ho.one (i := 15) (by kernel_rfl) rfl rfl ?_
          refine bsl e25 (qs := [(_, _)]) ⟨⟨_, _, _, rfl, rfl, rfl, rfl, by simp [Value.cells]⟩, trivial⟩ rfl rfl rfl rfl S ?_
          intro u75 w4 S B_
          have SC := (Sb.trans S).pick [false, false] rfl
          refine Ho.on SC ?_
          refine Ho.one (i := 16) (by kernel_rfl) rfl rfl ?_
          refine apO (i := 1) ((b.drop (i + 2)).take (i + m - (i + 2))) rfl rfl e25 (S.slI (i := 0) rfl) hq1.one hvl S rfl rfl (fun v' => rfl) (by omega) ?_
          intro u2 w5 S B_
          have SC := (Sb.trans S).pick [false, false] rfl
          refine Ho.on SC ?_
          refine Ho.take (i := 17) SC Pp.body rfl (by kernel_rfl) (by kernel_rfl) (by kernel_rfl) rfl rfl ?_
          refine qasg rfl rfl rfl rfl ?_
          refine Ho.back ?_
          refine Ho.done (by kernel_rfl) ?_
          refine Nrm.code ?_
          refine Run.region ?_
          refine mv1 rfl rfl ?_
          refine mv1 rfl rfl ?_
          refine add1 rfl rfl rfl (w64 (by omega)) ?_
          refine asg1 rfl rfl ?_
          refine Ro.nil ?_
          refine Nrm.blk ?_
          refine Nrm.loop4 (i + m) (_) (_) (_) ⟨by omega, by simp [hvl], acc_len hal _ (by omega), hacc.step (by rw [hq64]; exact optsG_go (by omega) (by omega) hq58.symm (by omega) (by omega)),
                  fun N hN => ((OSs.stN (fun _ h => List.mem_append_left _ h) S.drop0 (hvs N hN)).snoc ((hqb N hN).stN (fun _ h => List.mem_append_left _ h) S.drop0)).weak mid_drop, Sb.trans S.drop0⟩ (by omega) ⟨rfl, rfl, rfl, trivial⟩
    ·
      try simp only [Bool.or_eq_true, Bool.and_eq_true, Bool.or_eq_false_iff, Bool.and_eq_false_iff, decide_eq_true_eq, decide_eq_false_iff_not, Bool.not_eq_true', Bool.not_eq_false', Bool.not_eq_true, Bool.not_eq_false] at hc5
      refine Run.exit ?_
      refine Lv.code ?_
      refine Lv.back ?_
      refine Lv.hit ?_
      refine Nrm.code ?_
      refine Run.seq ?_
      refine Run.region ?_
      refine mv1 rfl rfl ?_
      refine asg1 rfl rfl ?_
      refine asg1 rfl rfl ?_
      refine Ro.nil ?_
      refine Nrm.code ?_
      refine Run.ret ?_
      refine Rt.two rfl rfl rfl ?_
      have hno : optsG (b.drop i) = some [] := by
        rcases Nat.lt_or_ge i b.length with hlt | hge
        · exact optsG_zero hlt (by omega)
        · exact optsG_nil hge
      have hg := hacc.good (by omega) hno
      exact ⟨u, by rw [hg.1], by rw [hg.2]; exact S.toFOS (i := 0) rfl (fun N hN => (hvs N hN).weak (fun j hj => List.mem_append_right _ hj))⟩

end Go.Proofs.YtkahmepenjhcpaaDoor.W
