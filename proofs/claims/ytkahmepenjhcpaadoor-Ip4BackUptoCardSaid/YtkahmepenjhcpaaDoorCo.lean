/- Contracts: datagrams compared. No statement of the seat is proved here. -/
import Derived.Test.YtkahmepenjhcpaaDoorCn
namespace Go.Proofs.YtkahmepenjhcpaaDoor.W
open Go
set_option linter.unusedSimpArgs false
set_option linter.unusedVariables false


def sameOs (a b : List Opt) : Bool := decide (a.map Opt.kind = b.map Opt.kind) && decide (a.map Opt.data = b.map Opt.data)
theorem opt_ext {a b : Opt} (h1 : a.kind = b.kind) (h2 : a.data = b.data) : a = b := by cases a; cases b; simp_all
theorem sameOs_iff {a b : List Opt} : sameOs a b = true ↔ a = b := by
  simp only [sameOs, Bool.and_eq_true, decide_eq_true_eq]
  constructor
  · rintro ⟨h1, h2⟩
    have hl : a.length = b.length := by have := congrArg List.length h1; simpa using this
    refine List.ext_getElem hl (fun i h h' => opt_ext ?_ ?_)
    · have e := congrArg (fun l : List Int => l[i]?) h1
      simpa [h, h'] using e
    · have e := congrArg (fun l : List (List Int) => l[i]?) h2
      simpa [h, h'] using e
  · intro h; rw [h]; exact ⟨rfl, rfl⟩
theorem sameOs_no {a b : List Opt} (h : a ≠ b) : sameOs a b = false := by
  cases hs : sameOs a b with
  | false => rfl
  | true => exact absurd (sameOs_iff.1 hs) h
def diffH (a b : Ip4) : Bool := ((((((((decide (a.tos ≠ b.tos) || decide (a.id ≠ b.id)) || !(a.df == b.df)) || !(a.mf == b.mf)) || decide (a.off ≠ b.off)) || decide (a.ttl ≠ b.ttl)) || decide (a.proto ≠ b.proto)) || !sameB a.src b.src) || !sameB a.dst b.dst)
def sameH (a b : Ip4) : Bool := !diffH a b && (sameOs a.opts b.opts && decide (a.data = b.data))

set_option maxHeartbeats 1000000 in
theorem c46 (v u : Value) (a b : List Opt) (w : World) (hO : OS [] w v a) (hP : OS [] w u b) (hl : a.length ≤ 1099511627776) :
    CallsD Tryd.prog 46 #[v, u] w (.bool (sameOs a b)) := by
  refine enter Tryd.func46 rfl Tryd.ntmps46 (l := [(0, [], _), (1, [], _)]) rfl rfl ?_
  have S := St.refl [] w
  obtain ⟨ds, hOS, hOB⟩ := hO
  obtain ⟨es, hPS, hPB⟩ := hP
  refine Run.seq ?_
  refine Run.region ?_
  refine asg1 rfl rfl ?_
  refine Ro.nil ?_
  refine Nrm.code ?_
  refine Run.seq ?_
  refine Run.seq ?_
  refine Run.region ?_
  refine mv1 rfl rfl ?_
  refine lenS rfl hOS Tryd.underlying25 rfl rfl rfl ?_
  refine mv1 rfl rfl ?_
  refine lenS rfl hPS Tryd.underlying25 rfl rfl rfl ?_
  refine neq1 rfl rfl rfl ?_
  refine Ro.nil ?_
  refine Nrm.code ?_
  refine Run.cond rfl (fun hc1 => ?_) (fun hc1 => ?_)
  ·
    try simp only [Bool.or_eq_true, Bool.and_eq_true, Bool.or_eq_false_iff, Bool.and_eq_false_iff, decide_eq_true_eq, decide_eq_false_iff_not, Bool.not_eq_true', Bool.not_eq_false', Bool.not_eq_true, Bool.not_eq_false] at hc1
    refine Run.seq ?_
    refine Run.region ?_
    refine asg1 rfl rfl ?_
    refine Ro.nil ?_
    refine Nrm.code ?_
    refine Run.ret ?_
    refine Rt.one rfl rfl ?_
    exact ⟨by rw [sameOs_no (fun h => by rw [h] at hc1; omega)], S.bl⟩
  ·
    try simp only [Bool.or_eq_true, Bool.and_eq_true, Bool.or_eq_false_iff, Bool.and_eq_false_iff, decide_eq_true_eq, decide_eq_false_iff_not, Bool.not_eq_true', Bool.not_eq_false', Bool.not_eq_true, Bool.not_eq_false] at hc1
    refine Run.skip ?_
    refine Nrm.code ?_
    refine Run.seq ?_
    refine Run.seq ?_
    refine Run.region ?_
    refine asg1 rfl rfl ?_
    refine Ro.nil ?_
    refine Nrm.code ?_
    refine Run.block ?_
    refine Run.loop1 (fun (i : Nat) w_ => i ≤ a.length ∧ a.take i = b.take i ∧ St [] w [] w_) (fun (i : Nat) => [(0, [], v), (1, [], u), (5, [], .int .i64 i)]) (fun (i : Nat) => a.length - i) (0) ⟨Nat.zero_le _, rfl, S⟩ ⟨rfl, rfl, rfl, trivial⟩ ?_
    rintro i w1 ⟨hi, he, S⟩
    refine Run.seq ?_
    refine Run.seq ?_
    refine Run.region ?_
    refine mv1 rfl rfl ?_
    refine mv1 rfl rfl ?_
    refine lenS rfl hOS Tryd.underlying25 rfl rfl rfl ?_
    refine lss1 rfl rfl rfl ?_
    refine Ro.nil ?_
    refine Nrm.code ?_
    refine Run.cond rfl (fun hc4 => ?_) (fun hc4 => ?_)
    ·
      try simp only [Bool.or_eq_true, Bool.and_eq_true, Bool.or_eq_false_iff, Bool.and_eq_false_iff, decide_eq_true_eq, decide_eq_false_iff_not, Bool.not_eq_true', Bool.not_eq_false', Bool.not_eq_true, Bool.not_eq_false] at hc4
      refine Run.skip ?_
      refine Nrm.code ?_
      refine Run.seq ?_
      refine Run.block ?_
      refine Run.seq ?_
      refine Run.draw (by kernel_rfl) (by kernel_rfl) S ?_
      obtain ⟨p1, hp1, hb1⟩ := hOB.at (i := i) (by omega)
      obtain ⟨p2, hp2, hb2⟩ := hPB.at (i := i) (by omega)
      refine qmv rfl rfl rfl rfl ?_
      refine qmv rfl rfl rfl rfl ?_
      refine qixa rfl rfl hOS e25 rfl rfl rfl rfl (fun _ => by first | omega | (simp only [List.length_cons, List.length_nil]; omega)) ?_
      refine qflE rfl hOS fo93_1 rfl rfl rfl (fun _ => hOB.lt (by omega)) ?_
      refine qldE rfl hOS (fun _ S => S) T26 rfl rfl rfl (fun _ => hOB.k1 (by omega) hp1) ?_
      refine qmv rfl rfl rfl rfl ?_
      refine qmv rfl rfl rfl rfl ?_
      refine qixa rfl rfl hPS e25 rfl rfl rfl rfl (fun _ => by first | omega | (simp only [List.length_cons, List.length_nil]; omega)) ?_
      refine qflE rfl hPS fo93_1 rfl rfl rfl (fun _ => hPB.lt (by omega)) ?_
      refine qldE rfl hPS (fun _ S => S) T26 rfl rfl rfl (fun _ => hPB.k1 (by omega) hp2) ?_
      refine qcal (vs := [_, _]) rfl ⟨⟨_, _, rfl, rfl⟩, ⟨_, _, rfl, rfl⟩, trivial⟩ k37 rfl (fun _ _ S B => S.call B) (fun hG w_ S => c37 _ _ _ _ _ (hb1.now S) (hb2.now S)) ?_
      refine qasg rfl rfl rfl rfl ?_
      refine Qo.nil (fun w2 S => ?_)
      refine Nrm.code ?_
      refine Run.seq ?_
      refine Run.draw (by kernel_rfl) (by kernel_rfl) S ?_
      refine qmv rfl rfl rfl rfl ?_
      refine qmv rfl rfl rfl rfl ?_
      refine qixa rfl rfl hOS e25 rfl rfl rfl rfl (fun _ => by first | omega | (simp only [List.length_cons, List.length_nil]; omega)) ?_
      refine qflE rfl hOS fo93_0 rfl rfl rfl (fun _ => hOB.lt (by omega)) ?_
      refine qldE rfl hOS (fun _ S => S) T3 rfl rfl rfl (fun _ => hOB.k0 (by omega) hp1) ?_
      refine qmv rfl rfl rfl rfl ?_
      refine qmv rfl rfl rfl rfl ?_
      refine qixa rfl rfl hPS e25 rfl rfl rfl rfl (fun _ => by first | omega | (simp only [List.length_cons, List.length_nil]; omega)) ?_
      refine qflE rfl hPS fo93_0 rfl rfl rfl (fun _ => hPB.lt (by omega)) ?_
      refine qldE rfl hPS (fun _ S => S) T3 rfl rfl rfl (fun _ => hPB.k0 (by omega) hp2) ?_
      refine qneq rfl rfl rfl rfl rfl rfl ?_
      refine qmv rfl rfl rfl rfl ?_
      refine qmv rfl rfl rfl rfl ?_
      refine qnt rfl rfl rfl rfl ?_
      refine qpkO rfl rfl rfl rfl rfl rfl ?_
      refine Qo.nil (fun w3 S => ?_)
      refine Nrm.code ?_
      refine Run.cond rfl (fun hc7 => ?_) (fun hc7 => ?_)
      ·
        try simp only [Bool.or_eq_true, Bool.and_eq_true, Bool.or_eq_false_iff, Bool.and_eq_false_iff, decide_eq_true_eq, decide_eq_false_iff_not, Bool.not_eq_true', Bool.not_eq_false', Bool.not_eq_true, Bool.not_eq_false] at hc7
        refine Run.seq ?_
        refine Run.region ?_
        refine asg1 rfl rfl ?_
        refine Ro.nil ?_
        refine Nrm.code ?_
        refine Run.ret ?_
        refine Rt.one rfl rfl ?_
        exact ⟨by
          rw [sameOs_no]
          intro h
          subst h
          rcases hc7 with h | h
          · exact h rfl
          · exact h rfl, S.bl⟩
      ·
        try simp only [Bool.or_eq_true, Bool.and_eq_true, Bool.or_eq_false_iff, Bool.and_eq_false_iff, decide_eq_true_eq, decide_eq_false_iff_not, Bool.not_eq_true', Bool.not_eq_false', Bool.not_eq_true, Bool.not_eq_false] at hc7
        refine Run.skip ?_
        refine Nrm.blk ?_
        refine Nrm.code ?_
        refine Run.region ?_
        refine mv1 rfl rfl ?_
        refine add1 rfl rfl rfl (w64 (by omega)) ?_
        refine asg1 rfl rfl ?_
        refine Ro.nil ?_
        refine Nrm.loop1 (i + 1) ⟨by omega, by rw [take_succ_getD (show i < a.length by omega) (d := o0), take_succ_getD (show i < b.length by omega) (d := o0), he, opt_ext (a := a.getD i o0) (b := b.getD i o0) (by omega) hc7.2], S⟩ (by omega) ⟨rfl, rfl, rfl, trivial⟩
    ·
      try simp only [Bool.or_eq_true, Bool.and_eq_true, Bool.or_eq_false_iff, Bool.and_eq_false_iff, decide_eq_true_eq, decide_eq_false_iff_not, Bool.not_eq_true', Bool.not_eq_false', Bool.not_eq_true, Bool.not_eq_false] at hc4
      refine Run.exit ?_
      refine Lv.code ?_
      refine Lv.back ?_
      refine Lv.hit ?_
      refine Nrm.code ?_
      refine Run.seq ?_
      refine Run.region ?_
      refine asg1 rfl rfl ?_
      refine Ro.nil ?_
      refine Nrm.code ?_
      refine Run.ret ?_
      refine Rt.one rfl rfl ?_
      have e : i = a.length := by omega
      rw [e, List.take_length, List.take_of_length_le (by omega)] at he
      exact ⟨by rw [sameOs_iff.2 he], S.bl⟩

set_option maxHeartbeats 1000000 in
theorem c34 (a b : Ip4) (o1 d1 o2 d2 : Value) (w : World) (hO : OS [] w o1 a.opts) (hd : BS [] w d1 a.data) (hP : OS [] w o2 b.opts) (he : BS [] w d2 b.data) (hl : a.opts.length ≤ 1099511627776) :
    CallsD Tryd.prog 34 #[.agg (encIp4 a o1 d1).toArray, .agg (encIp4 b o2 d2).toArray] w (.bool (sameH a b)) := by
  refine enter Tryd.func34 rfl Tryd.ntmps34 (l := [(0, [], _), (1, [], _)]) rfl rfl ?_
  have S := St.refl [] w
  refine Run.seq ?_
  refine Run.region ?_
  refine boxA rfl S rfl ?_
  intro b2 w1 hb2 S B_
  refine boxA rfl S rfl ?_
  intro b3 w2 hb3 S B_
  refine asg1 rfl rfl ?_
  refine Ro.nil ?_
  refine Nrm.code ?_
  refine Run.seq ?_
  refine Run.seq ?_
  refine Run.region ?_
  refine fld (o' := 0) rfl fo28_0 rfl rfl rfl rfl ?_
  refine ld1 rfl T3 S (i := 1) rfl rfl rfl rfl rfl ?_
  refine fld (o' := 0) rfl fo28_0 rfl rfl rfl rfl ?_
  refine ld1 rfl T3 S (i := 0) rfl rfl rfl rfl rfl ?_
  refine neq1 rfl rfl rfl ?_
  refine mv1 rfl rfl ?_
  refine fld (o' := 1) rfl fo28_1 rfl rfl rfl rfl ?_
  refine ld1 rfl T3 S (i := 1) rfl rfl rfl rfl rfl ?_
  refine fld (o' := 1) rfl fo28_1 rfl rfl rfl rfl ?_
  refine ld1 rfl T3 S (i := 0) rfl rfl rfl rfl rfl ?_
  refine neq rfl rfl rfl rfl rfl rfl ?_
  refine pkO rfl rfl rfl rfl rfl rfl ?_
  refine mv1 rfl rfl ?_
  refine fld (o' := 2) rfl fo28_2 rfl rfl rfl rfl ?_
  refine ld1 rfl T4 S (i := 1) rfl rfl rfl rfl rfl ?_
  refine fld (o' := 2) rfl fo28_2 rfl rfl rfl rfl ?_
  refine ld1 rfl T4 S (i := 0) rfl rfl rfl rfl rfl ?_
  refine neB rfl rfl Tryd.underlying4 rfl rfl rfl rfl ?_
  refine pkO rfl rfl rfl rfl rfl rfl ?_
  refine mv1 rfl rfl ?_
  refine fld (o' := 3) rfl fo28_3 rfl rfl rfl rfl ?_
  refine ld1 rfl T4 S (i := 1) rfl rfl rfl rfl rfl ?_
  refine fld (o' := 3) rfl fo28_3 rfl rfl rfl rfl ?_
  refine ld1 rfl T4 S (i := 0) rfl rfl rfl rfl rfl ?_
  refine neB rfl rfl Tryd.underlying4 rfl rfl rfl rfl ?_
  refine pkO rfl rfl rfl rfl rfl rfl ?_
  refine mv1 rfl rfl ?_
  refine fld (o' := 4) rfl fo28_4 rfl rfl rfl rfl ?_
  refine ld1 rfl T3 S (i := 1) rfl rfl rfl rfl rfl ?_
  refine fld (o' := 4) rfl fo28_4 rfl rfl rfl rfl ?_
  refine ld1 rfl T3 S (i := 0) rfl rfl rfl rfl rfl ?_
  refine neq rfl rfl rfl rfl rfl rfl ?_
  refine pkO rfl rfl rfl rfl rfl rfl ?_
  refine mv1 rfl rfl ?_
  refine fld (o' := 5) rfl fo28_5 rfl rfl rfl rfl ?_
  refine ld1 rfl T3 S (i := 1) rfl rfl rfl rfl rfl ?_
  refine fld (o' := 5) rfl fo28_5 rfl rfl rfl rfl ?_
  refine ld1 rfl T3 S (i := 0) rfl rfl rfl rfl rfl ?_
  refine neq rfl rfl rfl rfl rfl rfl ?_
  refine pkO rfl rfl rfl rfl rfl rfl ?_
  refine mv1 rfl rfl ?_
  refine fld (o' := 6) rfl fo28_6 rfl rfl rfl rfl ?_
  refine ld1 rfl T3 S (i := 1) rfl rfl rfl rfl rfl ?_
  refine fld (o' := 6) rfl fo28_6 rfl rfl rfl rfl ?_
  refine ld1 rfl T3 S (i := 0) rfl rfl rfl rfl rfl ?_
  refine neq rfl rfl rfl rfl rfl rfl ?_
  refine pkO rfl rfl rfl rfl rfl rfl ?_
  refine mv1 rfl rfl ?_
  refine fld (o' := 7) rfl fo28_7 rfl rfl rfl rfl ?_
  refine ldA rfl T24 S (i := 1) rfl rfl rfl (by decide) rfl rfl rfl ?_
  refine fld (o' := 7) rfl fo28_7 rfl rfl rfl rfl ?_
  refine ldA rfl T24 S (i := 0) rfl rfl rfl (by decide) rfl rfl rfl ?_
  refine neI (a.src) (b.src) rfl rfl rfl rfl rfl rfl ?_
  refine pkO rfl rfl rfl rfl rfl rfl ?_
  refine mv1 rfl rfl ?_
  refine fld (o' := 24) rfl fo28_8 rfl rfl rfl rfl ?_
  refine ldA rfl T24 S (i := 1) rfl rfl rfl (by decide) rfl rfl rfl ?_
  refine fld (o' := 24) rfl fo28_8 rfl rfl rfl rfl ?_
  refine ldA rfl T24 S (i := 0) rfl rfl rfl (by decide) rfl rfl rfl ?_
  refine neI (a.dst) (b.dst) rfl rfl rfl rfl rfl rfl ?_
  refine pkO rfl rfl rfl rfl rfl rfl ?_
  refine Ro.nil ?_
  refine Nrm.code ?_
  refine Run.cond rfl (fun hc1 => ?_) (fun hc1 => ?_)
  ·
    refine Run.seq ?_
    refine Run.region ?_
    refine asg1 rfl rfl ?_
    refine Ro.nil ?_
    refine Nrm.code ?_
    refine Run.ret ?_
    refine Rt.one rfl rfl ?_
    exact ⟨by rw [sameH, show diffH a b = true from hc1]; rfl, S.bl⟩
  ·
    refine Run.skip ?_
    refine Nrm.code ?_
    refine Run.seq ?_
    refine Run.region ?_
    refine fld (o' := 41) rfl fo28_9 rfl rfl rfl rfl ?_
    refine ld1 rfl T25 S (i := 1) rfl rfl rfl rfl rfl ?_
    refine fld (o' := 41) rfl fo28_9 rfl rfl rfl rfl ?_
    refine ld1 rfl T25 S (i := 0) rfl rfl rfl rfl rfl ?_
    refine calg (vs := [_, _]) rfl ⟨⟨_, _, rfl, rfl⟩, ⟨_, _, rfl, rfl⟩, trivial⟩ k46 rfl (fun hG => c46 _ _ _ _ _ (hO.now S) (hP.now S) (by omega)) ?_
    intro w3 B_; have S := S.call B_
    refine mv1 rfl rfl ?_
    refine fld (o' := 42) rfl fo28_10 rfl rfl rfl rfl ?_
    refine ld1 rfl T26 S (i := 1) rfl rfl rfl rfl rfl ?_
    refine fld (o' := 42) rfl fo28_10 rfl rfl rfl rfl ?_
    refine ld1 rfl T26 S (i := 0) rfl rfl rfl rfl rfl ?_
    refine calg (vs := [_, _]) rfl ⟨⟨_, _, rfl, rfl⟩, ⟨_, _, rfl, rfl⟩, trivial⟩ k37 rfl (fun hG => c37 _ _ _ _ _ (hd.now S) (he.now S)) ?_
    intro w4 B_; have S := S.call B_
    refine pkA rfl rfl rfl rfl rfl rfl ?_
    refine asg1 rfl rfl ?_
    refine Ro.nil ?_
    refine Nrm.code ?_
    refine Run.ret ?_
    refine Rt.one rfl rfl ?_
    exact ⟨by rw [sameH, show diffH a b = false from hc1]; rfl, S.bl⟩

end Go.Proofs.YtkahmepenjhcpaaDoor.W
