/- Texts of the proofs of this seat, packed into one (Cm Se Cn Co Cp Cq Fv Cr Sg Fx Fw Fy Ct Cu Cv). No statement of the seat is proved here. -/
import Derived.Lib.SlBytesConst
import Derived.Test.YtkahmepenjhcpaaDoorGb
/- Contracts: a datagram is written. No statement of the seat is proved here. -/
namespace Go.Proofs.YtkahmepenjhcpaaDoor.W
open Go
set_option linter.unusedSimpArgs false
set_option linter.unusedVariables false


abbrev W4 : List Int := [4, 4, 8, 16, 16, 1, 1, 1, 13, 8, 8, 16]
def four4 (x : IP) : List Int := [x.a 0, x.a 1, x.a 2, x.a 3]
def bI (b : Bool) : Int := if b then 1 else 0
def top10 (h : Ip4) : List Int := hdr12 ((20 + ((putL h.opts).length : Int)) / 4) h.tos (20 + ((putL h.opts).length : Int) + (h.data.length : Int)) h.id (bI h.df) (bI h.mf) (h.off / 8) h.ttl h.proto
def headB (h : Ip4) : List Int := top10 h ++ four4 h.src ++ four4 h.dst ++ putL h.opts
def sumC (h : Ip4) : Int := 65535 - sumS (headB h)
def serB (h : Ip4) : List Int := ((headB h).set 10 (sumC h / 256)).set 11 (sumC h % 256) ++ h.data
def serL (h : Ip4) : List Int := if chkE h = 0 then serB h else []
theorem four4_byt {x : IP} (h : x.ok) : byt (four4 x) := by
  intro b hb
  simp only [four4, List.mem_cons, List.not_mem_nil, or_false] at hb
  rcases hb with rfl | rfl | rfl | rfl
  · exact h.1 0 (by omega)
  · exact h.1 1 (by omega)
  · exact h.1 2 (by omega)
  · exact h.1 3 (by omega)
theorem BSs.byts {N : List Nat} {w : World} : ∀ {vs : List Value} {ls : List (List Int)}, BSs N w vs ls → ∀ l ∈ ls, W.byt l
  | [], [], _, l, hl => by simp at hl
  | [], _ :: _, h, _, _ => h.elim
  | _ :: _, [], h, _, _ => h.elim
  | v :: vs, a :: ls, h, l, hl => by
    rcases List.mem_cons.1 hl with e | e
    · rw [e]; exact h.1.1
    · exact BSs.byts h.2 l e
theorem OS.byt {N : List Nat} {w : World} {v : Value} {os : List Opt} (h : OS N w v os) : ∀ o ∈ os, W.byt o.data := by
  obtain ⟨ds, _, hB⟩ := h
  intro o ho
  exact BSs.byts hB _ (List.mem_map_of_mem ho)
theorem optsB_byt {os : List Opt} (hk : os.all okO = true) (hd : ∀ o ∈ os, W.byt o.data) : W.byt (optsB os) := by
  intro x hx
  unfold optsB at hx
  obtain ⟨l, hl, hxl⟩ := List.mem_flatten.1 hx
  obtain ⟨o, ho, rfl⟩ := List.mem_map.1 hl
  have h1 := okO_iff.1 (List.all_eq_true.1 hk o ho)
  simp only [optB, List.mem_cons] at hxl
  rcases hxl with rfl | rfl | h
  · omega
  · omega
  · exact hd o ho x h
theorem putL_byt {os : List Opt} (hd : ∀ o ∈ os, W.byt o.data) : W.byt (putL os) := by
  unfold putL
  split
  · rename_i h
    have hk : os.all okO = true := by simp only [putOk, Bool.and_eq_true] at h; exact h.1
    refine byt_app (optsB_byt hk hd) ?_
    intro x hx; rw [(List.mem_replicate.1 hx).2]; omega
  · intro x hx; simp at hx
theorem flat1 (l : List Int) : [l].flatten = l := by simp
theorem chkE_zero {h : Ip4} (hc : chkE h = 0) : badF h = false ∧ putE h.opts = 0 ∧ 20 + ((putL h.opts).length : Int) + h.data.length ≤ 65535 ∧ fragE h.mf h.off h.data.length = 0 := by
  unfold chkE at hc
  cases hb : badF h with
  | true => rw [hb] at hc; simp at hc
  | false =>
    rw [hb] at hc
    simp only [Bool.false_eq_true, if_false] at hc
    by_cases h2 : putE h.opts = 0
    · rw [if_neg (by omega)] at hc
      by_cases h3 : 65535 < 20 + ((putL h.opts).length : Int) + h.data.length
      · rw [if_pos h3] at hc; omega
      · rw [if_neg h3] at hc; exact ⟨rfl, h2, by omega, hc⟩
    · rw [if_pos h2] at hc; omega
theorem bI_bd (b : Bool) : 0 ≤ bI b ∧ bI b ≤ 1 := by cases b <;> decide
theorem hdr12_byt {head tos total id df mf off ttl proto : Int} (h1 : 0 ≤ head ∧ head < 16) (h2 : 0 ≤ tos ∧ tos < 256) (h3 : 0 ≤ total ∧ total < 65536) (h4 : 0 ≤ id ∧ id < 65536) (h5 : 0 ≤ df ∧ df ≤ 1) (h6 : 0 ≤ mf ∧ mf ≤ 1) (h7 : 0 ≤ off ∧ off < 8192) (h8 : 0 ≤ ttl ∧ ttl < 256) (h9 : 0 ≤ proto ∧ proto < 256) :
    byt (hdr12 head tos total id df mf off ttl proto) := by
  intro x hx
  simp only [hdr12, List.mem_cons, List.not_mem_nil, or_false] at hx
  rcases hx with rfl | rfl | rfl | rfl | rfl | rfl | rfl | rfl | rfl | rfl | rfl | rfl <;> omega
theorem top10_byt {h : Ip4} (hc : chkE h = 0) : byt (top10 h) := by
  obtain ⟨h1, h2, h3, h4⟩ := chkE_zero hc
  have hb := badF_off h1
  have hl := putL_len h.opts
  have hdf := bI_bd h.df
  have hmf := bI_bd h.mf
  exact hdr12_byt (by omega) (by omega) (by omega) (by omega) hdf hmf (by omega) (by omega) (by omega)
theorem top10_bits {h : Ip4} (hc : chkE h = 0) : bitsB (top10 h) = strm W4 [4, (20 + ((putL h.opts).length : Int)) / 4, h.tos, 20 + ((putL h.opts).length : Int) + (h.data.length : Int), h.id, 0, bI h.df, bI h.mf, h.off / 8, h.ttl, h.proto, 0] := by
  obtain ⟨h1, h2, h3, h4⟩ := chkE_zero hc
  have hb := badF_off h1
  have hl := putL_len h.opts
  exact hdr12_bits (by omega) (by omega) (by omega) (bI_bd _) (bI_bd _) (by omega)
theorem top10_pack {h : Ip4} (hc : chkE h = 0) : ∀ i, i < W4.length → 0 ≤ [4, (20 + ((putL h.opts).length : Int)) / 4, h.tos, 20 + ((putL h.opts).length : Int) + (h.data.length : Int), h.id, 0, bI h.df, bI h.mf, h.off / 8, h.ttl, h.proto, 0].getD i 0 ∧ [4, (20 + ((putL h.opts).length : Int)) / 4, h.tos, 20 + ((putL h.opts).length : Int) + (h.data.length : Int), h.id, 0, bI h.df, bI h.mf, h.off / 8, h.ttl, h.proto, 0].getD i 0 < 2 ^ (W4.getD i 0).toNat := by
  obtain ⟨h1, h2, h3, h4⟩ := chkE_zero hc
  have hb := badF_off h1
  have hl := putL_len h.opts
  have hdf := bI_bd h.df
  have hmf := bI_bd h.mf
  intro i hi
  rcases i with _ | _ | _ | _ | _ | _ | _ | _ | _ | _ | _ | _ | i
  all_goals first
    | (simp only [W4, List.getD_cons_zero, List.getD_cons_succ, Int.toNat_one, Int.reducePow, Int.reduceToNat]; omega)
    | (exfalso; simp at hi; omega)
theorem headB_len (h : Ip4) : (headB h).length = 20 + (putL h.opts).length := by simp [headB, top10, hdr12, four4]; omega
theorem headB_byt {h : Ip4} (hc : chkE h = 0) (h1 : h.src.ok) (h2 : h.dst.ok) (hd : ∀ o ∈ h.opts, W.byt o.data) : byt (headB h) :=
  byt_app (byt_app (byt_app (top10_byt hc) (four4_byt h1)) (four4_byt h2)) (putL_byt hd)
theorem sumC_bd {h : Ip4} (hb : byt (headB h)) : 0 ≤ sumC h ∧ sumC h ≤ 65535 := by
  have hw := wsum_bd (headB h) true hb
  have hf := foldS_bd hw.1
  have e : sumS (headB h) = foldS (wsum true (headB h)) := rfl
  unfold sumC; omega

set_option maxHeartbeats 1000000 in
theorem c30 (h : Ip4) (o d : Value) (w : World) (hO : OS [] w o h.opts) (hd : BS [] w d h.data) (hol : h.opts.length ≤ 1099511627776) (hdl : h.data.length ≤ 1099511627776) (hs : h.src.ok) (ht : h.dst.ok) (hg : GV [] w 0 130 (W4.map i64)) :
    CallsV Tryd.prog 30 #[.agg (encIp4 h o d).toArray] w (fun r w' => ∃ u, r = .tuple #[u, .int .i64 (chkE h)] ∧ FB w w' u (serL h)) := by
  refine enter Tryd.func30 rfl Tryd.ntmps30 (l := [(0, [], _)]) rfl rfl ?_
  have S := St.refl [] w
  have hpl := putL_len h.opts
  have hpb := putL_byt hO.byt
  refine Run.seq ?_
  refine Run.region ?_
  refine boxA rfl S rfl ?_
  intro b1 w1 hb1 S B_
  refine asg1 rfl rfl ?_
  refine asg1 rfl rfl ?_
  refine Ro.nil ?_
  refine Nrm.code ?_
  refine Run.seq ?_
  refine Run.seq ?_
  refine Run.region ?_
  refine ldW rfl T28 S (i := 0) rfl rfl rfl rfl rfl ?_
  refine calg (vs := [_]) rfl ⟨⟨_, _, rfl, rfl⟩, trivial⟩ k32 rfl (fun hG => c32 _ _ _ _ (hO.now S) (hd.now S) hol hdl) ?_
  intro w2 B_; have S := S.call B_
  refine asg1 rfl rfl ?_
  refine Ro.nil ?_
  refine Nrm.code ?_
  refine Run.seq ?_
  refine Run.region ?_
  refine mv1 rfl rfl ?_
  refine neq1 rfl rfl rfl ?_
  refine Ro.nil ?_
  refine Nrm.code ?_
  refine Run.cond rfl (fun hc2 => ?_) (fun hc2 => ?_)
  ·
    try simp only [Bool.or_eq_true, Bool.and_eq_true, Bool.or_eq_false_iff, Bool.and_eq_false_iff, decide_eq_true_eq, decide_eq_false_iff_not, Bool.not_eq_true', Bool.not_eq_false', Bool.not_eq_true, Bool.not_eq_false] at hc2
    refine Run.seq ?_
    refine Run.region ?_
    refine mv1 rfl rfl ?_
    refine asg1 rfl rfl ?_
    refine asg1 rfl rfl ?_
    refine Ro.nil ?_
    refine Nrm.code ?_
    refine Run.ret ?_
    refine Rt.two rfl rfl rfl ?_
    exact ⟨.slice none 0 0, rfl, by rw [serL, if_neg hc2]; exact (S.nilB).toFB (i := 0) rfl⟩
  ·
    try simp only [Bool.or_eq_true, Bool.and_eq_true, Bool.or_eq_false_iff, Bool.and_eq_false_iff, decide_eq_true_eq, decide_eq_false_iff_not, Bool.not_eq_true', Bool.not_eq_false', Bool.not_eq_true, Bool.not_eq_false] at hc2
    replace hc2 : chkE h = 0 := by omega
    have hcz := chkE_zero hc2
    have hbo := badF_off hcz.1
    have hXb := headB_byt hc2 hs ht hO.byt
    have hXl := headB_len h
    have hcb := sumC_bd hXb
    have hXl2 : (top10 h ++ four4 h.src ++ four4 h.dst ++ putL h.opts).length = 20 + (putL h.opts).length := hXl
    have hXl3 : ((top10 h ++ four4 h.src ++ four4 h.dst ++ putL h.opts).set (Int.toNat 10) (sumC h / 256)).length = 20 + (putL h.opts).length := by rw [List.length_set]; exact hXl
    have hXl4 : (((top10 h ++ four4 h.src ++ four4 h.dst ++ putL h.opts).set (Int.toNat 10) (sumC h / 256)).set (Int.toNat 11) (sumC h % 256)).length = 20 + (putL h.opts).length := by rw [List.length_set]; exact hXl3
    have h4s : (four4 h.src).length = 4 := rfl
    have h4d : (four4 h.dst).length = 4 := rfl
    have ht10 : (top10 h).length = 12 := rfl
    refine Run.skip ?_
    refine Nrm.code ?_
    refine Run.seq ?_
    refine Run.region ?_
    refine fld (o' := 41) rfl fo28_9 rfl rfl rfl rfl ?_
    refine ld1 rfl T25 S (i := 0) rfl rfl rfl rfl rfl ?_
    refine call (vs := [_]) ⟨⟨_, _, rfl, rfl⟩, trivial⟩ k94 rfl (c94 _ _ _ (hO.now S) (by omega)) ?_
    rintro _ w3 ⟨u5, rfl, hF⟩
    have S := S.fb hF
    refine mv1 rfl rfl ?_
    refine extr1 rfl rfl rfl ?_
    refine extr1 rfl rfl rfl ?_
    refine asg1 rfl rfl ?_
    refine asg1 rfl rfl ?_
    refine Ro.nil ?_
    refine Nrm.code ?_
    refine Run.seq ?_
    refine Run.region ?_
    refine mv1 rfl rfl ?_
    refine lenS rfl (S.slI (i := 0) rfl) Tryd.underlying26 rfl rfl rfl ?_
    refine add1 rfl rfl rfl (w64 (by omega)) ?_
    refine asg1 rfl rfl ?_
    refine Ro.nil ?_
    refine Nrm.code ?_
    refine Run.seq ?_
    refine Run.region ?_
    refine ldG hg S T130 rfl rfl ?_
    refine alc T130 S rfl ?_
    intro b8 w4 hb8 S B_
    refine stW rfl rfl T130 rfl rfl (by simp [Value.oneCell']) S (i := 0) rfl rfl ?_
    intro w5 S
    refine Ro.nil ?_
    refine Nrm.code ?_
    refine Run.seq ?_
    refine Run.held (by kernel_rfl) S [true, true, true] rfl rfl rfl ?_
    intro w6 BD S SC
    refine Ho.take (i := 0) SC Pp.body rfl (by kernel_rfl) (by kernel_rfl) (by kernel_rfl) rfl rfl ?_
    refine qslAT rfl Tryd.underlying130 T3 rfl rfl rfl (i2 := none) trivial rfl (by decide) (by decide) ?_
    refine Ho.back ?_
    refine Ho.take (i := 1) SC Pp.body rfl (by kernel_rfl) (by kernel_rfl) (by kernel_rfl) rfl rfl ?_
    refine qmv rfl rfl rfl rfl ?_
    refine Ho.back ?_
    refine Ho.take (i := 2) SC Pp.body rfl (by kernel_rfl) (by kernel_rfl) (by kernel_rfl) rfl rfl ?_
    refine qquo rfl rfl rfl rfl rfl rfl (fun _ => by decide) (fun _ => q64 (by omega)) ?_
    refine Ho.back ?_
    refine Ho.take (i := 3) SC Pp.body rfl (by kernel_rfl) (by kernel_rfl) (by kernel_rfl) rfl rfl ?_
    refine qfld (o' := 0) rfl fo28_0 rfl rfl rfl rfl ?_
    refine Ho.back ?_
    refine Ho.take (i := 4) SC Pp.body rfl (by kernel_rfl) (by kernel_rfl) (by kernel_rfl) rfl rfl ?_
    refine qld1 rfl T3 (fun _ S => S) (i := 2) rfl rfl rfl rfl rfl ?_
    refine Ho.back ?_
    refine Ho.take (i := 5) SC Pp.body rfl (by kernel_rfl) (by kernel_rfl) (by kernel_rfl) rfl rfl ?_
    refine qmv rfl rfl rfl rfl ?_
    refine Ho.back ?_
    refine Ho.take (i := 6) SC Pp.body rfl (by kernel_rfl) (by kernel_rfl) (by kernel_rfl) rfl rfl ?_
    refine qfld (o' := 42) rfl fo28_10 rfl rfl rfl rfl ?_
    refine Ho.back ?_
    refine Ho.take (i := 7) SC Pp.body rfl (by kernel_rfl) (by kernel_rfl) (by kernel_rfl) rfl rfl ?_
    refine qld1 rfl T26 (fun _ S => S) (i := 2) rfl rfl rfl rfl rfl ?_
    refine Ho.back ?_
    refine Ho.take (i := 8) SC Pp.body rfl (by kernel_rfl) (by kernel_rfl) (by kernel_rfl) rfl rfl ?_
    refine qlenS rfl hd.2 Tryd.underlying26 rfl rfl rfl ?_
    refine Ho.back ?_
    refine Ho.take (i := 9) SC Pp.body rfl (by kernel_rfl) (by kernel_rfl) (by kernel_rfl) rfl rfl ?_
    refine qadd rfl rfl rfl rfl rfl rfl (fun _ => w64 (by omega)) ?_
    refine Ho.back ?_
    refine Ho.take (i := 10) SC Pp.body rfl (by kernel_rfl) (by kernel_rfl) (by kernel_rfl) rfl rfl ?_
    refine qfld (o' := 1) rfl fo28_1 rfl rfl rfl rfl ?_
    refine Ho.back ?_
    refine Ho.take (i := 11) SC Pp.body rfl (by kernel_rfl) (by kernel_rfl) (by kernel_rfl) rfl rfl ?_
    refine qld1 rfl T3 (fun _ S => S) (i := 2) rfl rfl rfl rfl rfl ?_
    refine Ho.back ?_
    refine Ho.take (i := 12) SC Pp.body rfl (by kernel_rfl) (by kernel_rfl) (by kernel_rfl) rfl rfl ?_
    refine qfld (o' := 2) rfl fo28_2 rfl rfl rfl rfl ?_
    refine Ho.back ?_
    refine Ho.take (i := 13) SC Pp.body rfl (by kernel_rfl) (by kernel_rfl) (by kernel_rfl) rfl rfl ?_
    refine qld1 rfl T4 (fun _ S => S) (i := 2) rfl rfl rfl rfl rfl ?_
    refine Ho.back ?_
    refine Ho.take (i := 15) SC Pp.body rfl (by kernel_rfl) (by kernel_rfl) (by kernel_rfl) rfl rfl ?_
    refine qfld (o' := 3) rfl fo28_3 rfl rfl rfl rfl ?_
    refine Ho.back ?_
    refine Ho.take (i := 16) SC Pp.body rfl (by kernel_rfl) (by kernel_rfl) (by kernel_rfl) rfl rfl ?_
    refine qld1 rfl T4 (fun _ S => S) (i := 2) rfl rfl rfl rfl rfl ?_
    refine Ho.back ?_
    refine Ho.take (i := 18) SC Pp.body rfl (by kernel_rfl) (by kernel_rfl) (by kernel_rfl) rfl rfl ?_
    refine qfld (o' := 4) rfl fo28_4 rfl rfl rfl rfl ?_
    refine Ho.back ?_
    refine Ho.take (i := 19) SC Pp.body rfl (by kernel_rfl) (by kernel_rfl) (by kernel_rfl) rfl rfl ?_
    refine qld1 rfl T3 (fun _ S => S) (i := 2) rfl rfl rfl rfl rfl ?_
    refine Ho.back ?_
    refine Ho.take (i := 20) SC Pp.body rfl (by kernel_rfl) (by kernel_rfl) (by kernel_rfl) rfl rfl ?_
    refine qquo rfl rfl rfl rfl rfl rfl (fun _ => by decide) (fun _ => q64 (by omega)) ?_
    refine Ho.back ?_
    refine Ho.take (i := 21) SC Pp.body rfl (by kernel_rfl) (by kernel_rfl) (by kernel_rfl) rfl rfl ?_
    refine qfld (o' := 5) rfl fo28_5 rfl rfl rfl rfl ?_
    refine Ho.back ?_
    refine Ho.take (i := 22) SC Pp.body rfl (by kernel_rfl) (by kernel_rfl) (by kernel_rfl) rfl rfl ?_
    refine qld1 rfl T3 (fun _ S => S) (i := 2) rfl rfl rfl rfl rfl ?_
    refine Ho.back ?_
    refine Ho.take (i := 23) SC Pp.body rfl (by kernel_rfl) (by kernel_rfl) (by kernel_rfl) rfl rfl ?_
    refine qfld (o' := 6) rfl fo28_6 rfl rfl rfl rfl ?_
    refine Ho.back ?_
    refine Ho.take (i := 24) SC Pp.body rfl (by kernel_rfl) (by kernel_rfl) (by kernel_rfl) rfl rfl ?_
    refine qld1 rfl T3 (fun _ S => S) (i := 2) rfl rfl rfl rfl rfl ?_
    refine Ho.back ?_
    refine Ho.one (i := 14) (by kernel_rfl) rfl rfl ?_
    refine calg (vs := [_]) rfl ⟨⟨_, _, rfl, rfl⟩, trivial⟩ k96 rfl (fun hG => c96 _ _) ?_
    intro w7 B_; have S := S.call B_
    have SC := S.pick [true, true, true] rfl
    refine Ho.on SC ?_
    refine Ho.one (i := 17) (by kernel_rfl) rfl rfl ?_
    refine calg (vs := [_]) rfl ⟨⟨_, _, rfl, rfl⟩, trivial⟩ k96 rfl (fun hG => c96 _ _) ?_
    intro w8 B_; have S := S.call B_
    have SC := S.pick [true, true, true] rfl
    refine Ho.on SC ?_
    refine Ho.one (i := 25) (by kernel_rfl) rfl rfl ?_
    refine bsl e132 (qs := [(_, _), (_, _), (_, _), (_, _), (_, _), (_, _), (_, _), (_, _), (_, _), (_, _), (_, _), (_, _)]) ⟨⟨_, _, _, rfl, rfl, rfl, rfl, by simp [Value.cells]⟩, ⟨_, _, _, rfl, rfl, rfl, rfl, by simp [Value.cells]⟩, ⟨_, _, _, rfl, rfl, rfl, rfl, by simp [Value.cells]⟩, ⟨_, _, _, rfl, rfl, rfl, rfl, by simp [Value.cells]⟩, ⟨_, _, _, rfl, rfl, rfl, rfl, by simp [Value.cells]⟩, ⟨_, _, _, rfl, rfl, rfl, rfl, by simp [Value.cells]⟩, ⟨_, _, _, rfl, rfl, rfl, rfl, by simp [Value.cells]⟩, ⟨_, _, _, rfl, rfl, rfl, rfl, by simp [Value.cells]⟩, ⟨_, _, _, rfl, rfl, rfl, rfl, by simp [Value.cells]⟩, ⟨_, _, _, rfl, rfl, rfl, rfl, by simp [Value.cells]⟩, ⟨_, _, _, rfl, rfl, rfl, rfl, by simp [Value.cells]⟩, ⟨_, _, _, rfl, rfl, rfl, rfl, by simp [Value.cells]⟩, trivial⟩ rfl rfl rfl rfl S ?_
    intro u53 w9 S B_
    have SC := S.pick [false, true, true, true] rfl
    refine Ho.on SC ?_
    refine Ho.one (i := 26) (by kernel_rfl) rfl rfl ?_
    refine call (vs := [_, _]) ⟨⟨_, _, rfl, rfl⟩, ⟨_, _, rfl, rfl⟩, trivial⟩ k95 rfl (c95 _ _ W4 [4, (20 + ((putL h.opts).length : Int)) / 4, h.tos, 20 + ((putL h.opts).length : Int) + (h.data.length : Int), h.id, 0, bI h.df, bI h.mf, h.off / 8, h.ttl, h.proto, 0] _ (S.varSl (i := 1) (m := 12) (sz := 1) rfl rfl rfl (by decide)) (S.isI (l := [4, (20 + ((putL h.opts).length : Int)) / 4, h.tos, 20 + ((putL h.opts).length : Int) + (h.data.length : Int), h.id, 0, bI h.df, bI h.mf, h.off / 8, h.ttl, h.proto, 0]) (i := 0) rfl) (by decide) (by decide) (by decide) rfl (top10_pack hc2)) ?_
    rintro _ w10 ⟨u9, out, rfl, hF, hpk⟩
    have hout : out = top10 h := bits_of_eq hpk.1 hpk.2.1 hpk.2.2.2 rfl (top10_byt hc2) (top10_bits hc2)
    subst hout
    have S := S.fb hF
    have SC := S.pick [false, false, true, true, true] rfl
    refine Ho.on SC ?_
    refine Ho.take (i := 27) SC Pp.body rfl (by kernel_rfl) (by kernel_rfl) (by kernel_rfl) rfl rfl ?_
    refine qmv rfl rfl rfl rfl ?_
    refine Ho.back ?_
    refine Ho.take (i := 28) SC Pp.body rfl (by kernel_rfl) (by kernel_rfl) (by kernel_rfl) rfl rfl ?_
    refine qextr rfl rfl rfl rfl rfl ?_
    refine Ho.back ?_
    refine Ho.take (i := 29) SC Pp.body rfl (by kernel_rfl) (by kernel_rfl) (by kernel_rfl) rfl rfl ?_
    refine qextr rfl rfl rfl rfl rfl ?_
    refine Ho.back ?_
    refine Ho.take (i := 30) SC Pp.body rfl (by kernel_rfl) (by kernel_rfl) (by kernel_rfl) rfl rfl ?_
    refine qasg rfl rfl rfl rfl ?_
    refine Ho.back ?_
    refine Ho.take (i := 31) SC Pp.body rfl (by kernel_rfl) (by kernel_rfl) (by kernel_rfl) rfl rfl ?_
    refine qasg rfl rfl rfl rfl ?_
    refine Ho.back ?_
    refine Ho.done (by kernel_rfl) ?_
    refine Nrm.code ?_
    refine Run.seq ?_
    refine Run.seq ?_
    refine Run.region ?_
    refine mv1 rfl rfl ?_
    refine neq1 rfl rfl rfl ?_
    refine Ro.nil ?_
    refine Nrm.code ?_
    refine Run.cond rfl (fun hc8 => ?_) (fun hc8 => ?_)
    ·
      try simp only [Bool.or_eq_true, Bool.and_eq_true, Bool.or_eq_false_iff, Bool.and_eq_false_iff, decide_eq_true_eq, decide_eq_false_iff_not, Bool.not_eq_true', Bool.not_eq_false', Bool.not_eq_true, Bool.not_eq_false] at hc8
      exfalso; exact hc8 rfl
    ·
      try simp only [Bool.or_eq_true, Bool.and_eq_true, Bool.or_eq_false_iff, Bool.and_eq_false_iff, decide_eq_true_eq, decide_eq_false_iff_not, Bool.not_eq_true', Bool.not_eq_false', Bool.not_eq_true, Bool.not_eq_false] at hc8
      refine Run.skip ?_
      refine Nrm.code ?_
      refine Run.seq ?_
      refine Run.region ?_
      refine mv1 rfl rfl ?_
      refine fld (o' := 7) rfl fo28_7 rfl rfl rfl rfl ?_
      refine fld (o' := 8) rfl fo24_1 rfl rfl rfl rfl ?_
      refine slAT rfl Tryd.underlying22 T5 rfl rfl rfl (i2 := some 4) ⟨_, _, _, rfl, rfl⟩ rfl (by decide) (by decide) ?_
      refine apB rfl rfl e26 (b := four4 h.src) ⟨four4_byt hs, S.varSl (i := 4) (m := 4) (sz := 1) rfl rfl rfl (by decide)⟩ S (i := 0) rfl rfl (fun _ => rfl) (by first | omega | (simp only [List.length_nil, List.length_append, List.length_cons]; omega)) ?_
      intro v64 w11 S B_
      refine asg1 rfl rfl ?_
      refine Ro.nil ?_
      refine Nrm.code ?_
      refine Run.seq ?_
      refine Run.region ?_
      refine mv1 rfl rfl ?_
      refine fld (o' := 24) rfl fo28_8 rfl rfl rfl rfl ?_
      refine fld (o' := 25) rfl fo24_1 rfl rfl rfl rfl ?_
      refine slAT rfl Tryd.underlying22 T5 rfl rfl rfl (i2 := some 4) ⟨_, _, _, rfl, rfl⟩ rfl (by decide) (by decide) ?_
      refine apB rfl rfl e26 (b := four4 h.dst) ⟨four4_byt ht, S.varSl (i := 4) (m := 4) (sz := 1) rfl rfl rfl (by decide)⟩ S (i := 0) rfl rfl (fun _ => rfl) (by first | omega | (simp only [List.length_nil, List.length_append, List.length_cons]; omega)) ?_
      intro v69 w12 S B_
      refine asg1 rfl rfl ?_
      refine Ro.nil ?_
      refine Nrm.code ?_
      refine Run.seq ?_
      refine Run.region ?_
      refine mv1 rfl rfl ?_
      refine mv1 rfl rfl ?_
      refine apB rfl rfl e26 (S.bsI (i := 3) rfl hpb) S (i := 0) rfl rfl (fun _ => rfl) (by first | omega | (simp only [List.length_nil, List.length_append, List.length_cons]; omega)) ?_
      intro v72 w13 S B_
      refine asg1 rfl rfl ?_
      refine Ro.nil ?_
      refine Nrm.code ?_
      refine Run.seq ?_
      refine Run.region ?_
      refine mv1 rfl rfl ?_
      refine bsl e102 (qs := [(_, _)]) ⟨⟨_, _, _, rfl, rfl, cells1 (S.slI (i := 0) rfl).one, rfl, List.cons_ne_nil _ _⟩, trivial⟩ rfl rfl rfl rfl S ?_
      intro u74 w14 S B_
      have hck : CallsD Tryd.prog 97 #[u74] w14 (.int .i64 (sumC h)) := by
        have := c97 u74 [headB h] w14 ⟨[v72], S.slI (i := 0) rfl, S.bsI (i := 1) rfl hXb, trivial⟩ (by rw [flat1]; omega) (by simp)
        rw [flat1] at this
        exact this
      refine calg (vs := [_]) rfl ⟨⟨_, _, rfl, rfl⟩, trivial⟩ k97 rfl (fun hG => hck) ?_
      intro w15 B_; have S := S.call B_
      refine asg1 rfl rfl ?_
      refine Ro.nil ?_
      refine Nrm.code ?_
      refine Run.seq ?_
      refine Run.region ?_
      refine mv1 rfl rfl ?_
      refine mv1 rfl rfl ?_
      refine mv1 rfl rfl ?_
      refine shr rfl rfl rfl rfl rfl rfl (fun _ => by decide) (fun _ => sh8 _) ?_
      refine cvi1 rfl rfl Tryd.underlying3 Tryd.underlying5 (w8of (y := sumC h / 256) rfl (by omega)) ?_
      refine mv1 rfl rfl ?_
      refine cvi1 rfl rfl Tryd.underlying3 Tryd.underlying5 (w8m (sumC h)) ?_
      refine ixa rfl rfl (S.slI (i := 1) rfl) e26 rfl rfl rfl rfl (fun _ => by omega) ?_
      refine stB rfl rfl T5 S (i := 1) rfl (by omega) rfl ?_
      intro w16 S
      refine ixa rfl rfl (S.slI (i := 1) rfl) e26 rfl rfl rfl rfl (fun _ => by omega) ?_
      refine stB rfl rfl T5 S (i := 1) rfl (by omega) rfl ?_
      intro w17 S
      refine Ro.nil ?_
      refine Nrm.code ?_
      refine Run.seq ?_
      refine Run.region ?_
      refine mv1 rfl rfl ?_
      refine fld (o' := 42) rfl fo28_10 rfl rfl rfl rfl ?_
      refine ld1 rfl T26 S (i := 5) rfl rfl rfl rfl rfl ?_
      refine apB rfl rfl e26 (hd.now S) S (i := 1) rfl rfl (fun _ => rfl) (by first | omega | (simp only [List.length_nil, List.length_append, List.length_cons]; omega)) ?_
      intro v88 w18 S B_
      refine asg1 rfl rfl ?_
      refine asg1 rfl rfl ?_
      refine Ro.nil ?_
      refine Nrm.code ?_
      refine Run.ret ?_
      refine Rt.two rfl rfl rfl ?_
      exact ⟨_, by rw [hc2], by rw [serL, if_pos hc2]; exact S.toFB (i := 1) rfl⟩

end Go.Proofs.YtkahmepenjhcpaaDoor.W

/- Plain facts on headers: what the fields of a datagram's first twelve bytes are. No program walked here; no statement of the seat is proved here. -/
namespace Go.Proofs.YtkahmepenjhcpaaDoor.W
set_option linter.unusedVariables false
set_option linter.unusedSimpArgs false

def totI (b : List Int) : Int := b.getD 2 0 * 256 + b.getD 3 0
def offW (b : List Int) : Int := b.getD 6 0 % 32 * 256 + b.getD 7 0
theorem fv16 {l : List Int} (j : Nat) (h : ∀ k, 0 ≤ l.getD k 0 ∧ l.getD k 0 < 256) : fv l (8 * j) 16 = l.getD j 0 * 256 + l.getD (j + 1) 0 := by
  have e := fv_add l (8 * j) 8 8
  rw [show (8 + 8 : Nat) = 16 from rfl, fv8 j (h j), show 8 * j + 8 = 8 * (j + 1) from by omega, fv8 (j + 1) (h (j + 1))] at e
  rw [e]; rfl
theorem fields_ip4 {b : List Int} (h : ∀ k, 0 ≤ b.getD k 0 ∧ b.getD k 0 < 256) : fieldsS b 0 [4, 4, 8, 16, 16, 1, 1, 1, 13, 8, 8, 16] =
    [b.getD 0 0 / 16, b.getD 0 0 % 16, b.getD 1 0, totI b, b.getD 4 0 * 256 + b.getD 5 0, b.getD 6 0 / 128, b.getD 6 0 / 64 % 2, b.getD 6 0 / 32 % 2, offW b, b.getD 8 0, b.getD 9 0, b.getD 10 0 * 256 + b.getD 11 0] := by
  have e0 := fvp (l := b) 0 0 4 (h 0) (by omega)
  have e1 := fvp (l := b) 0 4 4 (h 0) (by omega)
  have e2 := fv8 (l := b) 1 (h 1)
  have e3 := fv16 (l := b) 2 h
  have e4 := fv16 (l := b) 4 h
  have e5 := fvp (l := b) 6 0 1 (h 6) (by omega)
  have e6 := fvp (l := b) 6 1 1 (h 6) (by omega)
  have e7 := fvp (l := b) 6 2 1 (h 6) (by omega)
  have e8 := fv_add b 51 5 8
  have e8a := fvp (l := b) 6 3 5 (h 6) (by omega)
  have e8b := fv8 (l := b) 7 (h 7)
  have e9 := fv8 (l := b) 8 (h 8)
  have e10 := fv8 (l := b) 9 (h 9)
  have e11 := fv16 (l := b) 10 h
  have g0 := h 0
  have g6 := h 6
  simp only [Nat.mul_zero, Nat.add_zero, Nat.zero_add, Nat.reduceMul, Nat.reduceAdd, Nat.reduceSub, Int.reducePow] at e0 e1 e2 e3 e4 e5 e6 e7 e8 e8a e8b e9 e10 e11
  simp only [fieldsS, Int.reduceToNat, Int.toNat_one, Nat.zero_add, Nat.reduceAdd, e0, e1, e2, e3, e4, e5, e6, e7, e8, e8a, e8b, e9, e10, e11, Int.ediv_one, List.cons.injEq, and_true, totI, offW]
  refine ⟨?_, trivial, trivial, trivial, trivial, ?_⟩ <;> omega
end Go.Proofs.YtkahmepenjhcpaaDoor.W

/- Contracts: a datagram is read. No statement of the seat is proved here. -/
namespace Go.Proofs.YtkahmepenjhcpaaDoor.W
open Go
set_option linter.unusedSimpArgs false
set_option linter.unusedVariables false


def hdN (b : List Int) : Nat := (4 * (b.getD 0 0 % 16)).toNat
def totN (b : List Int) : Nat := (totI b).toNat
def optB4 (b : List Int) : List Int := (b.drop 20).take (hdN b - 20)
def parE (b : List Int) : Int :=
  if 65535 < b.length then 2 else if b.length < 20 then 60 else if b.getD 0 0 / 16 ≠ 4 then 61 else if hdN b < 20 ∨ b.length < hdN b then 62 else if totN b < hdN b ∨ b.length < totN b then 63
  else if sumS (b.take (hdN b)) ≠ 65535 then 64 else if optE (optB4 b) ≠ 0 then optE (optB4 b) else fragE (decide (b.getD 6 0 / 32 % 2 = 1)) (8 * offW b) ((totN b : Int) - hdN b)
def ip0 : IP := ⟨0, fun _ => 0⟩
def h00 : Ip4 := ⟨0, 0, false, false, 0, 0, 0, ip0, ip0, [], []⟩
def parG (b : List Int) : Ip4 := ⟨b.getD 1 0, b.getD 4 0 * 256 + b.getD 5 0, decide (b.getD 6 0 / 64 % 2 = 1), decide (b.getD 6 0 / 32 % 2 = 1), 8 * offW b, b.getD 8 0, b.getD 9 0, ipOf b 12, ipOf b 16, optL (optB4 b), (b.drop (hdN b)).take (totN b - hdN b)⟩
def parH (b : List Int) : Ip4 := if parE b = 0 then parG b else h00
theorem parH_err {b : List Int} {e : Int} (he : parE b = e) (h0 : e ≠ 0) : parH b = h00 := by unfold parH; rw [if_neg (by omega)]
theorem byt_at {b : List Int} (h : byt b) : ∀ k, 0 ≤ b.getD k 0 ∧ b.getD k 0 < 256 := byt_getD h
theorem getD_cut {b : List Int} {i m k : Nat} (hk : k < m) : ((b.drop i).take m).getD k 0 = b.getD (i + k) 0 := by
  rw [List.getD_eq_getElem?_getD, List.getElem?_take_of_lt hk, List.getElem?_drop, List.getD_eq_getElem?_getD]
theorem ipOf_cut (b : List Int) (i : Nat) : ipOf ((b.drop i).take (i + 4 - i)) 0 = ipOf b i := by
  have e : i + 4 - i = 4 := by omega
  unfold ipOf
  rw [e, getD_cut (by omega), getD_cut (by omega), getD_cut (by omega), getD_cut (by omega)]
  rfl
theorem c103at (v : Value) (l b : List Int) (k : Nat) (w : World) (hl : BS [] w v l) (h4 : l.length = 4) (e : ipOf l 0 = ipOf b k) : CallsD Tryd.prog 103 #[v] w (.agg (encIP (ipOf b k)).toArray) := e ▸ c103 v l w hl h4
theorem optE_le (b : List Int) : optE b = 0 ∨ optE b = 65 := by unfold optE; split <;> (try split) <;> simp

set_option maxHeartbeats 1000000 in
theorem c33 (v : Value) (b : List Int) (w : World) (hb : BS [] w v b) (hg : GV [] w 0 130 (W4.map i64)) :
    CallsV Tryd.prog 33 #[v] w (fun r w' => ∃ o d vs, r = .tuple #[.agg (encIp4 (parH b) o d).toArray, .int .i64 (parE b)] ∧ FO w w' o (parH b).opts vs ∧ ∀ N w1, BS N w1 v b → OSs N w1 vs (parH b).opts ∧ BS N w1 d (parH b).data) := by
  refine enter Tryd.func33 rfl Tryd.ntmps33 (l := [(0, [], _)]) rfl rfl ?_
  have S := St.refl [] w
  have hB := byt_at hb.1
  have hfl := fields_ip4 hB
  have g0 := hB 0
  have g2 := hB 2
  have g3 := hB 3
  have g6 := hB 6
  have g7 := hB 7
  have hH : 4 * (b.getD 0 0 % 16) = (hdN b : Int) := by unfold hdN; omega
  have hT : totI b = (totN b : Int) := by unfold totN totI; omega
  have hTb : totN b < 65536 := by unfold totN totI; omega
  have hHb : hdN b ≤ 60 := by omega
  rw [hT] at hfl
  have hwb : 0 ≤ offW b ∧ offW b < 8192 := by unfold offW; omega
  have hoe := optE_le (optB4 b)
  have ho4 : optE (optB4 b) = optE ((b.drop 20).take (hdN b - 20)) := rfl
  refine Run.seq ?_
  refine Run.region ?_
  refine alc T28 S rfl ?_
  intro b2 w1 hb2 S B_
  refine asg1 rfl rfl ?_
  refine Ro.nil ?_
  refine Nrm.code ?_
  refine Run.seq ?_
  refine Run.block ?_
  refine Run.seq ?_
  refine Run.region ?_
  refine mv1 rfl rfl ?_
  refine lenS rfl hb.2 Tryd.underlying26 rfl rfl rfl ?_
  refine gtr1 rfl rfl rfl ?_
  refine asg1 rfl rfl ?_
  refine Ro.nil ?_
  refine Nrm.code ?_
  refine Run.cond rfl (fun hc1 => ?_) (fun hc1 => ?_)
  ·
    try simp only [Bool.or_eq_true, Bool.and_eq_true, Bool.or_eq_false_iff, Bool.and_eq_false_iff, decide_eq_true_eq, decide_eq_false_iff_not, Bool.not_eq_true', Bool.not_eq_false', Bool.not_eq_true, Bool.not_eq_false] at hc1
    refine Run.seq ?_
    refine Run.region ?_
    refine bld B28 (qs := []) trivial rfl rfl rfl ?_
    refine stW rfl rfl T28 rfl rfl (by simp [Value.oneCell']) S (i := 0) rfl rfl ?_
    intro w2 S
    refine asg1 rfl rfl ?_
    refine Ro.nil ?_
    refine Nrm.code ?_
    refine Run.ret ?_
    refine Rt.cell2 rfl rfl rfl T28 S (i := 0) rfl rfl ?_
    have he : parE b = 2 := by
      unfold parE
      rw [if_pos (by omega)]
    exact ⟨.slice none 0 0, .slice none 0 0, [], by rw [parH_err he (by omega), he]; rfl, by rw [parH_err he (by omega)]; exact (S.nilO).toFO (i := 0) rfl, fun _ _ _ => by rw [parH_err he (by omega)]; exact ⟨trivial, BS.nil _ _⟩⟩
  ·
    try simp only [Bool.or_eq_true, Bool.and_eq_true, Bool.or_eq_false_iff, Bool.and_eq_false_iff, decide_eq_true_eq, decide_eq_false_iff_not, Bool.not_eq_true', Bool.not_eq_false', Bool.not_eq_true, Bool.not_eq_false] at hc1
    refine Run.seq ?_
    refine Run.region ?_
    refine mv1 rfl rfl ?_
    refine lenS rfl hb.2 Tryd.underlying26 rfl rfl rfl ?_
    refine lss1 rfl rfl rfl ?_
    refine asg1 rfl rfl ?_
    refine Ro.nil ?_
    refine Nrm.code ?_
    refine Run.cond rfl (fun hc3 => ?_) (fun hc3 => ?_)
    ·
      try simp only [Bool.or_eq_true, Bool.and_eq_true, Bool.or_eq_false_iff, Bool.and_eq_false_iff, decide_eq_true_eq, decide_eq_false_iff_not, Bool.not_eq_true', Bool.not_eq_false', Bool.not_eq_true, Bool.not_eq_false] at hc3
      refine Run.seq ?_
      refine Run.region ?_
      refine bld B28 (qs := []) trivial rfl rfl rfl ?_
      refine stW rfl rfl T28 rfl rfl (by simp [Value.oneCell']) S (i := 0) rfl rfl ?_
      intro w2 S
      refine asg1 rfl rfl ?_
      refine Ro.nil ?_
      refine Nrm.code ?_
      refine Run.ret ?_
      refine Rt.cell2 rfl rfl rfl T28 S (i := 0) rfl rfl ?_
      have he : parE b = 60 := by
        unfold parE
        rw [if_neg (by omega), if_pos (by omega)]
      exact ⟨.slice none 0 0, .slice none 0 0, [], by rw [parH_err he (by omega), he]; rfl, by rw [parH_err he (by omega)]; exact (S.nilO).toFO (i := 0) rfl, fun _ _ _ => by rw [parH_err he (by omega)]; exact ⟨trivial, BS.nil _ _⟩⟩
    ·
      try simp only [Bool.or_eq_true, Bool.and_eq_true, Bool.or_eq_false_iff, Bool.and_eq_false_iff, decide_eq_true_eq, decide_eq_false_iff_not, Bool.not_eq_true', Bool.not_eq_false', Bool.not_eq_true, Bool.not_eq_false] at hc3
      refine Run.skip ?_
      refine Nrm.blk ?_
      refine Nrm.code ?_
      refine Run.seq ?_
      refine Run.region ?_
      refine ldG hg S T130 rfl rfl ?_
      refine alc T130 S rfl ?_
      intro b4 w2 hb4 S B_
      refine stW rfl rfl T130 rfl rfl (by simp [Value.oneCell']) S (i := 0) rfl rfl ?_
      intro w3 S
      refine Ro.nil ?_
      refine Nrm.code ?_
      refine Run.seq ?_
      refine Run.region ?_
      refine mv1 rfl rfl ?_
      refine slAT rfl Tryd.underlying130 T3 rfl rfl rfl (i2 := none) trivial rfl (by decide) (by decide) ?_
      refine call (vs := [_, _, _]) ⟨⟨_, _, rfl, rfl⟩, ⟨_, _, rfl, rfl⟩, ⟨_, _, rfl, rfl⟩, trivial⟩ k101 rfl (c101 _ _ _ W4 _ (hb.now S) (S.varSl (i := 0) (m := 12) (sz := 1) rfl rfl rfl (by decide)) (by decide) (by decide) (by decide) (by rw [show W4.sum / 8 = 12 from by decide]; omega) (by omega)) ?_
      rintro _ w4 ⟨u5, rfl, hF⟩
      rw [hfl] at hF
      have S := S.fi hF
      refine mv1 rfl rfl ?_
      refine extr1 rfl rfl rfl ?_
      refine extr1 rfl rfl rfl ?_
      refine extr1 rfl rfl rfl ?_
      refine asg1 rfl rfl ?_
      refine asg1 rfl rfl ?_
      refine asg1 rfl rfl ?_
      refine Ro.nil ?_
      refine Nrm.code ?_
      refine Run.seq ?_
      refine Run.draw (by kernel_rfl) (by kernel_rfl) S ?_
      refine qmv rfl rfl rfl rfl ?_
      refine qixa rfl rfl (S.slI (i := 0) rfl) e132 rfl rfl rfl rfl (fun _ => by first | omega | (simp only [List.length_cons, List.length_nil]; omega)) ?_
      refine qldR rfl (fun _ S => S) (i := 0) rfl T3 rfl rfl rfl (fun _ => rfl) ?_
      refine qmul rfl rfl rfl rfl rfl rfl (fun _ => (show IntKind.i64.wrap (4 * (b.getD 0 0 % 16)) = (hdN b : Int) from by rw [w64 (by omega)]; exact hH)) ?_
      refine qmv rfl rfl rfl rfl ?_
      refine qixa rfl rfl (S.slI (i := 0) rfl) e132 rfl rfl rfl rfl (fun _ => by first | omega | (simp only [List.length_cons, List.length_nil]; omega)) ?_
      refine qldR rfl (fun _ S => S) (i := 0) rfl T3 rfl rfl rfl (fun _ => rfl) ?_
      refine qasg rfl rfl rfl rfl ?_
      refine qasg rfl rfl rfl rfl ?_
      refine Qo.nil (fun w5 S => ?_)
      refine Nrm.code ?_
      refine Run.seq ?_
      refine Run.block ?_
      refine Run.seq ?_
      refine Run.region ?_
      refine mv1 rfl rfl ?_
      refine ixa rfl rfl (S.slI (i := 0) rfl) e132 rfl rfl rfl rfl (fun _ => by first | omega | (simp only [List.length_cons, List.length_nil]; omega)) ?_
      refine ldE rfl (S.slI (i := 0) rfl) (St.refl [] _) T3 rfl rfl rfl (fun _ => rfl) ?_
      refine neq1 rfl rfl rfl ?_
      refine asg1 rfl rfl ?_
      refine Ro.nil ?_
      refine Nrm.code ?_
      refine Run.cond rfl (fun hc8 => ?_) (fun hc8 => ?_)
      ·
        try simp only [Bool.or_eq_true, Bool.and_eq_true, Bool.or_eq_false_iff, Bool.and_eq_false_iff, decide_eq_true_eq, decide_eq_false_iff_not, Bool.not_eq_true', Bool.not_eq_false', Bool.not_eq_true, Bool.not_eq_false] at hc8
        refine Run.seq ?_
        refine Run.region ?_
        refine bld B28 (qs := []) trivial rfl rfl rfl ?_
        refine stW rfl rfl T28 rfl rfl (by simp [Value.oneCell']) S (i := 2) rfl rfl ?_
        intro w6 S
        refine asg1 rfl rfl ?_
        refine Ro.nil ?_
        refine Nrm.code ?_
        refine Run.ret ?_
        refine Rt.cell2 rfl rfl rfl T28 S (i := 2) rfl rfl ?_
        have he : parE b = 61 := by
          unfold parE
          rw [if_neg (by omega), if_neg (by omega), if_pos (by omega)]
        exact ⟨.slice none 0 0, .slice none 0 0, [], by rw [parH_err he (by omega), he]; rfl, by rw [parH_err he (by omega)]; exact (S.nilO).toFO (i := 0) rfl, fun _ _ _ => by rw [parH_err he (by omega)]; exact ⟨trivial, BS.nil _ _⟩⟩
      ·
        try simp only [Bool.or_eq_true, Bool.and_eq_true, Bool.or_eq_false_iff, Bool.and_eq_false_iff, decide_eq_true_eq, decide_eq_false_iff_not, Bool.not_eq_true', Bool.not_eq_false', Bool.not_eq_true, Bool.not_eq_false] at hc8
        refine Run.seq ?_
        refine Run.region ?_
        refine mv1 rfl rfl ?_
        refine lss1 rfl rfl rfl ?_
        refine mv1 rfl rfl ?_
        refine mv rfl rfl rfl rfl ?_
        refine mv rfl rfl rfl rfl ?_
        refine lenS rfl hb.2 Tryd.underlying26 rfl rfl rfl ?_
        refine gtr rfl rfl rfl rfl rfl rfl ?_
        refine pkO rfl rfl rfl rfl rfl rfl ?_
        refine asg1 rfl rfl ?_
        refine Ro.nil ?_
        refine Nrm.code ?_
        refine Run.cond rfl (fun hc10 => ?_) (fun hc10 => ?_)
        ·
          try simp only [Bool.or_eq_true, Bool.and_eq_true, Bool.or_eq_false_iff, Bool.and_eq_false_iff, decide_eq_true_eq, decide_eq_false_iff_not, Bool.not_eq_true', Bool.not_eq_false', Bool.not_eq_true, Bool.not_eq_false] at hc10
          refine Run.seq ?_
          refine Run.region ?_
          refine bld B28 (qs := []) trivial rfl rfl rfl ?_
          refine stW rfl rfl T28 rfl rfl (by simp [Value.oneCell']) S (i := 2) rfl rfl ?_
          intro w6 S
          refine asg1 rfl rfl ?_
          refine Ro.nil ?_
          refine Nrm.code ?_
          refine Run.ret ?_
          refine Rt.cell2 rfl rfl rfl T28 S (i := 2) rfl rfl ?_
          have he : parE b = 62 := by
            unfold parE
            rw [if_neg (by omega), if_neg (by omega), if_neg (by omega), if_pos (by omega)]
          exact ⟨.slice none 0 0, .slice none 0 0, [], by rw [parH_err he (by omega), he]; rfl, by rw [parH_err he (by omega)]; exact (S.nilO).toFO (i := 0) rfl, fun _ _ _ => by rw [parH_err he (by omega)]; exact ⟨trivial, BS.nil _ _⟩⟩
        ·
          try simp only [Bool.or_eq_true, Bool.and_eq_true, Bool.or_eq_false_iff, Bool.and_eq_false_iff, decide_eq_true_eq, decide_eq_false_iff_not, Bool.not_eq_true', Bool.not_eq_false', Bool.not_eq_true, Bool.not_eq_false] at hc10
          refine Run.seq ?_
          refine Run.region ?_
          refine mv1 rfl rfl ?_
          refine mv1 rfl rfl ?_
          refine lss1 rfl rfl rfl ?_
          refine mv1 rfl rfl ?_
          refine mv rfl rfl rfl rfl ?_
          refine mv rfl rfl rfl rfl ?_
          refine lenS rfl hb.2 Tryd.underlying26 rfl rfl rfl ?_
          refine gtr rfl rfl rfl rfl rfl rfl ?_
          refine pkO rfl rfl rfl rfl rfl rfl ?_
          refine asg1 rfl rfl ?_
          refine Ro.nil ?_
          refine Nrm.code ?_
          refine Run.cond rfl (fun hc12 => ?_) (fun hc12 => ?_)
          ·
            try simp only [Bool.or_eq_true, Bool.and_eq_true, Bool.or_eq_false_iff, Bool.and_eq_false_iff, decide_eq_true_eq, decide_eq_false_iff_not, Bool.not_eq_true', Bool.not_eq_false', Bool.not_eq_true, Bool.not_eq_false] at hc12
            refine Run.seq ?_
            refine Run.region ?_
            refine bld B28 (qs := []) trivial rfl rfl rfl ?_
            refine stW rfl rfl T28 rfl rfl (by simp [Value.oneCell']) S (i := 2) rfl rfl ?_
            intro w6 S
            refine asg1 rfl rfl ?_
            refine Ro.nil ?_
            refine Nrm.code ?_
            refine Run.ret ?_
            refine Rt.cell2 rfl rfl rfl T28 S (i := 2) rfl rfl ?_
            have he : parE b = 63 := by
              unfold parE
              rw [if_neg (by omega), if_neg (by omega), if_neg (by omega), if_neg (by omega), if_pos (by omega)]
            exact ⟨.slice none 0 0, .slice none 0 0, [], by rw [parH_err he (by omega), he]; rfl, by rw [parH_err he (by omega)]; exact (S.nilO).toFO (i := 0) rfl, fun _ _ _ => by rw [parH_err he (by omega)]; exact ⟨trivial, BS.nil _ _⟩⟩
          ·
            try simp only [Bool.or_eq_true, Bool.and_eq_true, Bool.or_eq_false_iff, Bool.and_eq_false_iff, decide_eq_true_eq, decide_eq_false_iff_not, Bool.not_eq_true', Bool.not_eq_false', Bool.not_eq_true, Bool.not_eq_false] at hc12
            refine Run.seq ?_
            refine Run.region ?_
            refine mv1 rfl rfl ?_
            refine mv1 rfl rfl ?_
            refine slC (lo := 0) (hi := hdN b) (mx := capV v) rfl hb e26 rfl rfl rfl (i1 := none) (i2 := some (hdN b)) (i3 := none) trivial ⟨_, _, _, rfl, rfl⟩ trivial rfl rfl rfl (fun h => by first | rfl | cases h) (fun hG => by (try simp [allT] at hG); have hcap := hb.cap; omega) ?_
            have hv68 := hb.cut (lo := 0) (hi := hdN b) (mx := capV v) (by have hcap := hb.cap; omega)
            refine bsl e102 (qs := [(_, _)]) ⟨⟨_, _, _, rfl, rfl, cells1 hv68.one, rfl, List.cons_ne_nil _ _⟩, trivial⟩ rfl rfl rfl rfl S ?_
            intro u69 w6 S B_
            have hgd : CallsD Tryd.prog 36 #[u69] w6 (.bool (decide (sumS (b.take (hdN b)) = 65535))) := by
              have := c36 u69 [b.take (hdN b)] w6 ⟨[_], S.slI (i := 0) rfl, hv68.now S, trivial⟩ (by rw [flat1, List.length_take]; omega) (by simp)
              rw [flat1] at this
              exact this
            refine calg (vs := [_]) rfl ⟨⟨_, _, rfl, rfl⟩, trivial⟩ k36 rfl (fun hG => hgd) ?_
            intro w7 B_; have S := S.call B_
            refine nt1 rfl rfl ?_
            refine asg1 rfl rfl ?_
            refine Ro.nil ?_
            refine Nrm.code ?_
            refine Run.cond rfl (fun hc14 => ?_) (fun hc14 => ?_)
            ·
              try simp only [Bool.or_eq_true, Bool.and_eq_true, Bool.or_eq_false_iff, Bool.and_eq_false_iff, decide_eq_true_eq, decide_eq_false_iff_not, Bool.not_eq_true', Bool.not_eq_false', Bool.not_eq_true, Bool.not_eq_false] at hc14
              refine Run.seq ?_
              refine Run.region ?_
              refine bld B28 (qs := []) trivial rfl rfl rfl ?_
              refine stW rfl rfl T28 rfl rfl (by simp [Value.oneCell']) S (i := 3) rfl rfl ?_
              intro w8 S
              refine asg1 rfl rfl ?_
              refine Ro.nil ?_
              refine Nrm.code ?_
              refine Run.ret ?_
              refine Rt.cell2 rfl rfl rfl T28 S (i := 3) rfl rfl ?_
              have he : parE b = 64 := by
                unfold parE
                rw [if_neg (by omega), if_neg (by omega), if_neg (by omega), if_neg (by omega), if_neg (by omega), if_pos hc14]
              exact ⟨.slice none 0 0, .slice none 0 0, [], by rw [parH_err he (by omega), he]; rfl, by rw [parH_err he (by omega)]; exact (S.nilO).toFO (i := 0) rfl, fun _ _ _ => by rw [parH_err he (by omega)]; exact ⟨trivial, BS.nil _ _⟩⟩
            ·
              try simp only [Bool.or_eq_true, Bool.and_eq_true, Bool.or_eq_false_iff, Bool.and_eq_false_iff, decide_eq_true_eq, decide_eq_false_iff_not, Bool.not_eq_true', Bool.not_eq_false', Bool.not_eq_true, Bool.not_eq_false] at hc14
              refine Run.skip ?_
              refine Nrm.blk ?_
              refine Nrm.code ?_
              refine Run.seq ?_
              refine Run.region ?_
              refine mv1 rfl rfl ?_
              refine mv1 rfl rfl ?_
              refine mv1 rfl rfl ?_
              refine slC (lo := 20) (hi := hdN b) (mx := hdN b) rfl hb e26 rfl rfl rfl (i1 := some 20) (i2 := some (hdN b)) (i3 := some (hdN b)) ⟨_, _, _, rfl, rfl⟩ ⟨_, _, _, rfl, rfl⟩ ⟨_, _, _, rfl, rfl⟩ rfl rfl rfl (fun h => by first | rfl | cases h) (fun hG => by (try simp [allT] at hG); have hcap := hb.cap; omega) ?_
              have hv77 := hb.cut (lo := 20) (hi := hdN b) (mx := hdN b) (by have hcap := hb.cap; omega)
              refine call (vs := [_]) ⟨⟨_, _, rfl, rfl⟩, trivial⟩ k44 rfl (c44 _ _ _ (hv77.now S)) ?_
              rintro _ w8 ⟨u10, vs, rfl, hF, hwin⟩
              have S := S.fo hF
              refine mv1 rfl rfl ?_
              refine extr1 rfl rfl rfl ?_
              refine extr1 rfl rfl rfl ?_
              refine asg1 rfl rfl ?_
              refine asg1 rfl rfl ?_
              refine Ro.nil ?_
              refine Nrm.code ?_
              refine Run.seq ?_
              refine Run.seq ?_
              refine Run.region ?_
              refine mv1 rfl rfl ?_
              refine eql1 rfl rfl rfl ?_
              refine Ro.nil ?_
              refine Nrm.code ?_
              refine Run.cond rfl (fun hc17 => ?_) (fun hc17 => ?_)
              ·
                try simp only [Bool.or_eq_true, Bool.and_eq_true, Bool.or_eq_false_iff, Bool.and_eq_false_iff, decide_eq_true_eq, decide_eq_false_iff_not, Bool.not_eq_true', Bool.not_eq_false', Bool.not_eq_true, Bool.not_eq_false] at hc17
                refine Run.draw (by kernel_rfl) (by kernel_rfl) S ?_
                refine qmv rfl rfl rfl rfl ?_
                refine qixa rfl rfl (S.slI (i := 2) rfl) e132 rfl rfl rfl rfl (fun _ => by first | omega | (simp only [List.length_cons, List.length_nil]; omega)) ?_
                refine qldR rfl (fun _ S => S) (i := 2) rfl T3 rfl rfl rfl (fun _ => rfl) ?_
                refine qcal (vs := [_]) rfl ⟨⟨_, _, rfl, rfl⟩, trivial⟩ k102 rfl (fun _ _ S B => S.call B) (fun hG w_ S => c102 _ _) ?_
                refine qmv rfl rfl rfl rfl ?_
                refine qixa rfl rfl (S.slI (i := 2) rfl) e132 rfl rfl rfl rfl (fun _ => by first | omega | (simp only [List.length_cons, List.length_nil]; omega)) ?_
                refine qldR rfl (fun _ S => S) (i := 2) rfl T3 rfl rfl rfl (fun _ => rfl) ?_
                refine qmul rfl rfl rfl rfl rfl rfl (fun _ => w64 (by omega)) ?_
                refine qmv rfl rfl rfl rfl ?_
                refine qmv rfl rfl rfl rfl ?_
                refine qsub rfl rfl rfl rfl rfl rfl (fun _ => w64 (by omega)) ?_
                refine qcal (vs := [_, _, _]) rfl ⟨⟨_, _, rfl, rfl⟩, ⟨_, _, rfl, rfl⟩, ⟨_, _, rfl, rfl⟩, trivial⟩ k100 rfl (fun _ _ S B => S.call B) (fun hG w_ S => c100 _ _ _ _ (by omega)) ?_
                refine qasg rfl rfl rfl rfl ?_
                refine Qo.nil (fun w9 S => ?_)
                refine Nrm.code ?_
                refine Run.seq ?_
                refine Run.seq ?_
                refine Run.region ?_
                refine mv1 rfl rfl ?_
                refine neq1 rfl rfl rfl ?_
                refine Ro.nil ?_
                refine Nrm.code ?_
                refine Run.cond rfl (fun hc19 => ?_) (fun hc19 => ?_)
                ·
                  try simp only [Bool.or_eq_true, Bool.and_eq_true, Bool.or_eq_false_iff, Bool.and_eq_false_iff, decide_eq_true_eq, decide_eq_false_iff_not, Bool.not_eq_true', Bool.not_eq_false', Bool.not_eq_true, Bool.not_eq_false] at hc19
                  refine Run.seq ?_
                  refine Run.region ?_
                  refine bld B28 (qs := []) trivial rfl rfl rfl ?_
                  refine mv1 rfl rfl ?_
                  refine stW rfl rfl T28 rfl rfl (by simp [Value.oneCell']) S (i := 4) rfl rfl ?_
                  intro w10 S
                  refine asg1 rfl rfl ?_
                  refine Ro.nil ?_
                  refine Nrm.code ?_
                  refine Run.ret ?_
                  refine Rt.cell2 rfl rfl rfl T28 S (i := 4) rfl rfl ?_
                  have hfr := fragE_or (decide (b.getD 6 0 / 32 % 2 = 1)) (8 * offW b) ((totN b : Int) - hdN b)
                  have he : parE b = fragE (decide (b.getD 6 0 / 32 % 2 = 1)) (8 * offW b) ((totN b : Int) - hdN b) := by
                    unfold parE
                    rw [if_neg (by omega), if_neg (by omega), if_neg (by omega), if_neg (by omega), if_neg (by omega), if_neg (by omega), if_neg (by omega)]
                  exact ⟨.slice none 0 0, .slice none 0 0, [], by rw [parH_err he (by omega), he]; rfl, by rw [parH_err he (by omega)]; exact (S.nilO).toFO (i := 0) rfl, fun _ _ _ => by rw [parH_err he (by omega)]; exact ⟨trivial, BS.nil _ _⟩⟩
                ·
                  try simp only [Bool.or_eq_true, Bool.and_eq_true, Bool.or_eq_false_iff, Bool.and_eq_false_iff, decide_eq_true_eq, decide_eq_false_iff_not, Bool.not_eq_true', Bool.not_eq_false', Bool.not_eq_true, Bool.not_eq_false] at hc19
                  refine Run.skip ?_
                  refine Nrm.code ?_
                  refine Run.seq ?_
                  refine Run.held (by kernel_rfl) S [true, true, true, true, true] rfl rfl rfl ?_
                  intro w10 BD S SC
                  refine Ho.take (i := 0) SC Pp.body rfl (by kernel_rfl) (by kernel_rfl) (by kernel_rfl) rfl rfl ?_
                  refine qmv rfl rfl rfl rfl ?_
                  refine Ho.back ?_
                  refine Ho.take (i := 1) SC Pp.body rfl (by kernel_rfl) (by kernel_rfl) (by kernel_rfl) rfl rfl ?_
                  refine qixa rfl rfl (S.slI (i := 2) rfl) e132 rfl rfl rfl rfl (fun _ => by first | omega | (simp only [List.length_cons, List.length_nil]; omega)) ?_
                  refine Ho.back ?_
                  refine Ho.take (i := 2) SC Pp.body rfl (by kernel_rfl) (by kernel_rfl) (by kernel_rfl) rfl rfl ?_
                  refine qldR rfl (fun _ S => S) (i := 2) rfl T3 rfl rfl rfl (fun _ => rfl) ?_
                  refine Ho.back ?_
                  refine Ho.take (i := 3) SC Pp.body rfl (by kernel_rfl) (by kernel_rfl) (by kernel_rfl) rfl rfl ?_
                  refine qmv rfl rfl rfl rfl ?_
                  refine Ho.back ?_
                  refine Ho.take (i := 4) SC Pp.body rfl (by kernel_rfl) (by kernel_rfl) (by kernel_rfl) rfl rfl ?_
                  refine qixa rfl rfl (S.slI (i := 2) rfl) e132 rfl rfl rfl rfl (fun _ => by first | omega | (simp only [List.length_cons, List.length_nil]; omega)) ?_
                  refine Ho.back ?_
                  refine Ho.take (i := 5) SC Pp.body rfl (by kernel_rfl) (by kernel_rfl) (by kernel_rfl) rfl rfl ?_
                  refine qldR rfl (fun _ S => S) (i := 2) rfl T3 rfl rfl rfl (fun _ => rfl) ?_
                  refine Ho.back ?_
                  refine Ho.take (i := 6) SC Pp.body rfl (by kernel_rfl) (by kernel_rfl) (by kernel_rfl) rfl rfl ?_
                  refine qmv rfl rfl rfl rfl ?_
                  refine Ho.back ?_
                  refine Ho.take (i := 7) SC Pp.body rfl (by kernel_rfl) (by kernel_rfl) (by kernel_rfl) rfl rfl ?_
                  refine qixa rfl rfl (S.slI (i := 2) rfl) e132 rfl rfl rfl rfl (fun _ => by first | omega | (simp only [List.length_cons, List.length_nil]; omega)) ?_
                  refine Ho.back ?_
                  refine Ho.take (i := 8) SC Pp.body rfl (by kernel_rfl) (by kernel_rfl) (by kernel_rfl) rfl rfl ?_
                  refine qldR rfl (fun _ S => S) (i := 2) rfl T3 rfl rfl rfl (fun _ => rfl) ?_
                  refine Ho.back ?_
                  refine Ho.take (i := 10) SC Pp.body rfl (by kernel_rfl) (by kernel_rfl) (by kernel_rfl) rfl rfl ?_
                  refine qmv rfl rfl rfl rfl ?_
                  refine Ho.back ?_
                  refine Ho.take (i := 11) SC Pp.body rfl (by kernel_rfl) (by kernel_rfl) (by kernel_rfl) rfl rfl ?_
                  refine qixa rfl rfl (S.slI (i := 2) rfl) e132 rfl rfl rfl rfl (fun _ => by first | omega | (simp only [List.length_cons, List.length_nil]; omega)) ?_
                  refine Ho.back ?_
                  refine Ho.take (i := 12) SC Pp.body rfl (by kernel_rfl) (by kernel_rfl) (by kernel_rfl) rfl rfl ?_
                  refine qldR rfl (fun _ S => S) (i := 2) rfl T3 rfl rfl rfl (fun _ => rfl) ?_
                  refine Ho.back ?_
                  refine Ho.take (i := 14) SC Pp.body rfl (by kernel_rfl) (by kernel_rfl) (by kernel_rfl) rfl rfl ?_
                  refine qmv rfl rfl rfl rfl ?_
                  refine Ho.back ?_
                  refine Ho.take (i := 15) SC Pp.body rfl (by kernel_rfl) (by kernel_rfl) (by kernel_rfl) rfl rfl ?_
                  refine qixa rfl rfl (S.slI (i := 2) rfl) e132 rfl rfl rfl rfl (fun _ => by first | omega | (simp only [List.length_cons, List.length_nil]; omega)) ?_
                  refine Ho.back ?_
                  refine Ho.take (i := 16) SC Pp.body rfl (by kernel_rfl) (by kernel_rfl) (by kernel_rfl) rfl rfl ?_
                  refine qldR rfl (fun _ S => S) (i := 2) rfl T3 rfl rfl rfl (fun _ => rfl) ?_
                  refine Ho.back ?_
                  refine Ho.take (i := 17) SC Pp.body rfl (by kernel_rfl) (by kernel_rfl) (by kernel_rfl) rfl rfl ?_
                  refine qmul rfl rfl rfl rfl rfl rfl (fun _ => w64 (by omega)) ?_
                  refine Ho.back ?_
                  refine Ho.take (i := 18) SC Pp.body rfl (by kernel_rfl) (by kernel_rfl) (by kernel_rfl) rfl rfl ?_
                  refine qmv rfl rfl rfl rfl ?_
                  refine Ho.back ?_
                  refine Ho.take (i := 19) SC Pp.body rfl (by kernel_rfl) (by kernel_rfl) (by kernel_rfl) rfl rfl ?_
                  refine qixa rfl rfl (S.slI (i := 2) rfl) e132 rfl rfl rfl rfl (fun _ => by first | omega | (simp only [List.length_cons, List.length_nil]; omega)) ?_
                  refine Ho.back ?_
                  refine Ho.take (i := 20) SC Pp.body rfl (by kernel_rfl) (by kernel_rfl) (by kernel_rfl) rfl rfl ?_
                  refine qldR rfl (fun _ S => S) (i := 2) rfl T3 rfl rfl rfl (fun _ => rfl) ?_
                  refine Ho.back ?_
                  refine Ho.take (i := 21) SC Pp.body rfl (by kernel_rfl) (by kernel_rfl) (by kernel_rfl) rfl rfl ?_
                  refine qmv rfl rfl rfl rfl ?_
                  refine Ho.back ?_
                  refine Ho.take (i := 22) SC Pp.body rfl (by kernel_rfl) (by kernel_rfl) (by kernel_rfl) rfl rfl ?_
                  refine qixa rfl rfl (S.slI (i := 2) rfl) e132 rfl rfl rfl rfl (fun _ => by first | omega | (simp only [List.length_cons, List.length_nil]; omega)) ?_
                  refine Ho.back ?_
                  refine Ho.take (i := 23) SC Pp.body rfl (by kernel_rfl) (by kernel_rfl) (by kernel_rfl) rfl rfl ?_
                  refine qldR rfl (fun _ S => S) (i := 2) rfl T3 rfl rfl rfl (fun _ => rfl) ?_
                  refine Ho.back ?_
                  refine Ho.take (i := 24) SC Pp.body rfl (by kernel_rfl) (by kernel_rfl) (by kernel_rfl) rfl rfl ?_
                  refine qmv rfl rfl rfl rfl ?_
                  refine Ho.back ?_
                  refine Ho.two (i := 9) (i' := 26) (by kernel_rfl) rfl rfl rfl rfl ?_ ?_
                  ·
                    refine calg (vs := [_]) rfl ⟨⟨_, _, rfl, rfl⟩, trivial⟩ k102 rfl (fun hG => c102 _ _) ?_
                    intro w11 B_; have S := S.call B_
                    have SC := S.pick [true, true, true, true, true] rfl
                    refine Ho.on SC ?_
                    refine Ho.two (i := 13) (i' := 26) (by kernel_rfl) rfl rfl rfl rfl ?_ ?_
                    ·
                      refine calg (vs := [_]) rfl ⟨⟨_, _, rfl, rfl⟩, trivial⟩ k102 rfl (fun hG => c102 _ _) ?_
                      intro w12 B_; have S := S.call B_
                      have SC := S.pick [true, true, true, true, true] rfl
                      refine Ho.on SC ?_
                      refine Ho.take (i := 25) SC Pp.body rfl (by kernel_rfl) (by kernel_rfl) (by kernel_rfl) rfl rfl ?_
                      refine qbld B28 (qs := [(_, _), (_, _), (_, _), (_, _), (_, _), (_, _), (_, _), (_, _)]) ⟨⟨_, _, _, rfl, rfl, rfl, rfl, by simp [Value.cells]⟩, ⟨_, _, _, rfl, rfl, rfl, rfl, by simp [Value.cells]⟩, ⟨_, _, _, rfl, rfl, rfl, rfl, by simp [Value.cells]⟩, ⟨_, _, _, rfl, rfl, rfl, rfl, by simp [Value.cells]⟩, ⟨_, _, _, rfl, rfl, rfl, rfl, by simp [Value.cells]⟩, ⟨_, _, _, rfl, rfl, rfl, rfl, by simp [Value.cells]⟩, ⟨_, _, _, rfl, rfl, rfl, rfl, by simp [Value.cells]⟩, ⟨_, _, _, rfl, rfl, cells1 (S.slI (i := 0) rfl).one, rfl, List.cons_ne_nil _ _⟩, trivial⟩ rfl rfl rfl ?_
                      refine Ho.back ?_
                      refine Ho.one (i := 26) (by kernel_rfl) rfl rfl ?_
                      refine alc T28 S rfl ?_
                      intro b12 w13 hb12 S B_
                      have SC := S.pick [false, true, true, true, true, true] rfl
                      refine Ho.on SC ?_
                      refine Ho.one (i := 27) (by kernel_rfl) rfl rfl ?_
                      refine stW rfl rfl T28 rfl rfl (one_cons rfl (one_cons rfl (one_cons rfl (one_cons rfl (one_cons rfl (one_cons rfl (one_cons rfl (one_cons rfl (one_cons rfl (one_cons rfl (one_cons rfl (one_cons rfl (one_cons rfl (one_cons rfl (one_cons rfl (one_cons rfl (one_cons rfl (one_cons rfl (one_cons rfl (one_cons rfl (one_cons rfl (one_cons rfl (one_cons rfl (one_cons rfl (one_cons rfl (one_cons rfl (one_cons rfl (one_cons rfl (one_cons rfl (one_cons rfl (one_cons rfl (one_cons rfl (one_cons rfl (one_cons rfl (one_cons rfl (one_cons rfl (one_cons rfl (one_cons rfl (one_cons rfl (one_cons rfl (one_cons rfl (one_cons (S.slI (i := 1) rfl).one (one_cons rfl one_nil))))))))))))))))))))))))))))))))))))))))))) S (i := 0) rfl rfl ?_
                      intro w14 S
                      have SC := S.pick [false, true, true, true, true, true] rfl
                      refine Ho.on SC ?_
                      refine Ho.done (by kernel_rfl) ?_
                      refine Nrm.code ?_
                      refine Run.seq ?_
                      refine Run.held (by kernel_rfl) S [false, true, true, true, true, true] rfl rfl rfl ?_
                      intro w15 BD S SC
                      refine Ho.take (i := 0) SC Pp.body rfl (by kernel_rfl) (by kernel_rfl) (by kernel_rfl) rfl rfl ?_
                      refine qmv rfl rfl rfl rfl ?_
                      refine Ho.back ?_
                      refine Ho.take (i := 1) SC Pp.body rfl (by kernel_rfl) (by kernel_rfl) (by kernel_rfl) rfl rfl ?_
                      have hv126 := hb.cut (lo := 12) (hi := 16) (mx := capV v) (by have hcap := hb.cap; omega)
                      refine qslC (lo := 12) (hi := 16) (mx := capV v) rfl hb e26 rfl rfl rfl (i1 := some 12) (i2 := some 16) (i3 := none) ⟨_, _, _, rfl, rfl⟩ ⟨_, _, _, rfl, rfl⟩ trivial rfl rfl rfl (fun h => by first | rfl | cases h) (fun hG => by (try simp [allT] at hG); have hcap := hb.cap; omega) ?_
                      refine Ho.back ?_
                      refine Ho.take (i := 3) SC Pp.body rfl (by kernel_rfl) (by kernel_rfl) (by kernel_rfl) rfl rfl ?_
                      refine qmv rfl rfl rfl rfl ?_
                      refine Ho.back ?_
                      refine Ho.take (i := 4) SC Pp.body rfl (by kernel_rfl) (by kernel_rfl) (by kernel_rfl) rfl rfl ?_
                      have hv129 := hb.cut (lo := 16) (hi := 20) (mx := capV v) (by have hcap := hb.cap; omega)
                      refine qslC (lo := 16) (hi := 20) (mx := capV v) rfl hb e26 rfl rfl rfl (i1 := some 16) (i2 := some 20) (i3 := none) ⟨_, _, _, rfl, rfl⟩ ⟨_, _, _, rfl, rfl⟩ trivial rfl rfl rfl (fun h => by first | rfl | cases h) (fun hG => by (try simp [allT] at hG); have hcap := hb.cap; omega) ?_
                      refine Ho.back ?_
                      refine Ho.one (i := 2) (by kernel_rfl) rfl rfl ?_
                      refine calg (vs := [_]) rfl ⟨⟨_, _, rfl, rfl⟩, trivial⟩ k103 rfl (fun hG => c103at _ _ b 12 _ (hv126.now S) (by rw [List.length_take, List.length_drop]; omega) (ipOf_cut b 12)) ?_
                      intro w16 B_; have S := S.call B_
                      have SC := S.pick [false, true, true, true, true, true] rfl
                      refine Ho.on SC ?_
                      refine Ho.take (i := 6) SC Pp.body rfl (by kernel_rfl) (by kernel_rfl) (by kernel_rfl) rfl rfl ?_
                      refine qfld (o' := 7) rfl fo28_7 rfl rfl rfl rfl ?_
                      refine Ho.back ?_
                      refine Ho.one (i := 5) (by kernel_rfl) rfl rfl ?_
                      refine calg (vs := [_]) rfl ⟨⟨_, _, rfl, rfl⟩, trivial⟩ k103 rfl (fun hG => c103at _ _ b 16 _ (hv129.now S) (by rw [List.length_take, List.length_drop]; omega) (ipOf_cut b 16)) ?_
                      intro w17 B_; have S := S.call B_
                      have SC := S.pick [false, true, true, true, true, true] rfl
                      refine Ho.on SC ?_
                      refine Ho.one (i := 7) (by kernel_rfl) rfl rfl ?_
                      refine stA rfl rfl T24 rfl (by decide) (encIP_all1 _) S (i := 0) rfl rfl rfl ?_
                      intro w18 S
                      have SC := S.pick [false, true, true, true, true, true] rfl
                      refine Ho.on SC ?_
                      refine Ho.take (i := 8) SC Pp.body rfl (by kernel_rfl) (by kernel_rfl) (by kernel_rfl) rfl rfl ?_
                      refine qfld (o' := 24) rfl fo28_8 rfl rfl rfl rfl ?_
                      refine Ho.back ?_
                      refine Ho.one (i := 9) (by kernel_rfl) rfl rfl ?_
                      refine stA rfl rfl T24 rfl (by decide) (encIP_all1 _) S (i := 0) rfl rfl rfl ?_
                      intro w19 S
                      have SC := S.pick [false, true, true, true, true, true] rfl
                      refine Ho.on SC ?_
                      refine Ho.done (by kernel_rfl) ?_
                      refine Nrm.code ?_
                      refine Run.seq ?_
                      refine Run.region ?_
                      refine mv1 rfl rfl ?_
                      refine mv1 rfl rfl ?_
                      refine mv1 rfl rfl ?_
                      refine mv1 rfl rfl ?_
                      refine slC (lo := hdN b) (hi := totN b) (mx := totN b) rfl hb e26 rfl rfl rfl (i1 := some (hdN b)) (i2 := some (totN b)) (i3 := some (totN b)) ⟨_, _, _, rfl, rfl⟩ ⟨_, _, _, rfl, rfl⟩ ⟨_, _, _, rfl, rfl⟩ rfl rfl rfl (fun h => by first | rfl | cases h) (fun hG => by (try simp [allT] at hG); have hcap := hb.cap; omega) ?_
                      have hv137 := hb.cut (lo := hdN b) (hi := totN b) (mx := totN b) (by have hcap := hb.cap; omega)
                      refine fld (o' := 42) rfl fo28_10 rfl rfl rfl rfl ?_
                      refine st1 rfl rfl T26 hv137.one S (i := 0) rfl rfl rfl ?_
                      intro w20 S
                      refine Ro.nil ?_
                      refine Nrm.code ?_
                      refine Run.seq ?_
                      refine Run.region ?_
                      refine ldW rfl T28 S (i := 0) rfl rfl rfl rfl rfl ?_
                      refine stW rfl rfl T28 rfl rfl (one_cons rfl (one_cons rfl (one_cons rfl (one_cons rfl (one_cons rfl (one_cons rfl (one_cons rfl (one_cons rfl (one_cons rfl (one_cons rfl (one_cons rfl (one_cons rfl (one_cons rfl (one_cons rfl (one_cons rfl (one_cons rfl (one_cons rfl (one_cons rfl (one_cons rfl (one_cons rfl (one_cons rfl (one_cons rfl (one_cons rfl (one_cons rfl (one_cons rfl (one_cons rfl (one_cons rfl (one_cons rfl (one_cons rfl (one_cons rfl (one_cons rfl (one_cons rfl (one_cons rfl (one_cons rfl (one_cons rfl (one_cons rfl (one_cons rfl (one_cons rfl (one_cons rfl (one_cons rfl (one_cons rfl (one_cons (S.slI (i := 1) rfl).one (one_cons hv137.one one_nil))))))))))))))))))))))))))))))))))))))))))) S (i := 5) rfl rfl ?_
                      intro w21 S
                      refine asg1 rfl rfl ?_
                      refine Ro.nil ?_
                      refine Nrm.code ?_
                      refine Run.ret ?_
                      refine Rt.cell2 rfl rfl rfl T28 S (i := 5) rfl rfl ?_
                      have he : parE b = 0 := by
                        unfold parE
                        rw [if_neg (by omega), if_neg (by omega), if_neg (by omega), if_neg (by omega), if_neg (by omega), if_neg (by omega), if_neg (by omega)]
                        omega
                      exact ⟨_, _, vs, by rw [parH, if_pos he, he]; rfl, by rw [parH, if_pos he]; exact (S.pick [false, true, false, false, false, false] rfl).toFO (i := 0) rfl, fun N w1 h1 => by rw [parH, if_pos he]; exact ⟨hwin N w1 (h1.cut (by have := h1.cap; omega)), h1.cut (by have := h1.cap; omega)⟩⟩
                    ·
                      refine alc T28 S rfl ?_
                      intro b12 w12 hb12 S B_
                      have SC := S.pick [false, true, true, true, true, true] rfl
                      refine Ho.on SC ?_
                      refine Ho.one (i := 13) (by kernel_rfl) rfl rfl ?_
                      refine calg (vs := [_]) rfl ⟨⟨_, _, rfl, rfl⟩, trivial⟩ k102 rfl (fun hG => c102 _ _) ?_
                      intro w13 B_; have S := S.call B_
                      have SC := S.pick [false, true, true, true, true, true] rfl
                      refine Ho.on SC ?_
                      refine Ho.take (i := 25) SC Pp.body rfl (by kernel_rfl) (by kernel_rfl) (by kernel_rfl) rfl rfl ?_
                      refine qbld B28 (qs := [(_, _), (_, _), (_, _), (_, _), (_, _), (_, _), (_, _), (_, _)]) ⟨⟨_, _, _, rfl, rfl, rfl, rfl, by simp [Value.cells]⟩, ⟨_, _, _, rfl, rfl, rfl, rfl, by simp [Value.cells]⟩, ⟨_, _, _, rfl, rfl, rfl, rfl, by simp [Value.cells]⟩, ⟨_, _, _, rfl, rfl, rfl, rfl, by simp [Value.cells]⟩, ⟨_, _, _, rfl, rfl, rfl, rfl, by simp [Value.cells]⟩, ⟨_, _, _, rfl, rfl, rfl, rfl, by simp [Value.cells]⟩, ⟨_, _, _, rfl, rfl, rfl, rfl, by simp [Value.cells]⟩, ⟨_, _, _, rfl, rfl, cells1 (S.slI (i := 1) rfl).one, rfl, List.cons_ne_nil _ _⟩, trivial⟩ rfl rfl rfl ?_
                      refine Ho.back ?_
                      refine Ho.one (i := 27) (by kernel_rfl) rfl rfl ?_
                      refine stW rfl rfl T28 rfl rfl (one_cons rfl (one_cons rfl (one_cons rfl (one_cons rfl (one_cons rfl (one_cons rfl (one_cons rfl (one_cons rfl (one_cons rfl (one_cons rfl (one_cons rfl (one_cons rfl (one_cons rfl (one_cons rfl (one_cons rfl (one_cons rfl (one_cons rfl (one_cons rfl (one_cons rfl (one_cons rfl (one_cons rfl (one_cons rfl (one_cons rfl (one_cons rfl (one_cons rfl (one_cons rfl (one_cons rfl (one_cons rfl (one_cons rfl (one_cons rfl (one_cons rfl (one_cons rfl (one_cons rfl (one_cons rfl (one_cons rfl (one_cons rfl (one_cons rfl (one_cons rfl (one_cons rfl (one_cons rfl (one_cons rfl (one_cons (S.slI (i := 1) rfl).one (one_cons rfl one_nil))))))))))))))))))))))))))))))))))))))))))) S (i := 0) rfl rfl ?_
                      intro w14 S
                      have SC := S.pick [false, true, true, true, true, true] rfl
                      refine Ho.on SC ?_
                      refine Ho.done (by kernel_rfl) ?_
                      refine Nrm.code ?_
                      refine Run.seq ?_
                      refine Run.held (by kernel_rfl) S [false, true, true, true, true, true] rfl rfl rfl ?_
                      intro w15 BD S SC
                      refine Ho.take (i := 0) SC Pp.body rfl (by kernel_rfl) (by kernel_rfl) (by kernel_rfl) rfl rfl ?_
                      refine qmv rfl rfl rfl rfl ?_
                      refine Ho.back ?_
                      refine Ho.take (i := 1) SC Pp.body rfl (by kernel_rfl) (by kernel_rfl) (by kernel_rfl) rfl rfl ?_
                      have hv126 := hb.cut (lo := 12) (hi := 16) (mx := capV v) (by have hcap := hb.cap; omega)
                      refine qslC (lo := 12) (hi := 16) (mx := capV v) rfl hb e26 rfl rfl rfl (i1 := some 12) (i2 := some 16) (i3 := none) ⟨_, _, _, rfl, rfl⟩ ⟨_, _, _, rfl, rfl⟩ trivial rfl rfl rfl (fun h => by first | rfl | cases h) (fun hG => by (try simp [allT] at hG); have hcap := hb.cap; omega) ?_
                      refine Ho.back ?_
                      refine Ho.take (i := 3) SC Pp.body rfl (by kernel_rfl) (by kernel_rfl) (by kernel_rfl) rfl rfl ?_
                      refine qmv rfl rfl rfl rfl ?_
                      refine Ho.back ?_
                      refine Ho.take (i := 4) SC Pp.body rfl (by kernel_rfl) (by kernel_rfl) (by kernel_rfl) rfl rfl ?_
                      have hv129 := hb.cut (lo := 16) (hi := 20) (mx := capV v) (by have hcap := hb.cap; omega)
                      refine qslC (lo := 16) (hi := 20) (mx := capV v) rfl hb e26 rfl rfl rfl (i1 := some 16) (i2 := some 20) (i3 := none) ⟨_, _, _, rfl, rfl⟩ ⟨_, _, _, rfl, rfl⟩ trivial rfl rfl rfl (fun h => by first | rfl | cases h) (fun hG => by (try simp [allT] at hG); have hcap := hb.cap; omega) ?_
                      refine Ho.back ?_
                      refine Ho.one (i := 2) (by kernel_rfl) rfl rfl ?_
                      refine calg (vs := [_]) rfl ⟨⟨_, _, rfl, rfl⟩, trivial⟩ k103 rfl (fun hG => c103at _ _ b 12 _ (hv126.now S) (by rw [List.length_take, List.length_drop]; omega) (ipOf_cut b 12)) ?_
                      intro w16 B_; have S := S.call B_
                      have SC := S.pick [false, true, true, true, true, true] rfl
                      refine Ho.on SC ?_
                      refine Ho.take (i := 6) SC Pp.body rfl (by kernel_rfl) (by kernel_rfl) (by kernel_rfl) rfl rfl ?_
                      refine qfld (o' := 7) rfl fo28_7 rfl rfl rfl rfl ?_
                      refine Ho.back ?_
                      refine Ho.one (i := 5) (by kernel_rfl) rfl rfl ?_
                      refine calg (vs := [_]) rfl ⟨⟨_, _, rfl, rfl⟩, trivial⟩ k103 rfl (fun hG => c103at _ _ b 16 _ (hv129.now S) (by rw [List.length_take, List.length_drop]; omega) (ipOf_cut b 16)) ?_
                      intro w17 B_; have S := S.call B_
                      have SC := S.pick [false, true, true, true, true, true] rfl
                      refine Ho.on SC ?_
                      refine Ho.one (i := 7) (by kernel_rfl) rfl rfl ?_
                      refine stA rfl rfl T24 rfl (by decide) (encIP_all1 _) S (i := 0) rfl rfl rfl ?_
                      intro w18 S
                      have SC := S.pick [false, true, true, true, true, true] rfl
                      refine Ho.on SC ?_
                      refine Ho.take (i := 8) SC Pp.body rfl (by kernel_rfl) (by kernel_rfl) (by kernel_rfl) rfl rfl ?_
                      refine qfld (o' := 24) rfl fo28_8 rfl rfl rfl rfl ?_
                      refine Ho.back ?_
                      refine Ho.one (i := 9) (by kernel_rfl) rfl rfl ?_
                      refine stA rfl rfl T24 rfl (by decide) (encIP_all1 _) S (i := 0) rfl rfl rfl ?_
                      intro w19 S
                      have SC := S.pick [false, true, true, true, true, true] rfl
                      refine Ho.on SC ?_
                      refine Ho.done (by kernel_rfl) ?_
                      refine Nrm.code ?_
                      refine Run.seq ?_
                      refine Run.region ?_
                      refine mv1 rfl rfl ?_
                      refine mv1 rfl rfl ?_
                      refine mv1 rfl rfl ?_
                      refine mv1 rfl rfl ?_
                      refine slC (lo := hdN b) (hi := totN b) (mx := totN b) rfl hb e26 rfl rfl rfl (i1 := some (hdN b)) (i2 := some (totN b)) (i3 := some (totN b)) ⟨_, _, _, rfl, rfl⟩ ⟨_, _, _, rfl, rfl⟩ ⟨_, _, _, rfl, rfl⟩ rfl rfl rfl (fun h => by first | rfl | cases h) (fun hG => by (try simp [allT] at hG); have hcap := hb.cap; omega) ?_
                      have hv137 := hb.cut (lo := hdN b) (hi := totN b) (mx := totN b) (by have hcap := hb.cap; omega)
                      refine fld (o' := 42) rfl fo28_10 rfl rfl rfl rfl ?_
                      refine st1 rfl rfl T26 hv137.one S (i := 0) rfl rfl rfl ?_
                      intro w20 S
                      refine Ro.nil ?_
                      refine Nrm.code ?_
                      refine Run.seq ?_
                      refine Run.region ?_
                      refine ldW rfl T28 S (i := 0) rfl rfl rfl rfl rfl ?_
                      refine stW rfl rfl T28 rfl rfl (one_cons rfl (one_cons rfl (one_cons rfl (one_cons rfl (one_cons rfl (one_cons rfl (one_cons rfl (one_cons rfl (one_cons rfl (one_cons rfl (one_cons rfl (one_cons rfl (one_cons rfl (one_cons rfl (one_cons rfl (one_cons rfl (one_cons rfl (one_cons rfl (one_cons rfl (one_cons rfl (one_cons rfl (one_cons rfl (one_cons rfl (one_cons rfl (one_cons rfl (one_cons rfl (one_cons rfl (one_cons rfl (one_cons rfl (one_cons rfl (one_cons rfl (one_cons rfl (one_cons rfl (one_cons rfl (one_cons rfl (one_cons rfl (one_cons rfl (one_cons rfl (one_cons rfl (one_cons rfl (one_cons rfl (one_cons (S.slI (i := 1) rfl).one (one_cons hv137.one one_nil))))))))))))))))))))))))))))))))))))))))))) S (i := 5) rfl rfl ?_
                      intro w21 S
                      refine asg1 rfl rfl ?_
                      refine Ro.nil ?_
                      refine Nrm.code ?_
                      refine Run.ret ?_
                      refine Rt.cell2 rfl rfl rfl T28 S (i := 5) rfl rfl ?_
                      have he : parE b = 0 := by
                        unfold parE
                        rw [if_neg (by omega), if_neg (by omega), if_neg (by omega), if_neg (by omega), if_neg (by omega), if_neg (by omega), if_neg (by omega)]
                        omega
                      exact ⟨_, _, vs, by rw [parH, if_pos he, he]; rfl, by rw [parH, if_pos he]; exact (S.pick [false, true, false, false, false, false] rfl).toFO (i := 0) rfl, fun N w1 h1 => by rw [parH, if_pos he]; exact ⟨hwin N w1 (h1.cut (by have := h1.cap; omega)), h1.cut (by have := h1.cap; omega)⟩⟩
                  ·
                    refine alc T28 S rfl ?_
                    intro b12 w11 hb12 S B_
                    have SC := S.pick [false, true, true, true, true, true] rfl
                    refine Ho.on SC ?_
                    refine Ho.one (i := 9) (by kernel_rfl) rfl rfl ?_
                    refine calg (vs := [_]) rfl ⟨⟨_, _, rfl, rfl⟩, trivial⟩ k102 rfl (fun hG => c102 _ _) ?_
                    intro w12 B_; have S := S.call B_
                    have SC := S.pick [false, true, true, true, true, true] rfl
                    refine Ho.on SC ?_
                    refine Ho.one (i := 13) (by kernel_rfl) rfl rfl ?_
                    refine calg (vs := [_]) rfl ⟨⟨_, _, rfl, rfl⟩, trivial⟩ k102 rfl (fun hG => c102 _ _) ?_
                    intro w13 B_; have S := S.call B_
                    have SC := S.pick [false, true, true, true, true, true] rfl
                    refine Ho.on SC ?_
                    refine Ho.take (i := 25) SC Pp.body rfl (by kernel_rfl) (by kernel_rfl) (by kernel_rfl) rfl rfl ?_
                    refine qbld B28 (qs := [(_, _), (_, _), (_, _), (_, _), (_, _), (_, _), (_, _), (_, _)]) ⟨⟨_, _, _, rfl, rfl, rfl, rfl, by simp [Value.cells]⟩, ⟨_, _, _, rfl, rfl, rfl, rfl, by simp [Value.cells]⟩, ⟨_, _, _, rfl, rfl, rfl, rfl, by simp [Value.cells]⟩, ⟨_, _, _, rfl, rfl, rfl, rfl, by simp [Value.cells]⟩, ⟨_, _, _, rfl, rfl, rfl, rfl, by simp [Value.cells]⟩, ⟨_, _, _, rfl, rfl, rfl, rfl, by simp [Value.cells]⟩, ⟨_, _, _, rfl, rfl, rfl, rfl, by simp [Value.cells]⟩, ⟨_, _, _, rfl, rfl, cells1 (S.slI (i := 1) rfl).one, rfl, List.cons_ne_nil _ _⟩, trivial⟩ rfl rfl rfl ?_
                    refine Ho.back ?_
                    refine Ho.one (i := 27) (by kernel_rfl) rfl rfl ?_
                    refine stW rfl rfl T28 rfl rfl (one_cons rfl (one_cons rfl (one_cons rfl (one_cons rfl (one_cons rfl (one_cons rfl (one_cons rfl (one_cons rfl (one_cons rfl (one_cons rfl (one_cons rfl (one_cons rfl (one_cons rfl (one_cons rfl (one_cons rfl (one_cons rfl (one_cons rfl (one_cons rfl (one_cons rfl (one_cons rfl (one_cons rfl (one_cons rfl (one_cons rfl (one_cons rfl (one_cons rfl (one_cons rfl (one_cons rfl (one_cons rfl (one_cons rfl (one_cons rfl (one_cons rfl (one_cons rfl (one_cons rfl (one_cons rfl (one_cons rfl (one_cons rfl (one_cons rfl (one_cons rfl (one_cons rfl (one_cons rfl (one_cons rfl (one_cons (S.slI (i := 1) rfl).one (one_cons rfl one_nil))))))))))))))))))))))))))))))))))))))))))) S (i := 0) rfl rfl ?_
                    intro w14 S
                    have SC := S.pick [false, true, true, true, true, true] rfl
                    refine Ho.on SC ?_
                    refine Ho.done (by kernel_rfl) ?_
                    refine Nrm.code ?_
                    refine Run.seq ?_
                    refine Run.held (by kernel_rfl) S [false, true, true, true, true, true] rfl rfl rfl ?_
                    intro w15 BD S SC
                    refine Ho.take (i := 0) SC Pp.body rfl (by kernel_rfl) (by kernel_rfl) (by kernel_rfl) rfl rfl ?_
                    refine qmv rfl rfl rfl rfl ?_
                    refine Ho.back ?_
                    refine Ho.take (i := 1) SC Pp.body rfl (by kernel_rfl) (by kernel_rfl) (by kernel_rfl) rfl rfl ?_
                    have hv126 := hb.cut (lo := 12) (hi := 16) (mx := capV v) (by have hcap := hb.cap; omega)
                    refine qslC (lo := 12) (hi := 16) (mx := capV v) rfl hb e26 rfl rfl rfl (i1 := some 12) (i2 := some 16) (i3 := none) ⟨_, _, _, rfl, rfl⟩ ⟨_, _, _, rfl, rfl⟩ trivial rfl rfl rfl (fun h => by first | rfl | cases h) (fun hG => by (try simp [allT] at hG); have hcap := hb.cap; omega) ?_
                    refine Ho.back ?_
                    refine Ho.take (i := 3) SC Pp.body rfl (by kernel_rfl) (by kernel_rfl) (by kernel_rfl) rfl rfl ?_
                    refine qmv rfl rfl rfl rfl ?_
                    refine Ho.back ?_
                    refine Ho.take (i := 4) SC Pp.body rfl (by kernel_rfl) (by kernel_rfl) (by kernel_rfl) rfl rfl ?_
                    have hv129 := hb.cut (lo := 16) (hi := 20) (mx := capV v) (by have hcap := hb.cap; omega)
                    refine qslC (lo := 16) (hi := 20) (mx := capV v) rfl hb e26 rfl rfl rfl (i1 := some 16) (i2 := some 20) (i3 := none) ⟨_, _, _, rfl, rfl⟩ ⟨_, _, _, rfl, rfl⟩ trivial rfl rfl rfl (fun h => by first | rfl | cases h) (fun hG => by (try simp [allT] at hG); have hcap := hb.cap; omega) ?_
                    refine Ho.back ?_
                    refine Ho.one (i := 2) (by kernel_rfl) rfl rfl ?_
                    refine calg (vs := [_]) rfl ⟨⟨_, _, rfl, rfl⟩, trivial⟩ k103 rfl (fun hG => c103at _ _ b 12 _ (hv126.now S) (by rw [List.length_take, List.length_drop]; omega) (ipOf_cut b 12)) ?_
                    intro w16 B_; have S := S.call B_
                    have SC := S.pick [false, true, true, true, true, true] rfl
                    refine Ho.on SC ?_
                    refine Ho.take (i := 6) SC Pp.body rfl (by kernel_rfl) (by kernel_rfl) (by kernel_rfl) rfl rfl ?_
                    refine qfld (o' := 7) rfl fo28_7 rfl rfl rfl rfl ?_
                    refine Ho.back ?_
                    refine Ho.one (i := 5) (by kernel_rfl) rfl rfl ?_
                    refine calg (vs := [_]) rfl ⟨⟨_, _, rfl, rfl⟩, trivial⟩ k103 rfl (fun hG => c103at _ _ b 16 _ (hv129.now S) (by rw [List.length_take, List.length_drop]; omega) (ipOf_cut b 16)) ?_
                    intro w17 B_; have S := S.call B_
                    have SC := S.pick [false, true, true, true, true, true] rfl
                    refine Ho.on SC ?_
                    refine Ho.one (i := 7) (by kernel_rfl) rfl rfl ?_
                    refine stA rfl rfl T24 rfl (by decide) (encIP_all1 _) S (i := 0) rfl rfl rfl ?_
                    intro w18 S
                    have SC := S.pick [false, true, true, true, true, true] rfl
                    refine Ho.on SC ?_
                    refine Ho.take (i := 8) SC Pp.body rfl (by kernel_rfl) (by kernel_rfl) (by kernel_rfl) rfl rfl ?_
                    refine qfld (o' := 24) rfl fo28_8 rfl rfl rfl rfl ?_
                    refine Ho.back ?_
                    refine Ho.one (i := 9) (by kernel_rfl) rfl rfl ?_
                    refine stA rfl rfl T24 rfl (by decide) (encIP_all1 _) S (i := 0) rfl rfl rfl ?_
                    intro w19 S
                    have SC := S.pick [false, true, true, true, true, true] rfl
                    refine Ho.on SC ?_
                    refine Ho.done (by kernel_rfl) ?_
                    refine Nrm.code ?_
                    refine Run.seq ?_
                    refine Run.region ?_
                    refine mv1 rfl rfl ?_
                    refine mv1 rfl rfl ?_
                    refine mv1 rfl rfl ?_
                    refine mv1 rfl rfl ?_
                    refine slC (lo := hdN b) (hi := totN b) (mx := totN b) rfl hb e26 rfl rfl rfl (i1 := some (hdN b)) (i2 := some (totN b)) (i3 := some (totN b)) ⟨_, _, _, rfl, rfl⟩ ⟨_, _, _, rfl, rfl⟩ ⟨_, _, _, rfl, rfl⟩ rfl rfl rfl (fun h => by first | rfl | cases h) (fun hG => by (try simp [allT] at hG); have hcap := hb.cap; omega) ?_
                    have hv137 := hb.cut (lo := hdN b) (hi := totN b) (mx := totN b) (by have hcap := hb.cap; omega)
                    refine fld (o' := 42) rfl fo28_10 rfl rfl rfl rfl ?_
                    refine st1 rfl rfl T26 hv137.one S (i := 0) rfl rfl rfl ?_
                    intro w20 S
                    refine Ro.nil ?_
                    refine Nrm.code ?_
                    refine Run.seq ?_
                    refine Run.region ?_
                    refine ldW rfl T28 S (i := 0) rfl rfl rfl rfl rfl ?_
                    refine stW rfl rfl T28 rfl rfl (one_cons rfl (one_cons rfl (one_cons rfl (one_cons rfl (one_cons rfl (one_cons rfl (one_cons rfl (one_cons rfl (one_cons rfl (one_cons rfl (one_cons rfl (one_cons rfl (one_cons rfl (one_cons rfl (one_cons rfl (one_cons rfl (one_cons rfl (one_cons rfl (one_cons rfl (one_cons rfl (one_cons rfl (one_cons rfl (one_cons rfl (one_cons rfl (one_cons rfl (one_cons rfl (one_cons rfl (one_cons rfl (one_cons rfl (one_cons rfl (one_cons rfl (one_cons rfl (one_cons rfl (one_cons rfl (one_cons rfl (one_cons rfl (one_cons rfl (one_cons rfl (one_cons rfl (one_cons rfl (one_cons rfl (one_cons (S.slI (i := 1) rfl).one (one_cons hv137.one one_nil))))))))))))))))))))))))))))))))))))))))))) S (i := 5) rfl rfl ?_
                    intro w21 S
                    refine asg1 rfl rfl ?_
                    refine Ro.nil ?_
                    refine Nrm.code ?_
                    refine Run.ret ?_
                    refine Rt.cell2 rfl rfl rfl T28 S (i := 5) rfl rfl ?_
                    have he : parE b = 0 := by
                      unfold parE
                      rw [if_neg (by omega), if_neg (by omega), if_neg (by omega), if_neg (by omega), if_neg (by omega), if_neg (by omega), if_neg (by omega)]
                      omega
                    exact ⟨_, _, vs, by rw [parH, if_pos he, he]; rfl, by rw [parH, if_pos he]; exact (S.pick [false, true, false, false, false, false] rfl).toFO (i := 0) rfl, fun N w1 h1 => by rw [parH, if_pos he]; exact ⟨hwin N w1 (h1.cut (by have := h1.cap; omega)), h1.cut (by have := h1.cap; omega)⟩⟩
              ·
                try simp only [Bool.or_eq_true, Bool.and_eq_true, Bool.or_eq_false_iff, Bool.and_eq_false_iff, decide_eq_true_eq, decide_eq_false_iff_not, Bool.not_eq_true', Bool.not_eq_false', Bool.not_eq_true, Bool.not_eq_false] at hc17
                refine Run.skip ?_
                refine Nrm.code ?_
                refine Run.seq ?_
                refine Run.seq ?_
                refine Run.region ?_
                refine mv1 rfl rfl ?_
                refine neq1 rfl rfl rfl ?_
                refine Ro.nil ?_
                refine Nrm.code ?_
                refine Run.cond rfl (fun hc19 => ?_) (fun hc19 => ?_)
                ·
                  try simp only [Bool.or_eq_true, Bool.and_eq_true, Bool.or_eq_false_iff, Bool.and_eq_false_iff, decide_eq_true_eq, decide_eq_false_iff_not, Bool.not_eq_true', Bool.not_eq_false', Bool.not_eq_true, Bool.not_eq_false] at hc19
                  refine Run.seq ?_
                  refine Run.region ?_
                  refine bld B28 (qs := []) trivial rfl rfl rfl ?_
                  refine mv1 rfl rfl ?_
                  refine stW rfl rfl T28 rfl rfl (by simp [Value.oneCell']) S (i := 4) rfl rfl ?_
                  intro w9 S
                  refine asg1 rfl rfl ?_
                  refine Ro.nil ?_
                  refine Nrm.code ?_
                  refine Run.ret ?_
                  refine Rt.cell2 rfl rfl rfl T28 S (i := 4) rfl rfl ?_
                  have he : parE b = optE (optB4 b) := by
                    unfold parE
                    rw [if_neg (by omega), if_neg (by omega), if_neg (by omega), if_neg (by omega), if_neg (by omega), if_neg (by omega), if_pos (show optE (optB4 b) ≠ 0 from hc17)]
                  exact ⟨.slice none 0 0, .slice none 0 0, [], by rw [parH_err he (by omega), he]; rfl, by rw [parH_err he (by omega)]; exact (S.nilO).toFO (i := 0) rfl, fun _ _ _ => by rw [parH_err he (by omega)]; exact ⟨trivial, BS.nil _ _⟩⟩
                ·
                  try simp only [Bool.or_eq_true, Bool.and_eq_true, Bool.or_eq_false_iff, Bool.and_eq_false_iff, decide_eq_true_eq, decide_eq_false_iff_not, Bool.not_eq_true', Bool.not_eq_false', Bool.not_eq_true, Bool.not_eq_false] at hc19
                  exfalso; omega

end Go.Proofs.YtkahmepenjhcpaaDoor.W

/- Contracts: datagrams compared. No statement of the seat is proved here. -/
namespace Go.Proofs.YtkahmepenjhcpaaDoor.W
open Go
set_option linter.unusedSimpArgs false
set_option linter.unusedVariables false


def sameOs (a b : List Opt) : Bool := decide (a.map Opt.kind = b.map Opt.kind) && decide (a.map Opt.data = b.map Opt.data)
theorem opt_ext {a b : Opt} (h1 : a.kind = b.kind) (h2 : a.data = b.data) : a = b := by cases a; cases b; simp_all
theorem sameOs_iff {a b : List Opt} : sameOs a b = true ↔ a = b := by
  simp only [sameOs, Bool.and_eq_true, decide_eq_true_eq]
  constructor
  · rintro ⟨h1, h2⟩
    have hl : a.length = b.length := by have := congrArg List.length h1; simpa using this
    refine List.ext_getElem hl (fun i h h' => opt_ext ?_ ?_)
    · have e := congrArg (fun l : List Int => l[i]?) h1
      simpa [h, h'] using e
    · have e := congrArg (fun l : List (List Int) => l[i]?) h2
      simpa [h, h'] using e
  · intro h; rw [h]; exact ⟨rfl, rfl⟩
theorem sameOs_no {a b : List Opt} (h : a ≠ b) : sameOs a b = false := by
  cases hs : sameOs a b with
  | false => rfl
  | true => exact absurd (sameOs_iff.1 hs) h
def diffH (a b : Ip4) : Bool := ((((((((decide (a.tos ≠ b.tos) || decide (a.id ≠ b.id)) || !(a.df == b.df)) || !(a.mf == b.mf)) || decide (a.off ≠ b.off)) || decide (a.ttl ≠ b.ttl)) || decide (a.proto ≠ b.proto)) || !sameB a.src b.src) || !sameB a.dst b.dst)
def sameH (a b : Ip4) : Bool := !diffH a b && (sameOs a.opts b.opts && decide (a.data = b.data))

set_option maxHeartbeats 1000000 in
theorem c46 (v u : Value) (a b : List Opt) (w : World) (hO : OS [] w v a) (hP : OS [] w u b) (hl : a.length ≤ 1099511627776) :
    CallsD Tryd.prog 46 #[v, u] w (.bool (sameOs a b)) := by
  refine enter Tryd.func46 rfl Tryd.ntmps46 (l := [(0, [], _), (1, [], _)]) rfl rfl ?_
  have S := St.refl [] w
  obtain ⟨ds, hOS, hOB⟩ := hO
  obtain ⟨es, hPS, hPB⟩ := hP
  refine Run.seq ?_
  refine Run.region ?_
  refine asg1 rfl rfl ?_
  refine Ro.nil ?_
  refine Nrm.code ?_
  refine Run.seq ?_
  refine Run.seq ?_
  refine Run.region ?_
  refine mv1 rfl rfl ?_
  refine lenS rfl hOS Tryd.underlying25 rfl rfl rfl ?_
  refine mv1 rfl rfl ?_
  refine lenS rfl hPS Tryd.underlying25 rfl rfl rfl ?_
  refine neq1 rfl rfl rfl ?_
  refine Ro.nil ?_
  refine Nrm.code ?_
  refine Run.cond rfl (fun hc1 => ?_) (fun hc1 => ?_)
  ·
    try simp only [Bool.or_eq_true, Bool.and_eq_true, Bool.or_eq_false_iff, Bool.and_eq_false_iff, decide_eq_true_eq, decide_eq_false_iff_not, Bool.not_eq_true', Bool.not_eq_false', Bool.not_eq_true, Bool.not_eq_false] at hc1
    refine Run.seq ?_
    refine Run.region ?_
    refine asg1 rfl rfl ?_
    refine Ro.nil ?_
    refine Nrm.code ?_
    refine Run.ret ?_
    refine Rt.one rfl rfl ?_
    exact ⟨by rw [sameOs_no (fun h => by rw [h] at hc1; omega)], S.bl⟩
  ·
    try simp only [Bool.or_eq_true, Bool.and_eq_true, Bool.or_eq_false_iff, Bool.and_eq_false_iff, decide_eq_true_eq, decide_eq_false_iff_not, Bool.not_eq_true', Bool.not_eq_false', Bool.not_eq_true, Bool.not_eq_false] at hc1
    refine Run.skip ?_
    refine Nrm.code ?_
    refine Run.seq ?_
    refine Run.seq ?_
    refine Run.region ?_
    refine asg1 rfl rfl ?_
    refine Ro.nil ?_
    refine Nrm.code ?_
    refine Run.block ?_
    refine Run.loop1 (fun (i : Nat) w_ => i ≤ a.length ∧ a.take i = b.take i ∧ St [] w [] w_) (fun (i : Nat) => [(0, [], v), (1, [], u), (5, [], .int .i64 i)]) (fun (i : Nat) => a.length - i) (0) ⟨Nat.zero_le _, rfl, S⟩ ⟨rfl, rfl, rfl, trivial⟩ ?_
    rintro i w1 ⟨hi, he, S⟩
    refine Run.seq ?_
    refine Run.seq ?_
    refine Run.region ?_
    refine mv1 rfl rfl ?_
    refine mv1 rfl rfl ?_
    refine lenS rfl hOS Tryd.underlying25 rfl rfl rfl ?_
    refine lss1 rfl rfl rfl ?_
    refine Ro.nil ?_
    refine Nrm.code ?_
    refine Run.cond rfl (fun hc4 => ?_) (fun hc4 => ?_)
    ·
      try simp only [Bool.or_eq_true, Bool.and_eq_true, Bool.or_eq_false_iff, Bool.and_eq_false_iff, decide_eq_true_eq, decide_eq_false_iff_not, Bool.not_eq_true', Bool.not_eq_false', Bool.not_eq_true, Bool.not_eq_false] at hc4
      refine Run.skip ?_
      refine Nrm.code ?_
      refine Run.seq ?_
      refine Run.block ?_
      refine Run.seq ?_
      refine Run.draw (by kernel_rfl) (by kernel_rfl) S ?_
      obtain ⟨p1, hp1, hb1⟩ := hOB.at (i := i) (by omega)
      obtain ⟨p2, hp2, hb2⟩ := hPB.at (i := i) (by omega)
      refine qmv rfl rfl rfl rfl ?_
      refine qmv rfl rfl rfl rfl ?_
      refine qixa rfl rfl hOS e25 rfl rfl rfl rfl (fun _ => by first | omega | (simp only [List.length_cons, List.length_nil]; omega)) ?_
      refine qflE rfl hOS fo93_1 rfl rfl rfl (fun _ => hOB.lt (by omega)) ?_
      refine qldE rfl hOS (fun _ S => S) T26 rfl rfl rfl (fun _ => hOB.k1 (by omega) hp1) ?_
      refine qmv rfl rfl rfl rfl ?_
      refine qmv rfl rfl rfl rfl ?_
      refine qixa rfl rfl hPS e25 rfl rfl rfl rfl (fun _ => by first | omega | (simp only [List.length_cons, List.length_nil]; omega)) ?_
      refine qflE rfl hPS fo93_1 rfl rfl rfl (fun _ => hPB.lt (by omega)) ?_
      refine qldE rfl hPS (fun _ S => S) T26 rfl rfl rfl (fun _ => hPB.k1 (by omega) hp2) ?_
      refine qcal (vs := [_, _]) rfl ⟨⟨_, _, rfl, rfl⟩, ⟨_, _, rfl, rfl⟩, trivial⟩ k37 rfl (fun _ _ S B => S.call B) (fun hG w_ S => c37 _ _ _ _ _ (hb1.now S) (hb2.now S)) ?_
      refine qasg rfl rfl rfl rfl ?_
      refine Qo.nil (fun w2 S => ?_)
      refine Nrm.code ?_
      refine Run.seq ?_
      refine Run.draw (by kernel_rfl) (by kernel_rfl) S ?_
      refine qmv rfl rfl rfl rfl ?_
      refine qmv rfl rfl rfl rfl ?_
      refine qixa rfl rfl hOS e25 rfl rfl rfl rfl (fun _ => by first | omega | (simp only [List.length_cons, List.length_nil]; omega)) ?_
      refine qflE rfl hOS fo93_0 rfl rfl rfl (fun _ => hOB.lt (by omega)) ?_
      refine qldE rfl hOS (fun _ S => S) T3 rfl rfl rfl (fun _ => hOB.k0 (by omega) hp1) ?_
      refine qmv rfl rfl rfl rfl ?_
      refine qmv rfl rfl rfl rfl ?_
      refine qixa rfl rfl hPS e25 rfl rfl rfl rfl (fun _ => by first | omega | (simp only [List.length_cons, List.length_nil]; omega)) ?_
      refine qflE rfl hPS fo93_0 rfl rfl rfl (fun _ => hPB.lt (by omega)) ?_
      refine qldE rfl hPS (fun _ S => S) T3 rfl rfl rfl (fun _ => hPB.k0 (by omega) hp2) ?_
      refine qneq rfl rfl rfl rfl rfl rfl ?_
      refine qmv rfl rfl rfl rfl ?_
      refine qmv rfl rfl rfl rfl ?_
      refine qnt rfl rfl rfl rfl ?_
      refine qpkO rfl rfl rfl rfl rfl rfl ?_
      refine Qo.nil (fun w3 S => ?_)
      refine Nrm.code ?_
      refine Run.cond rfl (fun hc7 => ?_) (fun hc7 => ?_)
      ·
        try simp only [Bool.or_eq_true, Bool.and_eq_true, Bool.or_eq_false_iff, Bool.and_eq_false_iff, decide_eq_true_eq, decide_eq_false_iff_not, Bool.not_eq_true', Bool.not_eq_false', Bool.not_eq_true, Bool.not_eq_false] at hc7
        refine Run.seq ?_
        refine Run.region ?_
        refine asg1 rfl rfl ?_
        refine Ro.nil ?_
        refine Nrm.code ?_
        refine Run.ret ?_
        refine Rt.one rfl rfl ?_
        exact ⟨by
          rw [sameOs_no]
          intro h
          subst h
          rcases hc7 with h | h
          · exact h rfl
          · exact h rfl, S.bl⟩
      ·
        try simp only [Bool.or_eq_true, Bool.and_eq_true, Bool.or_eq_false_iff, Bool.and_eq_false_iff, decide_eq_true_eq, decide_eq_false_iff_not, Bool.not_eq_true', Bool.not_eq_false', Bool.not_eq_true, Bool.not_eq_false] at hc7
        refine Run.skip ?_
        refine Nrm.blk ?_
        refine Nrm.code ?_
        refine Run.region ?_
        refine mv1 rfl rfl ?_
        refine add1 rfl rfl rfl (w64 (by omega)) ?_
        refine asg1 rfl rfl ?_
        refine Ro.nil ?_
        refine Nrm.loop1 (i + 1) ⟨by omega, by rw [take_succ_getD (show i < a.length by omega) (d := o0), take_succ_getD (show i < b.length by omega) (d := o0), he, opt_ext (a := a.getD i o0) (b := b.getD i o0) (by omega) hc7.2], S⟩ (by omega) ⟨rfl, rfl, rfl, trivial⟩
    ·
      try simp only [Bool.or_eq_true, Bool.and_eq_true, Bool.or_eq_false_iff, Bool.and_eq_false_iff, decide_eq_true_eq, decide_eq_false_iff_not, Bool.not_eq_true', Bool.not_eq_false', Bool.not_eq_true, Bool.not_eq_false] at hc4
      refine Run.exit ?_
      refine Lv.code ?_
      refine Lv.back ?_
      refine Lv.hit ?_
      refine Nrm.code ?_
      refine Run.seq ?_
      refine Run.region ?_
      refine asg1 rfl rfl ?_
      refine Ro.nil ?_
      refine Nrm.code ?_
      refine Run.ret ?_
      refine Rt.one rfl rfl ?_
      have e : i = a.length := by omega
      rw [e, List.take_length, List.take_of_length_le (by omega)] at he
      exact ⟨by rw [sameOs_iff.2 he], S.bl⟩

set_option maxHeartbeats 1000000 in
theorem c34 (a b : Ip4) (o1 d1 o2 d2 : Value) (w : World) (hO : OS [] w o1 a.opts) (hd : BS [] w d1 a.data) (hP : OS [] w o2 b.opts) (he : BS [] w d2 b.data) (hl : a.opts.length ≤ 1099511627776) :
    CallsD Tryd.prog 34 #[.agg (encIp4 a o1 d1).toArray, .agg (encIp4 b o2 d2).toArray] w (.bool (sameH a b)) := by
  refine enter Tryd.func34 rfl Tryd.ntmps34 (l := [(0, [], _), (1, [], _)]) rfl rfl ?_
  have S := St.refl [] w
  refine Run.seq ?_
  refine Run.region ?_
  refine boxA rfl S rfl ?_
  intro b2 w1 hb2 S B_
  refine boxA rfl S rfl ?_
  intro b3 w2 hb3 S B_
  refine asg1 rfl rfl ?_
  refine Ro.nil ?_
  refine Nrm.code ?_
  refine Run.seq ?_
  refine Run.seq ?_
  refine Run.region ?_
  refine fld (o' := 0) rfl fo28_0 rfl rfl rfl rfl ?_
  refine ld1 rfl T3 S (i := 1) rfl rfl rfl rfl rfl ?_
  refine fld (o' := 0) rfl fo28_0 rfl rfl rfl rfl ?_
  refine ld1 rfl T3 S (i := 0) rfl rfl rfl rfl rfl ?_
  refine neq1 rfl rfl rfl ?_
  refine mv1 rfl rfl ?_
  refine fld (o' := 1) rfl fo28_1 rfl rfl rfl rfl ?_
  refine ld1 rfl T3 S (i := 1) rfl rfl rfl rfl rfl ?_
  refine fld (o' := 1) rfl fo28_1 rfl rfl rfl rfl ?_
  refine ld1 rfl T3 S (i := 0) rfl rfl rfl rfl rfl ?_
  refine neq rfl rfl rfl rfl rfl rfl ?_
  refine pkO rfl rfl rfl rfl rfl rfl ?_
  refine mv1 rfl rfl ?_
  refine fld (o' := 2) rfl fo28_2 rfl rfl rfl rfl ?_
  refine ld1 rfl T4 S (i := 1) rfl rfl rfl rfl rfl ?_
  refine fld (o' := 2) rfl fo28_2 rfl rfl rfl rfl ?_
  refine ld1 rfl T4 S (i := 0) rfl rfl rfl rfl rfl ?_
  refine neB rfl rfl Tryd.underlying4 rfl rfl rfl rfl ?_
  refine pkO rfl rfl rfl rfl rfl rfl ?_
  refine mv1 rfl rfl ?_
  refine fld (o' := 3) rfl fo28_3 rfl rfl rfl rfl ?_
  refine ld1 rfl T4 S (i := 1) rfl rfl rfl rfl rfl ?_
  refine fld (o' := 3) rfl fo28_3 rfl rfl rfl rfl ?_
  refine ld1 rfl T4 S (i := 0) rfl rfl rfl rfl rfl ?_
  refine neB rfl rfl Tryd.underlying4 rfl rfl rfl rfl ?_
  refine pkO rfl rfl rfl rfl rfl rfl ?_
  refine mv1 rfl rfl ?_
  refine fld (o' := 4) rfl fo28_4 rfl rfl rfl rfl ?_
  refine ld1 rfl T3 S (i := 1) rfl rfl rfl rfl rfl ?_
  refine fld (o' := 4) rfl fo28_4 rfl rfl rfl rfl ?_
  refine ld1 rfl T3 S (i := 0) rfl rfl rfl rfl rfl ?_
  refine neq rfl rfl rfl rfl rfl rfl ?_
  refine pkO rfl rfl rfl rfl rfl rfl ?_
  refine mv1 rfl rfl ?_
  refine fld (o' := 5) rfl fo28_5 rfl rfl rfl rfl ?_
  refine ld1 rfl T3 S (i := 1) rfl rfl rfl rfl rfl ?_
  refine fld (o' := 5) rfl fo28_5 rfl rfl rfl rfl ?_
  refine ld1 rfl T3 S (i := 0) rfl rfl rfl rfl rfl ?_
  refine neq rfl rfl rfl rfl rfl rfl ?_
  refine pkO rfl rfl rfl rfl rfl rfl ?_
  refine mv1 rfl rfl ?_
  refine fld (o' := 6) rfl fo28_6 rfl rfl rfl rfl ?_
  refine ld1 rfl T3 S (i := 1) rfl rfl rfl rfl rfl ?_
  refine fld (o' := 6) rfl fo28_6 rfl rfl rfl rfl ?_
  refine ld1 rfl T3 S (i := 0) rfl rfl rfl rfl rfl ?_
  refine neq rfl rfl rfl rfl rfl rfl ?_
  refine pkO rfl rfl rfl rfl rfl rfl ?_
  refine mv1 rfl rfl ?_
  refine fld (o' := 7) rfl fo28_7 rfl rfl rfl rfl ?_
  refine ldA rfl T24 S (i := 1) rfl rfl rfl (by decide) rfl rfl rfl ?_
  refine fld (o' := 7) rfl fo28_7 rfl rfl rfl rfl ?_
  refine ldA rfl T24 S (i := 0) rfl rfl rfl (by decide) rfl rfl rfl ?_
  refine neI (a.src) (b.src) rfl rfl rfl rfl rfl rfl ?_
  refine pkO rfl rfl rfl rfl rfl rfl ?_
  refine mv1 rfl rfl ?_
  refine fld (o' := 24) rfl fo28_8 rfl rfl rfl rfl ?_
  refine ldA rfl T24 S (i := 1) rfl rfl rfl (by decide) rfl rfl rfl ?_
  refine fld (o' := 24) rfl fo28_8 rfl rfl rfl rfl ?_
  refine ldA rfl T24 S (i := 0) rfl rfl rfl (by decide) rfl rfl rfl ?_
  refine neI (a.dst) (b.dst) rfl rfl rfl rfl rfl rfl ?_
  refine pkO rfl rfl rfl rfl rfl rfl ?_
  refine Ro.nil ?_
  refine Nrm.code ?_
  refine Run.cond rfl (fun hc1 => ?_) (fun hc1 => ?_)
  ·
    refine Run.seq ?_
    refine Run.region ?_
    refine asg1 rfl rfl ?_
    refine Ro.nil ?_
    refine Nrm.code ?_
    refine Run.ret ?_
    refine Rt.one rfl rfl ?_
    exact ⟨by rw [sameH, show diffH a b = true from hc1]; rfl, S.bl⟩
  ·
    refine Run.skip ?_
    refine Nrm.code ?_
    refine Run.seq ?_
    refine Run.region ?_
    refine fld (o' := 41) rfl fo28_9 rfl rfl rfl rfl ?_
    refine ld1 rfl T25 S (i := 1) rfl rfl rfl rfl rfl ?_
    refine fld (o' := 41) rfl fo28_9 rfl rfl rfl rfl ?_
    refine ld1 rfl T25 S (i := 0) rfl rfl rfl rfl rfl ?_
    refine calg (vs := [_, _]) rfl ⟨⟨_, _, rfl, rfl⟩, ⟨_, _, rfl, rfl⟩, trivial⟩ k46 rfl (fun hG => c46 _ _ _ _ _ (hO.now S) (hP.now S) (by omega)) ?_
    intro w3 B_; have S := S.call B_
    refine mv1 rfl rfl ?_
    refine fld (o' := 42) rfl fo28_10 rfl rfl rfl rfl ?_
    refine ld1 rfl T26 S (i := 1) rfl rfl rfl rfl rfl ?_
    refine fld (o' := 42) rfl fo28_10 rfl rfl rfl rfl ?_
    refine ld1 rfl T26 S (i := 0) rfl rfl rfl rfl rfl ?_
    refine calg (vs := [_, _]) rfl ⟨⟨_, _, rfl, rfl⟩, ⟨_, _, rfl, rfl⟩, trivial⟩ k37 rfl (fun hG => c37 _ _ _ _ _ (hd.now S) (he.now S)) ?_
    intro w4 B_; have S := S.call B_
    refine pkA rfl rfl rfl rfl rfl rfl ?_
    refine asg1 rfl rfl ?_
    refine Ro.nil ?_
    refine Nrm.code ?_
    refine Run.ret ?_
    refine Rt.one rfl rfl ?_
    exact ⟨by rw [sameH, show diffH a b = false from hc1]; rfl, S.bl⟩

end Go.Proofs.YtkahmepenjhcpaaDoor.W

/- Contracts: datagrams cloned. No statement of the seat is proved here. -/
namespace Go.Proofs.YtkahmepenjhcpaaDoor.W
open Go
set_option linter.unusedSimpArgs false
set_option linter.unusedVariables false


theorem OS.stN {N0 N1 : List Nat} {w0 w : World} {L : List Own} {v : Value} {os : List Opt} (h : OS N1 w0 v os) (hN : ∀ i ∈ N0, i ∈ N1) (S : St N0 w0 L w) : OS (idsL L ++ N1) w v os :=
  let ⟨vs, h1, h2⟩ := h; ⟨vs, h1.stN hN S, BSs.stN hN S h2⟩

set_option maxHeartbeats 1000000 in
theorem c93 (v : Value) (os : List Opt) (w : World) (hO : OS [] w v os) (hl : os.length ≤ 1099511627776) (hdl : ∀ o ∈ os, o.data.length ≤ 140737488355328) :
    CallsV Tryd.prog 93 #[v] w (fun r w' => FOS w w' r os) := by
  refine enter Tryd.func93 rfl Tryd.ntmps93 (l := [(0, [], _)]) rfl rfl ?_
  have S := St.refl [] w
  obtain ⟨ds, hOS, hOB⟩ := hO
  refine Run.seq ?_
  refine Run.region ?_
  refine asg1 rfl rfl ?_
  refine Ro.nil ?_
  refine Nrm.code ?_
  refine Run.seq ?_
  refine Run.region ?_
  refine asg1 rfl rfl ?_
  have S := S.nilO
  refine Ro.nil ?_
  refine Nrm.code ?_
  refine Run.seq ?_
  refine Run.seq ?_
  refine Run.region ?_
  refine asg1 rfl rfl ?_
  refine Ro.nil ?_
  refine Nrm.code ?_
  refine Run.block ?_
  refine Run.loop4 (fun (i : Nat) (u : Value) (acc : List Opt) (vs : List Value) w_ => i ≤ os.length ∧ vs.length = acc.length ∧ acc = os.take i ∧ (∀ N, (∀ j ∈ N, j < w.heap.size) → OSs (idsL [oO u acc vs] ++ N) w_ vs acc) ∧ St [] w [oO u acc vs] w_) (fun (i : Nat) (u : Value) (acc : List Opt) (vs : List Value) => [(0, [], v), (3, [], u), (4, [], .int .i64 i)]) (fun (i : Nat) (u : Value) (acc : List Opt) (vs : List Value) => os.length - i) (0) (_) ([]) ([]) ⟨Nat.zero_le _, rfl, rfl, fun _ _ => trivial, S⟩ ⟨rfl, rfl, rfl, trivial⟩ ?_
  rintro i u acc vs w1 ⟨hi, hvl, hacc, hvs, S⟩
  have hal : acc.length = i := by rw [hacc, List.length_take]; omega
  refine Run.seq ?_
  refine Run.seq ?_
  refine Run.region ?_
  refine mv1 rfl rfl ?_
  refine mv1 rfl rfl ?_
  refine lenS rfl hOS Tryd.underlying25 rfl rfl rfl ?_
  refine lss1 rfl rfl rfl ?_
  refine Ro.nil ?_
  refine Nrm.code ?_
  refine Run.cond rfl (fun hc3 => ?_) (fun hc3 => ?_)
  ·
    try simp only [Bool.or_eq_true, Bool.and_eq_true, Bool.or_eq_false_iff, Bool.and_eq_false_iff, decide_eq_true_eq, decide_eq_false_iff_not, Bool.not_eq_true', Bool.not_eq_false', Bool.not_eq_true, Bool.not_eq_false] at hc3
    refine Run.skip ?_
    refine Nrm.code ?_
    refine Run.seq ?_
    refine Run.block ?_
    refine Run.held (by kernel_rfl) S [false] rfl rfl rfl ?_
    intro w2 BD S SC
    refine Ho.take (i := 0) SC Pp.body rfl (by kernel_rfl) (by kernel_rfl) (by kernel_rfl) rfl rfl ?_
    obtain ⟨p1, hp1, hb1⟩ := hOB.at (i := i) (by omega)
    refine qmv rfl rfl rfl rfl ?_
    refine Ho.back ?_
    refine Ho.take (i := 1) SC Pp.body rfl (by kernel_rfl) (by kernel_rfl) (by kernel_rfl) rfl rfl ?_
    refine qmv rfl rfl rfl rfl ?_
    refine Ho.back ?_
    refine Ho.take (i := 2) SC Pp.body rfl (by kernel_rfl) (by kernel_rfl) (by kernel_rfl) rfl rfl ?_
    refine qmv rfl rfl rfl rfl ?_
    refine Ho.back ?_
    refine Ho.take (i := 3) SC Pp.body rfl (by kernel_rfl) (by kernel_rfl) (by kernel_rfl) rfl rfl ?_
    refine qixa rfl rfl hOS e25 rfl rfl rfl rfl (fun _ => by first | omega | (simp only [List.length_cons, List.length_nil]; omega)) ?_
    refine Ho.back ?_
    refine Ho.take (i := 4) SC Pp.body rfl (by kernel_rfl) (by kernel_rfl) (by kernel_rfl) rfl rfl ?_
    refine qflE rfl hOS fo93_0 rfl rfl rfl (fun _ => hOB.lt (by omega)) ?_
    refine Ho.back ?_
    refine Ho.take (i := 5) SC Pp.body rfl (by kernel_rfl) (by kernel_rfl) (by kernel_rfl) rfl rfl ?_
    refine qldE rfl hOS (fun _ S => S) T3 rfl rfl rfl (fun _ => hOB.k0 (by omega) hp1) ?_
    refine Ho.back ?_
    refine Ho.take (i := 6) SC Pp.body rfl (by kernel_rfl) (by kernel_rfl) (by kernel_rfl) rfl rfl ?_
    refine qmv rfl rfl rfl rfl ?_
    refine Ho.back ?_
    refine Ho.take (i := 7) SC Pp.body rfl (by kernel_rfl) (by kernel_rfl) (by kernel_rfl) rfl rfl ?_
    refine qmv rfl rfl rfl rfl ?_
    refine Ho.back ?_
    refine Ho.take (i := 8) SC Pp.body rfl (by kernel_rfl) (by kernel_rfl) (by kernel_rfl) rfl rfl ?_
    refine qixa rfl rfl hOS e25 rfl rfl rfl rfl (fun _ => by first | omega | (simp only [List.length_cons, List.length_nil]; omega)) ?_
    refine Ho.back ?_
    refine Ho.take (i := 9) SC Pp.body rfl (by kernel_rfl) (by kernel_rfl) (by kernel_rfl) rfl rfl ?_
    refine qflE rfl hOS fo93_1 rfl rfl rfl (fun _ => hOB.lt (by omega)) ?_
    refine Ho.back ?_
    refine Ho.take (i := 10) SC Pp.body rfl (by kernel_rfl) (by kernel_rfl) (by kernel_rfl) rfl rfl ?_
    refine qldE rfl hOS (fun _ S => S) T26 rfl rfl rfl (fun _ => hOB.k1 (by omega) hp1) ?_
    refine Ho.back ?_
    refine Ho.one (i := 11) (by kernel_rfl) rfl rfl ?_
    have S0 := S
    refine call (vs := [_]) ⟨⟨_, _, rfl, rfl⟩, trivial⟩ k39 rfl (c39 _ _ _ (hb1.now S) (by have := hdl _ (getD_mem' (d := o0) (show i < os.length by omega)); omega)) ?_
    rintro q w3 hF
    have S := S.call hF.1
    have hqb : ∀ N, (∀ j ∈ N, j < w.heap.size) → BS (idsL [oO u acc vs] ++ N) w3 q _ := fun N hN => hF.bs hb1.1 (below_app S0 hN)
    have hvs := fun N hN => ((hvs N hN).bl BD).bl hF.1
    have Sb := S
    have S := S.rebase
    have hq1 := hqb [] (by simp)
    have SC := (Sb.trans S).pick [false] rfl
    refine Ho.on SC ?_
    refine Ho.take (i := 12) SC Pp.body rfl (by kernel_rfl) (by kernel_rfl) (by kernel_rfl) rfl rfl ?_
    refine qbld B93 (qs := [(_, _), (_, _)]) ⟨⟨_, _, _, rfl, rfl, rfl, rfl, by simp [Value.cells]⟩, ⟨_, _, _, rfl, rfl, cells1 hq1.one, rfl, List.cons_ne_nil _ _⟩, trivial⟩ rfl rfl rfl ?_
    refine Ho.back ?_
    refine Ho.one (i := 13) (by kernel_rfl) rfl rfl ?_
    refine bsl e25 (qs := [(_, _)]) ⟨⟨_, _, _, rfl, rfl, rfl, rfl, by simp [Value.cells]⟩, trivial⟩ rfl rfl rfl rfl S ?_
    intro u24 w4 S B_
    have SC := (Sb.trans S).pick [false, false] rfl
    refine Ho.on SC ?_
    refine Ho.one (i := 14) (by kernel_rfl) rfl rfl ?_
    refine apO (i := 1) ((os.getD i o0).data) rfl rfl e25 (S.slI (i := 0) rfl) hq1.one hvl S rfl rfl (fun v' => rfl) (by omega) ?_
    intro u2 w5 S B_
    have SC := (Sb.trans S).pick [false, false] rfl
    refine Ho.on SC ?_
    refine Ho.take (i := 15) SC Pp.body rfl (by kernel_rfl) (by kernel_rfl) (by kernel_rfl) rfl rfl ?_
    refine qasg rfl rfl rfl rfl ?_
    refine Ho.back ?_
    refine Ho.done (by kernel_rfl) ?_
    refine Nrm.blk ?_
    refine Nrm.code ?_
    refine Run.region ?_
    refine mv1 rfl rfl ?_
    refine add1 rfl rfl rfl (w64 (by omega)) ?_
    refine asg1 rfl rfl ?_
    refine Ro.nil ?_
    refine Nrm.loop4 (i + 1) (_) (_) (_) ⟨by omega, by simp [hvl], by rw [take_succ_getD (show i < os.length by omega) (d := o0), hacc],
            fun N hN => ((OSs.stN (fun _ h => List.mem_append_left _ h) S.drop0 (hvs N hN)).snoc ((hqb N hN).stN (fun _ h => List.mem_append_left _ h) S.drop0)).weak mid_drop, Sb.trans S.drop0⟩ (by omega) ⟨rfl, rfl, rfl, trivial⟩
  ·
    try simp only [Bool.or_eq_true, Bool.and_eq_true, Bool.or_eq_false_iff, Bool.and_eq_false_iff, decide_eq_true_eq, decide_eq_false_iff_not, Bool.not_eq_true', Bool.not_eq_false', Bool.not_eq_true, Bool.not_eq_false] at hc3
    refine Run.exit ?_
    refine Lv.code ?_
    refine Lv.back ?_
    refine Lv.hit ?_
    refine Nrm.code ?_
    refine Run.seq ?_
    refine Run.region ?_
    refine mv1 rfl rfl ?_
    refine asg1 rfl rfl ?_
    refine Ro.nil ?_
    refine Nrm.code ?_
    refine Run.ret ?_
    refine Rt.one rfl rfl ?_
    have e : i = os.length := by omega
    rw [e, List.take_length] at hacc
    subst hacc
    exact S.toFOS (i := 0) rfl (fun N hN => (hvs N hN).weak (fun j hj => List.mem_append_right _ hj))

set_option maxHeartbeats 1000000 in
theorem c29 (h : Ip4) (o d : Value) (w : World) (hO : OS [] w o h.opts) (hd : BS [] w d h.data) (hol : h.opts.length ≤ 1099511627776) (hdl : h.data.length ≤ 1099511627776) (hdo : ∀ o ∈ h.opts, o.data.length ≤ 140737488355328) :
    CallsV Tryd.prog 29 #[.agg (encIp4 h o d).toArray] w (fun r w' => ∃ o' d', r = .agg (encIp4 h o' d').toArray ∧ Bl w w' ∧ ∀ N, (∀ i ∈ N, i < w.heap.size) → OS N w' o' h.opts ∧ BS N w' d' h.data) := by
  refine enter Tryd.func29 rfl Tryd.ntmps29 (l := [(0, [], _)]) rfl rfl ?_
  have S := St.refl [] w
  refine Run.seq ?_
  refine Run.region ?_
  refine boxA rfl S rfl ?_
  intro b1 w1 hb1 S B_
  refine alc T28 S rfl ?_
  intro b2 w2 hb2 S B_
  refine Ro.nil ?_
  refine Nrm.code ?_
  refine Run.seq ?_
  refine Run.region ?_
  refine fld (o' := 41) rfl fo28_9 rfl rfl rfl rfl ?_
  refine ld1 rfl T25 S (i := 1) rfl rfl rfl rfl rfl ?_
  have S0 := S
  refine call (vs := [_]) ⟨⟨_, _, rfl, rfl⟩, trivial⟩ k93 rfl (c93 _ _ _ (hO.now S) hol hdo) ?_
  rintro q w3 hF
  have S := S.call hF.1
  have hq1 := (hF.2 [] (by simp)).one
  have Sb := S
  have hd := hd.st S
  have S := S.rebase
  refine fld (o' := 41) rfl fo28_9 rfl rfl rfl rfl ?_
  refine st1 rfl rfl T25 hq1 S (i := 1) rfl rfl rfl ?_
  intro w4 S
  refine Ro.nil ?_
  refine Nrm.code ?_
  refine Run.seq ?_
  refine Run.region ?_
  refine fld (o' := 42) rfl fo28_10 rfl rfl rfl rfl ?_
  refine ld1 rfl T26 S (i := 1) rfl rfl rfl rfl rfl ?_
  have S1 := S
  refine call (vs := [_]) ⟨⟨_, _, rfl, rfl⟩, trivial⟩ k39 rfl (c39 _ _ _ (hd.now S) (by omega)) ?_
  rintro r w5 hG
  have S := S.call hG.1
  have Sc := S
  have S := S.rebase
  have hr1 := (hG.bs (N := []) hd.1 (by simp)).one
  refine fld (o' := 42) rfl fo28_10 rfl rfl rfl rfl ?_
  refine st1 rfl rfl T26 hr1 S (i := 1) rfl rfl rfl ?_
  intro w6 S
  refine Ro.nil ?_
  refine Nrm.code ?_
  refine Run.seq ?_
  refine Run.region ?_
  refine ldW rfl T28 S (i := 1) rfl rfl rfl rfl rfl ?_
  refine stW rfl rfl T28 rfl rfl (one_cons rfl (one_cons rfl (one_cons rfl (one_cons rfl (one_cons rfl (one_cons rfl (one_cons rfl (one_cons rfl (one_cons rfl (one_cons rfl (one_cons rfl (one_cons rfl (one_cons rfl (one_cons rfl (one_cons rfl (one_cons rfl (one_cons rfl (one_cons rfl (one_cons rfl (one_cons rfl (one_cons rfl (one_cons rfl (one_cons rfl (one_cons rfl (one_cons rfl (one_cons rfl (one_cons rfl (one_cons rfl (one_cons rfl (one_cons rfl (one_cons rfl (one_cons rfl (one_cons rfl (one_cons rfl (one_cons rfl (one_cons rfl (one_cons rfl (one_cons rfl (one_cons rfl (one_cons rfl (one_cons rfl (one_cons hq1 (one_cons hr1 one_nil))))))))))))))))))))))))))))))))))))))))))) S (i := 0) rfl rfl ?_
  intro w7 S
  refine Ro.nil ?_
  refine Nrm.code ?_
  refine Run.ret ?_
  refine Rt.cell1 rfl rfl T28 S (i := 0) rfl rfl ?_
  exact ⟨q, r, rfl, (Sb.trans (Sc.trans S)).bl, fun N hN => ⟨(((hF.2 _ (below_app S0 hN)).stN (fun _ h => List.mem_append_left _ h) Sc).stN (fun _ h => List.mem_append_left _ h) S).weak (fun j hj => List.mem_append_right _ (List.mem_append_right _ (List.mem_append_right _ hj))), ((hG.bs hd.1 (below_app (Sb.trans S1) hN)).stN (fun _ h => List.mem_append_left _ h) S).weak (fun j hj => List.mem_append_right _ (List.mem_append_right _ hj))⟩⟩

end Go.Proofs.YtkahmepenjhcpaaDoor.W

/- Contracts: canonical bytes. No statement of the seat is proved here. -/
namespace Go.Proofs.YtkahmepenjhcpaaDoor.W
open Go
set_option linter.unusedSimpArgs false
set_option linter.unusedVariables false


theorem OSs.now {N0 : List Nat} {w0 w : World} {L : List Own} {vs : List Value} {os : List Opt} (h : OSs N0 w0 vs os) (S : St N0 w0 L w) : OSs [] w vs os := (BSs.st S h).weak (by simp)
theorem optsG_len : ∀ (n : Nat) (b : List Int), b.length ≤ n → ∀ l, optsG b = some l → l.length ≤ b.length ∧ ∀ o ∈ l, o.data.length ≤ b.length := by
  intro n
  induction n with
  | zero =>
    intro b hb l h
    have : b = [] := List.length_eq_zero_iff.1 (by omega)
    subst this
    rw [optsG] at h; simp at h; subst h; simp
  | succ n ih =>
    intro b hb l h
    match b with
    | [] => rw [optsG] at h; simp at h; subst h; simp
    | [k] =>
      rw [optsG] at h
      split at h
      · simp at h; subst h; simp
      · simp at h
    | k :: m :: r =>
      rw [optsG] at h
      split at h
      · simp at h; subst h; simp
      · split at h
        · have := ih (m :: r) (by simp at hb ⊢; omega) l h
          simp only [List.length_cons] at this ⊢
          exact ⟨by omega, fun o ho => by have := this.2 o ho; omega⟩
        · split at h
          · simp at h
          · cases hg : optsG (r.drop (m.toNat - 2)) with
            | none => rw [hg] at h; simp at h
            | some l' =>
              rw [hg] at h
              simp only [Option.map_some, Option.some.injEq] at h
              subst h
              have := ih (r.drop (m.toNat - 2)) (by simp at hb ⊢; omega) l' hg
              simp only [List.length_cons, List.length_drop] at this ⊢
              refine ⟨by omega, ?_⟩
              intro o ho
              rcases List.mem_cons.1 ho with e | e
              · rw [e]; simp only [List.length_take]; omega
              · have := this.2 o e; omega
theorem optL_len (b : List Int) : (optL b).length ≤ 40 ∧ ∀ o ∈ optL b, o.data.length ≤ 40 := by
  unfold optL
  split
  · simp
  · cases hg : optsG b with
    | none => simp
    | some l =>
      have := optsG_len b.length b (Nat.le_refl _) l hg
      simp only [Option.getD_some]
      exact ⟨by omega, fun o ho => by have := this.2 o ho; omega⟩
theorem ip4of_ok {a b c d : Int} (ha : 0 ≤ a ∧ a < 256) (hb : 0 ≤ b ∧ b < 256) (hc : 0 ≤ c ∧ c < 256) (hd : 0 ≤ d ∧ d < 256) : (ip4of a b c d).ok := by
  refine ⟨fun i _ => ?_, by simp [ip4of]⟩
  simp only [ip4of]
  (repeat' split) <;> omega
theorem ipOf_ok {b : List Int} (h : byt b) (i : Nat) : (ipOf b i).ok := ip4of_ok (byt_getD h _) (byt_getD h _) (byt_getD h _) (byt_getD h _)
theorem ip0_ok : ip0.ok := ⟨fun _ _ => by simp [ip0], by simp [ip0]⟩
theorem parH_ok {b : List Int} (h : byt b) : (parH b).src.ok ∧ (parH b).dst.ok ∧ (parH b).opts.length ≤ 40 ∧ (∀ o ∈ (parH b).opts, o.data.length ≤ 40) ∧ (parH b).data.length ≤ b.length := by
  unfold parH
  split
  · have hl := optL_len (optB4 b)
    exact ⟨ipOf_ok h 12, ipOf_ok h 16, hl.1, hl.2, by simp only [parG, List.length_take, List.length_drop]; omega⟩
  · exact ⟨ip0_ok, ip0_ok, by simp [h00], by simp [h00], by simp [h00]⟩
theorem byt_set' {l : List Int} (h : byt l) {i : Nat} {x : Int} (hx : 0 ≤ x ∧ x < 256) : byt (l.set i x) := byt_set h _ hx
theorem serL_byt {h : Ip4} (h1 : h.src.ok) (h2 : h.dst.ok) (hd : ∀ o ∈ h.opts, W.byt o.data) (hb : W.byt h.data) : byt (serL h) := by
  unfold serL
  split
  · rename_i hc
    have hX := headB_byt hc h1 h2 hd
    have hs := sumC_bd hX
    exact byt_app (byt_set' (byt_set' hX (by omega)) (by omega)) hb
  · intro x hx; simp at hx
theorem parE_len {b : List Int} (h : parE b = 0) : b.length ≤ 65535 := by
  rcases Nat.lt_or_ge 65535 b.length with h1 | h1
  · unfold parE at h; rw [if_pos h1] at h; omega
  · exact h1
def canB (b : List Int) : Bool := decide (parE b = 0) && (decide (chkE (parH b) = 0) && decide (b = serL (parH b)))

set_option maxHeartbeats 1000000 in
theorem c35 (v : Value) (b : List Int) (w : World) (hb : BS [] w v b) (hg : GV [] w 0 130 (W4.map i64)) :
    CallsD Tryd.prog 35 #[v] w (.bool (canB b)) := by
  refine enter Tryd.func35 rfl Tryd.ntmps35 (l := [(0, [], _)]) rfl rfl ?_
  have S := St.refl [] w
  have hpk := parH_ok hb.1
  refine Run.seq ?_
  refine Run.region ?_
  refine asg1 rfl rfl ?_
  refine Ro.nil ?_
  refine Nrm.code ?_
  refine Run.seq ?_
  refine Run.region ?_
  refine mv1 rfl rfl ?_
  refine call (vs := [_]) ⟨⟨_, _, rfl, rfl⟩, trivial⟩ k33 rfl (c33 _ _ _ (hb.now S) (hg.now S)) ?_
  rintro _ w1 ⟨o, d, vs, rfl, hF, hwp⟩
  have S := S.fo hF
  have hdp := (hwp _ _ hb).2
  have hop := (hwp _ _ hb).1
  refine mv1 rfl rfl ?_
  refine extr1 rfl rfl rfl ?_
  refine extr1 rfl rfl rfl ?_
  refine alc T28 S rfl ?_
  intro b3 w2 hb3 S B_
  refine stW rfl rfl T28 rfl rfl (one_cons rfl (one_cons rfl (one_cons rfl (one_cons rfl (one_cons rfl (one_cons rfl (one_cons rfl (one_cons rfl (one_cons rfl (one_cons rfl (one_cons rfl (one_cons rfl (one_cons rfl (one_cons rfl (one_cons rfl (one_cons rfl (one_cons rfl (one_cons rfl (one_cons rfl (one_cons rfl (one_cons rfl (one_cons rfl (one_cons rfl (one_cons rfl (one_cons rfl (one_cons rfl (one_cons rfl (one_cons rfl (one_cons rfl (one_cons rfl (one_cons rfl (one_cons rfl (one_cons rfl (one_cons rfl (one_cons rfl (one_cons rfl (one_cons rfl (one_cons rfl (one_cons rfl (one_cons rfl (one_cons rfl (one_cons (S.slI (i := 1) rfl).one (one_cons hdp.one one_nil))))))))))))))))))))))))))))))))))))))))))) S (i := 0) rfl rfl ?_
  intro w3 S
  refine asg1 rfl rfl ?_
  refine Ro.nil ?_
  refine Nrm.code ?_
  refine Run.seq ?_
  refine Run.seq ?_
  refine Run.region ?_
  refine mv1 rfl rfl ?_
  refine neq1 rfl rfl rfl ?_
  refine Ro.nil ?_
  refine Nrm.code ?_
  refine Run.cond rfl (fun hc2 => ?_) (fun hc2 => ?_)
  ·
    try simp only [Bool.or_eq_true, Bool.and_eq_true, Bool.or_eq_false_iff, Bool.and_eq_false_iff, decide_eq_true_eq, decide_eq_false_iff_not, Bool.not_eq_true', Bool.not_eq_false', Bool.not_eq_true, Bool.not_eq_false] at hc2
    refine Run.seq ?_
    refine Run.region ?_
    refine asg1 rfl rfl ?_
    refine Ro.nil ?_
    refine Nrm.code ?_
    refine Run.ret ?_
    refine Rt.one rfl rfl ?_
    exact ⟨by rw [canB, decide_eq_false hc2]; rfl, S.bl⟩
  ·
    try simp only [Bool.or_eq_true, Bool.and_eq_true, Bool.or_eq_false_iff, Bool.and_eq_false_iff, decide_eq_true_eq, decide_eq_false_iff_not, Bool.not_eq_true', Bool.not_eq_false', Bool.not_eq_true, Bool.not_eq_false] at hc2
    replace hc2 : parE b = 0 := by omega
    have hbl := parE_len hc2
    have hodt : ∀ o ∈ (parH b).opts, byt o.data := fun o ho => BSs.byts hop _ (List.mem_map_of_mem ho)
    have hby_u5 := serL_byt hpk.1 hpk.2.1 hodt hdp.1
    refine Run.skip ?_
    refine Nrm.code ?_
    refine Run.seq ?_
    refine Run.region ?_
    refine ldW rfl T28 S (i := 0) rfl rfl rfl rfl rfl ?_
    refine call (vs := [_]) ⟨⟨_, _, rfl, rfl⟩, trivial⟩ k30 rfl (c30 _ _ _ _ (S.osI (i := 1) rfl (hop.now S)) (hdp.now S) (by omega) (by omega) hpk.1 hpk.2.1 (hg.now S)) ?_
    rintro _ w4 ⟨u5, rfl, hF⟩
    have S := S.fb hF
    refine mv1 rfl rfl ?_
    refine extr1 rfl rfl rfl ?_
    refine extr1 rfl rfl rfl ?_
    refine asg1 rfl rfl ?_
    refine asg1 rfl rfl ?_
    refine Ro.nil ?_
    refine Nrm.code ?_
    refine Run.seq ?_
    refine Run.region ?_
    refine mv1 rfl rfl ?_
    refine eql1 rfl rfl rfl ?_
    refine mv1 rfl rfl ?_
    refine mv rfl rfl rfl rfl ?_
    refine mv rfl rfl rfl rfl ?_
    refine calg (vs := [_, _]) rfl ⟨⟨_, _, rfl, rfl⟩, ⟨_, _, rfl, rfl⟩, trivial⟩ k104 rfl (fun hG => c104 _ _ _ _ _ (hb.now S) (S.bsI (i := 0) rfl hby_u5)) ?_
    intro w5 B_; have S := S.call B_
    refine pkA rfl rfl rfl rfl rfl rfl ?_
    refine asg1 rfl rfl ?_
    refine Ro.nil ?_
    refine Nrm.code ?_
    refine Run.ret ?_
    refine Rt.one rfl rfl ?_
    exact ⟨by rw [canB, hc2]; rfl, S.bl⟩

end Go.Proofs.YtkahmepenjhcpaaDoor.W

/- The base of this seat's proofs, fifteenth part: bytes of a constant string. No statement of the seat is proved here. -/
namespace Go.Proofs.YtkahmepenjhcpaaDoor.W
open Go
set_option linter.unusedVariables false
set_option linter.unusedSimpArgs false

section op
variable {P : Program} {R : Qp} {ds : List Deferred} {n : Nat} {l : Env} {k : List KI} {w w0 : World} {ops : Array Oper} {os : List Oper}
variable {d d1 : Nat} {ty ty1 : TypeId} {ps ps1 : String} {af af1 : Array Edge} {N0 : List Nat} {L : List Own}

/-- given elements in a new row, the world told -/
theorem bslX {T E : TypeId} {sz by_ len : Nat} {zc c : List Value} {parts : List (Nat × Operand)} {qs : List (Nat × List Value)} (hE : ElT P T E sz by_ zc)
    (hp : Pts l [] (fun i => some (i * sz, sz)) parts qs) (hlen : Nat.ble (len * sz) 16777216 = true)
    (hf : fillN (List.replicate len zc).flatten qs = some c) (hn : Nat.blt d n = true)
    (h : Ro P R ds n ops ((d, [], .slice (some ⟨w.heap.size, 0, none⟩) len len) :: l) os k (w.alloc (.cells c.toArray E))) :
    Ro P R ds n ops l ({ dst := some d, op := .buildSlice T len parts.toArray, type := ty, pos := ps, after := af, guard := none } :: os) k w := by
  have hlen' : len * sz ≤ 16777216 := Nat.le_of_ble_eq_true hlen
  have hzl : ((List.replicate len zc).flatten).length = len * sz := by simp [hE.l]
  have hz : (Array.range (len * sz)).map (fun i => zc.toArray[i % zc.length]!) = ((List.replicate len zc).flatten).toArray := by
    have := range_rep zc (by rw [hE.l]; exact hE.p) len
    rwa [hE.l] at this ⊢
  generalize (List.replicate len zc).flatten = zs at hf hzl hz
  obtain ⟨i, z, g1, g2, g3, g4, g5⟩ := hE.get
  refine opw rfl rfl hn ?_ h
  intro a ha
  have hfr := fill_run _ qs zs c (Pts.get ha (show allT [] from trivial) hp) hf
  have e : (parts.toArray.map fun x => (x.1, a.eval x.2)).toList = parts.map fun p => (p.1, a.eval p.2) := by simp
  have hzc : z.cells = zc.toArray := by rw [← g5]
  have hbig : ¬ (16777216 < len * sz) := by omega
  simp only [execOp, Instr.buildSlice, Sem.run_bind, run_underlying hE.u, Result.andThen_ok, sizeOf, typeInfo, run_program, g1, Sem.run_pure, g2]
  by_cases h0 : len * sz = 0
  · have hzs : zs = [] := List.eq_nil_of_length_eq_zero (by omega)
    subst hzs
    simp [h0, newRow, Array.range_zero'] at *
    rw [hfr]
    simp
  · simp only [hbig, h0, if_false, Sem.run_ite, zeroValue, typeInfo, Sem.run_bind, run_program, Result.andThen_ok, g1, g4, Sem.run_pure, hzc]
    have e2 : (Array.range (len * sz)).map (fun x => zc.toArray[x % zc.toArray.size]!) = zs.toArray := by rw [← hz]; simp
    simp only [gt_iff_lt, Nat.reducePow, hbig, if_false, Sem.run_pure, Result.andThen_ok, e2]
    rw [e, hfr]
    simp [newRow]

/-- the bytes of a constant string: a new, marked row -/
theorem bsk {T : TypeId} {zc : List Value} {len : Nat} {b : List Int} {parts : List (Nat × Operand)} {qs : List (Nat × List Value)} (hE : ElT P T 5 1 1 zc) (h8 : P.underlying 5 = some (.int .u8)) (hb : byt b)
    (hp : Pts l [] (fun i => some (i * 1, 1)) parts qs) (hlen : Nat.ble (len * 1) 16777216 = true)
    (hf : fillN (List.replicate len zc).flatten qs = some (b.map u8)) (hl : b.length = len) (hn1 : Nat.blt d1 n = true) (hn : Nat.blt d n = true) (h0 : len ≠ 0) (S : St N0 w0 L w)
    (h : ∀ u v w', St N0 w0 L w' → Bl w w' → (∀ N, (∀ i ∈ N, i < w.heap.size) → BS N w' v b) → Ro P R ds n ops ((d, [], v) :: (d1, [], u) :: l) os k w') :
    Ro P R ds n ops l ({ dst := some d1, op := .buildSlice T len parts.toArray, type := ty1, pos := ps1, after := af1, guard := none } ::
      { dst := some d, op := .convert T T (.tmp d1), type := ty, pos := ps, after := af, guard := none } :: os) k w := by
  refine bslX hE hp hlen hf hn1 ?_
  have hB : Bl w (w.alloc (.cells (b.map u8).toArray 5 ((b.map u8).toArray.size, (b.map u8).toArray.size + 1))) := bl_alloc w _
  refine opw (v := .slice (some ⟨w.heap.size, 0, none⟩) len len) rfl rfl hn ?_ (h (.slice (some ⟨w.heap.size, 0, none⟩) len len) (.slice (some ⟨w.heap.size, 0, none⟩) len len) _ (S.call hB) hB ?_)
  · intro a ha
    have he : a.eval (.tmp d1) = .slice (some ⟨w.heap.size, 0, none⟩) len len := ha.eval (x := .tmp d1) (g := []) (by simp [ev, lk]) trivial
    simp only [execOp, he]
    rw [Sem.run_bind, Lib.run_convert_bytes_const w T 5 _ len len hE.u h8]
    rfl
  · intro N hN
    refine ⟨hb, by simp [hl], some ⟨w.heap.size, 0, none⟩, len, by rw [hl], by omega, (fun e => nomatch e), ?_⟩
    intro i hi
    refine ⟨_, rfl, rfl, fun hh => by have := hN _ hh; simp at this, ?_⟩
    have : (w.alloc (.cells (b.map u8).toArray 5 ((b.map u8).toArray.size, (b.map u8).toArray.size + 1))).heap[w.heap.size]? = some (.cells (b.map u8).toArray 5 ((b.map u8).toArray.size, (b.map u8).toArray.size + 1)) := by
      show (w.heap.push _)[w.heap.size]? = _
      simp
    simp only [Nat.zero_add]
    unfold World.cell?
    simp only [this]
    simp only [List.getElem?_toArray]
    rw [List.getElem?_eq_getElem hi]
    rfl
end op
end Go.Proofs.YtkahmepenjhcpaaDoor.W

/- Contracts: the plain datagram. No statement of the seat is proved here. -/
namespace Go.Proofs.YtkahmepenjhcpaaDoor.W
open Go
set_option linter.unusedSimpArgs false
set_option linter.unusedVariables false


def plainH : Ip4 := ⟨0, 0, false, false, 0, 64, 17, ip4of 10 0 0 1, ip4of 10 0 0 2, [], [104, 105]⟩
def plainB : List Int := [69, 0, 0, 22, 0, 0, 0, 0, 64, 17, 102, 213, 10, 0, 0, 1, 10, 0, 0, 2, 104, 105]
theorem plain_chk : chkE plainH = 0 := by decide +kernel
theorem plain_ser : serL plainH = plainB := by decide +kernel
theorem plain_opt : optE (optB4 plainB) = 0 ∧ optL (optB4 plainB) = [] := by
  have e : optB4 plainB = [] := by decide +kernel
  rw [e]; simp [optE, optL, optsG]
theorem plain_par : parE plainB = 0 := by
  unfold parE
  rw [plain_opt.1]
  decide +kernel
theorem plain_same : sameH (parH plainB) plainH = true := by
  unfold parH
  rw [if_pos plain_par]
  unfold sameH parG
  rw [plain_opt.2]
  decide +kernel
theorem par_nil : parE [] = 60 := by decide +kernel
theorem plainH_ok : plainH.src.ok ∧ plainH.dst.ok := ⟨ip4of_ok (by omega) (by omega) (by omega) (by omega), ip4of_ok (by omega) (by omega) (by omega) (by omega)⟩
theorem hi_byt : byt [104, 105] := by intro x hx; revert x; decide +kernel
theorem plainB_byt : byt plainB := by intro x hx; revert x; decide +kernel

set_option maxHeartbeats 1000000 in
theorem c92 (w : World) :
    CallsV Tryd.prog 92 #[] w (fun r w' => ∃ d v, r = .tuple #[.agg (encIp4 plainH (.slice none 0 0) d).toArray, v] ∧ Bl w w' ∧ ∀ N, (∀ i ∈ N, i < w.heap.size) → BS N w' d [104, 105] ∧ BS N w' v plainB) := by
  refine enter Tryd.func92 rfl Tryd.ntmps92 (l := []) rfl rfl ?_
  have S := St.refl [] w
  refine Run.seq ?_
  refine Run.region ?_
  refine alc T28 S rfl ?_
  intro b0 w1 hb0 S B_
  refine asg1 rfl rfl ?_
  refine Ro.nil ?_
  refine Nrm.code ?_
  refine Run.seq ?_
  refine Run.region ?_
  refine bldA rfl (sz := 1) (E := 5) (m := 16) Tryd.underlying22 T22 T5 (qs := [(_, _), (_, _), (_, _), (_, _)]) ⟨⟨_, _, _, rfl, rfl, rfl, rfl, by simp [Value.cells]⟩, ⟨_, _, _, rfl, rfl, rfl, rfl, by simp [Value.cells]⟩, ⟨_, _, _, rfl, rfl, rfl, rfl, by simp [Value.cells]⟩, ⟨_, _, _, rfl, rfl, rfl, rfl, by simp [Value.cells]⟩, trivial⟩ rfl rfl ?_
  refine bld B24 (qs := [(_, _), (_, _)]) ⟨⟨_, _, _, rfl, rfl, rfl, rfl, by simp [Value.cells]⟩, ⟨_, _, _, rfl, rfl, rfl, rfl, by simp [Value.cells]⟩, trivial⟩ rfl rfl rfl ?_
  refine bldA rfl (sz := 1) (E := 5) (m := 16) Tryd.underlying22 T22 T5 (qs := [(_, _), (_, _), (_, _), (_, _)]) ⟨⟨_, _, _, rfl, rfl, rfl, rfl, by simp [Value.cells]⟩, ⟨_, _, _, rfl, rfl, rfl, rfl, by simp [Value.cells]⟩, ⟨_, _, _, rfl, rfl, rfl, rfl, by simp [Value.cells]⟩, ⟨_, _, _, rfl, rfl, rfl, rfl, by simp [Value.cells]⟩, trivial⟩ rfl rfl ?_
  refine bld B24 (qs := [(_, _), (_, _)]) ⟨⟨_, _, _, rfl, rfl, rfl, rfl, by simp [Value.cells]⟩, ⟨_, _, _, rfl, rfl, rfl, rfl, by simp [Value.cells]⟩, trivial⟩ rfl rfl rfl ?_
  refine bsk (b := [104, 105]) e26 Tryd.underlying5 hi_byt (qs := [(_, _), (_, _)]) ⟨⟨_, _, _, rfl, rfl, rfl, rfl, by simp [Value.cells]⟩, ⟨_, _, _, rfl, rfl, rfl, rfl, by simp [Value.cells]⟩, trivial⟩ rfl rfl rfl rfl rfl (by decide) S ?_
  have S0 := S
  intro u q w2 S B_ hq
  have hq1 := hq [] (by simp)
  have Sb := S
  have S := S.rebase
  refine bld B28 (qs := [(_, _), (_, _), (_, _), (_, _), (_, _)]) ⟨⟨_, _, _, rfl, rfl, rfl, rfl, by simp [Value.cells]⟩, ⟨_, _, _, rfl, rfl, rfl, rfl, by simp [Value.cells]⟩, ⟨_, _, _, rfl, rfl, rfl, rfl, by simp [Value.cells]⟩, ⟨_, _, _, rfl, rfl, rfl, rfl, by simp [Value.cells]⟩, ⟨_, _, _, rfl, rfl, cells1 hq1.one, rfl, List.cons_ne_nil _ _⟩, trivial⟩ rfl rfl rfl ?_
  refine alc T28 S rfl ?_
  intro b2 w3 hb2 S B_
  refine stW rfl rfl T28 rfl rfl (one_cons rfl (one_cons rfl (one_cons rfl (one_cons rfl (one_cons rfl (one_cons rfl (one_cons rfl (one_cons rfl (one_cons rfl (one_cons rfl (one_cons rfl (one_cons rfl (one_cons rfl (one_cons rfl (one_cons rfl (one_cons rfl (one_cons rfl (one_cons rfl (one_cons rfl (one_cons rfl (one_cons rfl (one_cons rfl (one_cons rfl (one_cons rfl (one_cons rfl (one_cons rfl (one_cons rfl (one_cons rfl (one_cons rfl (one_cons rfl (one_cons rfl (one_cons rfl (one_cons rfl (one_cons rfl (one_cons rfl (one_cons rfl (one_cons rfl (one_cons rfl (one_cons rfl (one_cons rfl (one_cons rfl (one_cons rfl (one_cons hq1.one one_nil))))))))))))))))))))))))))))))))))))))))))) S (i := 0) rfl rfl ?_
  intro w4 S
  refine Ro.nil ?_
  refine Nrm.code ?_
  refine Run.seq ?_
  refine Run.region ?_
  refine ldW rfl T28 S (i := 0) rfl rfl rfl rfl rfl ?_
  refine bsl e26 (qs := [(_, _), (_, _), (_, _), (_, _), (_, _), (_, _), (_, _), (_, _), (_, _), (_, _), (_, _), (_, _), (_, _), (_, _), (_, _), (_, _), (_, _), (_, _), (_, _), (_, _), (_, _), (_, _)]) ⟨⟨_, _, _, rfl, rfl, rfl, rfl, by simp [Value.cells]⟩, ⟨_, _, _, rfl, rfl, rfl, rfl, by simp [Value.cells]⟩, ⟨_, _, _, rfl, rfl, rfl, rfl, by simp [Value.cells]⟩, ⟨_, _, _, rfl, rfl, rfl, rfl, by simp [Value.cells]⟩, ⟨_, _, _, rfl, rfl, rfl, rfl, by simp [Value.cells]⟩, ⟨_, _, _, rfl, rfl, rfl, rfl, by simp [Value.cells]⟩, ⟨_, _, _, rfl, rfl, rfl, rfl, by simp [Value.cells]⟩, ⟨_, _, _, rfl, rfl, rfl, rfl, by simp [Value.cells]⟩, ⟨_, _, _, rfl, rfl, rfl, rfl, by simp [Value.cells]⟩, ⟨_, _, _, rfl, rfl, rfl, rfl, by simp [Value.cells]⟩, ⟨_, _, _, rfl, rfl, rfl, rfl, by simp [Value.cells]⟩, ⟨_, _, _, rfl, rfl, rfl, rfl, by simp [Value.cells]⟩, ⟨_, _, _, rfl, rfl, rfl, rfl, by simp [Value.cells]⟩, ⟨_, _, _, rfl, rfl, rfl, rfl, by simp [Value.cells]⟩, ⟨_, _, _, rfl, rfl, rfl, rfl, by simp [Value.cells]⟩, ⟨_, _, _, rfl, rfl, rfl, rfl, by simp [Value.cells]⟩, ⟨_, _, _, rfl, rfl, rfl, rfl, by simp [Value.cells]⟩, ⟨_, _, _, rfl, rfl, rfl, rfl, by simp [Value.cells]⟩, ⟨_, _, _, rfl, rfl, rfl, rfl, by simp [Value.cells]⟩, ⟨_, _, _, rfl, rfl, rfl, rfl, by simp [Value.cells]⟩, ⟨_, _, _, rfl, rfl, rfl, rfl, by simp [Value.cells]⟩, ⟨_, _, _, rfl, rfl, rfl, rfl, by simp [Value.cells]⟩, trivial⟩ rfl rfl rfl rfl S ?_
  intro u11 w5 S B_
  refine stW rfl rfl T28 rfl rfl (one_cons rfl (one_cons rfl (one_cons rfl (one_cons rfl (one_cons rfl (one_cons rfl (one_cons rfl (one_cons rfl (one_cons rfl (one_cons rfl (one_cons rfl (one_cons rfl (one_cons rfl (one_cons rfl (one_cons rfl (one_cons rfl (one_cons rfl (one_cons rfl (one_cons rfl (one_cons rfl (one_cons rfl (one_cons rfl (one_cons rfl (one_cons rfl (one_cons rfl (one_cons rfl (one_cons rfl (one_cons rfl (one_cons rfl (one_cons rfl (one_cons rfl (one_cons rfl (one_cons rfl (one_cons rfl (one_cons rfl (one_cons rfl (one_cons rfl (one_cons rfl (one_cons rfl (one_cons rfl (one_cons rfl (one_cons rfl (one_cons hq1.one one_nil))))))))))))))))))))))))))))))))))))))))))) S (i := 2) rfl rfl ?_
  intro w6 S
  refine asg1 rfl rfl ?_
  refine Ro.nil ?_
  refine Nrm.code ?_
  refine Run.ret ?_
  refine Rt.cell2 rfl rfl rfl T28 S (i := 2) rfl rfl ?_
  exact ⟨q, u11, rfl, (Sb.trans S).bl, fun N hN => ⟨((hq _ (below_app S0 hN)).stN (fun _ h => List.mem_append_left _ h) S).weak (fun j hj => List.mem_append_right _ (List.mem_append_right _ hj)), ((Sb.trans S).toFB (i := 0) (l := plainB) rfl).bs plainB_byt hN⟩⟩

set_option maxHeartbeats 1000000 in
theorem c28 (w : World) (hg : GV [] w 0 130 (W4.map i64)) :
    CallsD Tryd.prog 28 #[] w (.bool true) := by
  refine enter Tryd.func28 rfl Tryd.ntmps28 (l := []) rfl rfl ?_
  have S := St.refl [] w
  refine Run.seq ?_
  refine Run.region ?_
  refine asg1 rfl rfl ?_
  refine Ro.nil ?_
  refine Nrm.code ?_
  refine Run.seq ?_
  refine Run.region ?_
  refine call (vs := []) trivial k92 rfl (c92 _) ?_
  rintro _ w1 ⟨d1, v1, rfl, B1, hq⟩
  have Sb := S.call B1
  have hg := (hg.now Sb)
  have S := St.refl [] w1
  have hd1 := (hq [] (by simp)).1
  have hv1 := (hq [] (by simp)).2
  refine mv1 rfl rfl ?_
  refine extr1 rfl rfl rfl ?_
  refine extr1 rfl rfl rfl ?_
  refine alc T28 S rfl ?_
  intro b1 w2 hb1 S B_
  refine stW rfl rfl T28 rfl rfl (one_cons rfl (one_cons rfl (one_cons rfl (one_cons rfl (one_cons rfl (one_cons rfl (one_cons rfl (one_cons rfl (one_cons rfl (one_cons rfl (one_cons rfl (one_cons rfl (one_cons rfl (one_cons rfl (one_cons rfl (one_cons rfl (one_cons rfl (one_cons rfl (one_cons rfl (one_cons rfl (one_cons rfl (one_cons rfl (one_cons rfl (one_cons rfl (one_cons rfl (one_cons rfl (one_cons rfl (one_cons rfl (one_cons rfl (one_cons rfl (one_cons rfl (one_cons rfl (one_cons rfl (one_cons rfl (one_cons rfl (one_cons rfl (one_cons rfl (one_cons rfl (one_cons rfl (one_cons rfl (one_cons rfl (one_cons rfl (one_cons hd1.one one_nil))))))))))))))))))))))))))))))))))))))))))) S (i := 0) rfl rfl ?_
  intro w3 S
  refine asg1 rfl rfl ?_
  refine Ro.nil ?_
  refine Nrm.code ?_
  refine Run.seq ?_
  refine Run.region ?_
  refine ldW rfl T28 S (i := 0) rfl rfl rfl rfl rfl ?_
  refine call (vs := [_]) ⟨⟨_, _, rfl, rfl⟩, trivial⟩ k30 rfl (c30 _ _ _ _ (OS.nil _ _) (hd1.now S) (by decide) (by decide) plainH_ok.1 plainH_ok.2 (hg.now S)) ?_
  rintro _ w4 ⟨u3, rfl, hF⟩
  have S := S.fb hF
  refine mv1 rfl rfl ?_
  refine extr1 rfl rfl rfl ?_
  refine extr1 rfl rfl rfl ?_
  refine asg1 rfl rfl ?_
  refine asg1 rfl rfl ?_
  refine Ro.nil ?_
  refine Nrm.code ?_
  refine Run.seq ?_
  refine Run.region ?_
  refine mv1 rfl rfl ?_
  refine call (vs := [_]) ⟨⟨_, _, rfl, rfl⟩, trivial⟩ k33 rfl (c33 _ _ _ (hv1.now S) (hg.now S)) ?_
  rintro _ w5 ⟨o5, d5, vs5, rfl, hF, hw5⟩
  have S := S.fo hF
  have hd5 := (hw5 _ _ hv1).2
  have ho5 := (hw5 _ _ hv1).1
  refine mv1 rfl rfl ?_
  refine extr1 rfl rfl rfl ?_
  refine extr1 rfl rfl rfl ?_
  refine alc T28 S rfl ?_
  intro b5 w6 hb5 S B_
  refine stW rfl rfl T28 rfl rfl (one_cons rfl (one_cons rfl (one_cons rfl (one_cons rfl (one_cons rfl (one_cons rfl (one_cons rfl (one_cons rfl (one_cons rfl (one_cons rfl (one_cons rfl (one_cons rfl (one_cons rfl (one_cons rfl (one_cons rfl (one_cons rfl (one_cons rfl (one_cons rfl (one_cons rfl (one_cons rfl (one_cons rfl (one_cons rfl (one_cons rfl (one_cons rfl (one_cons rfl (one_cons rfl (one_cons rfl (one_cons rfl (one_cons rfl (one_cons rfl (one_cons rfl (one_cons rfl (one_cons rfl (one_cons rfl (one_cons rfl (one_cons rfl (one_cons rfl (one_cons rfl (one_cons rfl (one_cons rfl (one_cons rfl (one_cons (S.slI (i := 1) rfl).one (one_cons hd5.one one_nil))))))))))))))))))))))))))))))))))))))))))) S (i := 0) rfl rfl ?_
  intro w7 S
  refine asg1 rfl rfl ?_
  refine Ro.nil ?_
  refine Nrm.code ?_
  refine Run.seq ?_
  refine Run.region ?_
  refine call (vs := [_]) ⟨⟨_, _, rfl, rfl⟩, trivial⟩ k33 rfl (c33 _ _ _ (BS.nil _ _) (hg.now S)) ?_
  rintro _ w8 ⟨o7, d7, vs7, rfl, hF, hw7⟩
  have S := S.fo hF
  have hd7 := (hw7 _ _ (BS.nil [] w1)).2
  have ho7 := (hw7 _ _ (BS.nil [] w1)).1
  refine mv1 rfl rfl ?_
  refine extr1 rfl rfl rfl ?_
  refine extr1 rfl rfl rfl ?_
  refine alc T28 S rfl ?_
  intro b7 w9 hb7 S B_
  refine stW rfl rfl T28 rfl rfl (one_cons rfl (one_cons rfl (one_cons rfl (one_cons rfl (one_cons rfl (one_cons rfl (one_cons rfl (one_cons rfl (one_cons rfl (one_cons rfl (one_cons rfl (one_cons rfl (one_cons rfl (one_cons rfl (one_cons rfl (one_cons rfl (one_cons rfl (one_cons rfl (one_cons rfl (one_cons rfl (one_cons rfl (one_cons rfl (one_cons rfl (one_cons rfl (one_cons rfl (one_cons rfl (one_cons rfl (one_cons rfl (one_cons rfl (one_cons rfl (one_cons rfl (one_cons rfl (one_cons rfl (one_cons rfl (one_cons rfl (one_cons rfl (one_cons rfl (one_cons rfl (one_cons rfl (one_cons rfl (one_cons rfl (one_cons (S.slI (i := 1) rfl).one (one_cons hd7.one one_nil))))))))))))))))))))))))))))))))))))))))))) S (i := 0) rfl rfl ?_
  intro w10 S
  refine asg1 rfl rfl ?_
  refine Ro.nil ?_
  refine Nrm.code ?_
  refine Run.seq ?_
  refine Run.region ?_
  refine mv1 rfl rfl ?_
  refine calg (vs := [_]) rfl ⟨⟨_, _, rfl, rfl⟩, trivial⟩ k31 rfl (fun hG => c31 (chkE plainH) _ (by rw [plain_chk]; decide)) ?_
  intro w11 B_; have S := S.call B_
  refine eql1 rfl rfl rfl ?_
  refine mv1 rfl rfl ?_
  refine mv rfl rfl rfl rfl ?_
  refine calg (vs := [_]) rfl ⟨⟨_, _, rfl, rfl⟩, trivial⟩ k31 rfl (fun hG => c31 (parE plainB) _ (by rw [plain_par]; decide)) ?_
  intro w12 B_; have S := S.call B_
  refine eql rfl rfl rfl rfl rfl rfl ?_
  refine pkA rfl rfl rfl rfl rfl rfl ?_
  refine mv1 rfl rfl ?_
  refine mv rfl rfl rfl rfl ?_
  refine calg (vs := [_]) rfl ⟨⟨_, _, rfl, rfl⟩, trivial⟩ k31 rfl (fun hG => c31 (parE []) _ (by rw [par_nil]; decide)) ?_
  intro w13 B_; have S := S.call B_
  refine eql rfl rfl rfl rfl rfl rfl ?_
  refine pkA rfl rfl rfl rfl rfl rfl ?_
  refine mv1 rfl rfl ?_
  refine mv rfl rfl rfl rfl ?_
  refine mv rfl rfl rfl rfl ?_
  have hby_u3 : byt (serL plainH) := by rw [plain_ser]; exact plainB_byt
  refine calg (vs := [_, _]) rfl ⟨⟨_, _, rfl, rfl⟩, ⟨_, _, rfl, rfl⟩, trivial⟩ k37 rfl (fun hG => c37 _ _ _ _ _ (hv1.now S) (S.bsI (i := 4) rfl hby_u3)) ?_
  intro w14 B_; have S := S.call B_
  refine pkA rfl rfl rfl rfl rfl rfl ?_
  refine mv1 rfl rfl ?_
  refine ldW rfl T28 S (i := 2) rfl rfl rfl rfl rfl ?_
  refine ldW rfl T28 S (i := 5) rfl rfl rfl rfl rfl ?_
  refine calg (vs := [_, _]) rfl ⟨⟨_, _, rfl, rfl⟩, ⟨_, _, rfl, rfl⟩, trivial⟩ k34 rfl (fun hG => c34 _ _ _ _ _ _ _ (S.osI (i := 3) rfl (ho5.now S)) (hd5.now S) (OS.nil _ _) (hd1.now S) (by have := (parH_ok plainB_byt).2.2.1; omega)) ?_
  intro w15 B_; have S := S.call B_
  refine pkA rfl rfl rfl rfl rfl rfl ?_
  refine asg1 rfl rfl ?_
  refine Ro.nil ?_
  refine Nrm.code ?_
  refine Run.ret ?_
  refine Rt.one rfl rfl ?_
  exact ⟨by simp [plain_chk, plain_par, par_nil, plain_ser, plain_same], Sb.bl.trans S.bl⟩

end Go.Proofs.YtkahmepenjhcpaaDoor.W

/- Plain laws of datagrams: what is written is read as it was. No program walked here; no statement of the seat is proved here. -/
namespace Go.Proofs.YtkahmepenjhcpaaDoor.W
open Go
set_option linter.unusedVariables false
set_option linter.unusedSimpArgs false

theorem optsG_zeros : ∀ m, optsG (List.replicate m 0) = some []
  | 0 => by rw [List.replicate_zero, optsG]
  | 1 => by show optsG [0] = _; rw [optsG]; simp
  | m + 2 => by show optsG (0 :: 0 :: List.replicate m 0) = _; rw [optsG]; simp
theorem optsG_put : ∀ (os : List Opt), os.all okO = true → ∀ m, optsG (optsB os ++ List.replicate m 0) = some os
  | [], _, m => by rw [optsB_nil, List.nil_append]; exact optsG_zeros m
  | o :: os, hk, m => by
    simp only [List.all_cons, Bool.and_eq_true] at hk
    have h1 := okO_iff.1 hk.1
    have ih := optsG_put os hk.2 m
    have e : optsB (o :: os) ++ List.replicate m 0 = o.kind :: (2 + (o.data.length : Int)) :: (o.data ++ (optsB os ++ List.replicate m 0)) := by simp [optsB, optB]
    rw [e, optsG]
    have e2 : (2 + (o.data.length : Int)).toNat - 2 = o.data.length := by omega
    rw [if_neg (by omega), if_neg (by omega), e2, if_neg (by rw [List.length_append]; omega), List.drop_left', List.take_left', ih]
    · simp
    · rfl
    · rfl
theorem putE_zero {os : List Opt} (h : putE os = 0) : putOk os = true := by
  unfold putE at h
  cases hp : putOk os with
  | true => rfl
  | false => rw [hp] at h; simp at h
theorem opt_back {os : List Opt} (h : putOk os = true) : optE (putL os) = 0 ∧ optL (putL os) = os := by
  have hl := putL_len os
  have e : optsG (putL os) = some os := by
    unfold putL
    rw [if_pos h]
    simp only [putOk, Bool.and_eq_true] at h
    exact optsG_put os h.1 _
  have : ¬ 40 < (putL os).length := by omega
  simp [optE, optL, this, e]

/-- a datagram's first twenty bytes, the sum in its place -/
def hd20 (h : Ip4) : List Int :=
  [4 * 16 + (20 + ((putL h.opts).length : Int)) / 4, h.tos, (20 + ((putL h.opts).length : Int) + (h.data.length : Int)) / 256, (20 + ((putL h.opts).length : Int) + (h.data.length : Int)) % 256, h.id / 256, h.id % 256,
   bI h.df * 64 + bI h.mf * 32 + h.off / 8 / 256, h.off / 8 % 256, h.ttl, h.proto, sumC h / 256, sumC h % 256, h.src.a 0, h.src.a 1, h.src.a 2, h.src.a 3, h.dst.a 0, h.dst.a 1, h.dst.a 2, h.dst.a 3]
theorem serB_eq (h : Ip4) : serB h = hd20 h ++ (putL h.opts ++ h.data) := by
  simp [serB, headB, top10, hdr12, four4, hd20]
theorem foldS_fix {w c : Int} (hw : 0 < w) (hc : c = 65535 - foldS w) : foldS (w + c) = 65535 := by
  subst hc; unfold foldS; (repeat' split) <;> omega
theorem sum_right {h : Ip4} (hb : byt (headB h)) (h0 : 0 < (20 + ((putL h.opts).length : Int)) / 4) : sumS (hd20 h ++ putL h.opts) = 65535 := by
  have e0 : headB h = [4 * 16 + (20 + ((putL h.opts).length : Int)) / 4, h.tos, (20 + ((putL h.opts).length : Int) + (h.data.length : Int)) / 256, (20 + ((putL h.opts).length : Int) + (h.data.length : Int)) % 256, h.id / 256, h.id % 256,
   bI h.df * 64 + bI h.mf * 32 + h.off / 8 / 256, h.off / 8 % 256, h.ttl, h.proto, 0, 0, h.src.a 0, h.src.a 1, h.src.a 2, h.src.a 3, h.dst.a 0, h.dst.a 1, h.dst.a 2, h.dst.a 3] ++ putL h.opts := by
    simp [headB, top10, hdr12, four4]
  have e1 : wsum true (hd20 h ++ putL h.opts) = wsum true (headB h) + sumC h := by
    rw [e0]
    simp only [hd20, List.cons_append, List.nil_append, wsum]
    omega
  have hw : 0 < wsum true (headB h) := by
    have hall := hb
    rw [e0] at hall ⊢
    have hp := (wsum_bd (putL h.opts) true (fun x hx => hall x (by simp [hx]))).1
    have g := fun x (hx : x ∈ _) => hall x (List.mem_append_left _ hx)
    simp only [List.mem_cons, List.not_mem_nil, or_false, forall_eq_or_imp, forall_eq] at g
    simp only [List.cons_append, List.nil_append, wsum]
    omega
  show foldS (wsum true _) = 65535
  rw [e1]
  exact foldS_fix hw rfl
/-- a datagram that may be one, its addresses' last twelve places told -/
def norm4 (x : IP) : IP := ip4of (x.a 0) (x.a 1) (x.a 2) (x.a 3)
def normH (h : Ip4) : Ip4 := { h with src := norm4 h.src, dst := norm4 h.dst }
theorem norm_same {x : IP} (h : fourB x = true) : sameB (norm4 x) x = true := by
  rw [sameB_iff]
  simp only [fourB, Bool.and_eq_true, decide_eq_true_eq, List.all_eq_true, List.mem_range, Bool.or_eq_true] at h
  refine ⟨h.1.symm, fun i hi => ?_⟩
  have h2 := h.2 i hi
  simp only [norm4, ip4of]
  by_cases h0 : i = 0
  · subst h0; rfl
  · by_cases h1 : i = 1
    · subst h1; rfl
    · by_cases h3 : i = 2
      · subst h3; rfl
      · by_cases h4 : i = 3
        · subst h4; rfl
        · rw [if_neg h0, if_neg h1, if_neg h3, if_neg h4]
          rcases h2 with h2 | h2
          · omega
          · exact h2.symm
theorem normH_same {h : Ip4} (hb : badF h = false) : sameH (normH h) h = true := by
  have g := badF_off hb
  have h1 := norm_same g.2.2.2.2.2.2.2.2.2.2.2.1
  have h2 := norm_same g.2.2.2.2.2.2.2.2.2.2.2.2
  have h3 : sameOs h.opts h.opts = true := sameOs_iff.2 rfl
  simp only [sameH, diffH, normH, h1, h2, h3]
  simp

theorem ser_back {h : Ip4} (hc : chkE h = 0) (h1 : h.src.ok) (h2 : h.dst.ok) (hd : ∀ o ∈ h.opts, W.byt o.data) : parE (serB h) = 0 ∧ parH (serB h) = normH h := by
  obtain ⟨c1, c2, c3, c4⟩ := chkE_zero hc
  have g := badF_off c1
  have hl := putL_len h.opts
  have hp := putE_zero c2
  have ho := opt_back hp
  have hdf := bI_bd h.df
  have hmf := bI_bd h.mf
  have hX := headB_byt hc h1 h2 hd
  have hs := sum_right hX (by omega)
  have hsc := sumC_bd hX
  have e := serB_eq h
  have hlen : (serB h).length = 20 + (putL h.opts).length + h.data.length := by rw [e]; simp [hd20]; omega
  have ht : (serB h).take (20 + (putL h.opts).length) = hd20 h ++ putL h.opts := by
    rw [e, ← List.append_assoc]
    exact List.take_left' (by simp [hd20]; omega)
  have hdr : (serB h).drop 20 = putL h.opts ++ h.data := by
    rw [e]; exact List.drop_left' (by simp [hd20])
  have hdd : (serB h).drop (20 + (putL h.opts).length) = h.data := by
    rw [e, ← List.append_assoc]
    exact List.drop_left' (by simp [hd20]; omega)
  have b0 : (serB h).getD 0 0 = 4 * 16 + (20 + ((putL h.opts).length : Int)) / 4 := by rw [e]; rfl
  have b1 : (serB h).getD 1 0 = h.tos := by rw [e]; rfl
  have b2 : (serB h).getD 2 0 = (20 + ((putL h.opts).length : Int) + (h.data.length : Int)) / 256 := by rw [e]; rfl
  have b3 : (serB h).getD 3 0 = (20 + ((putL h.opts).length : Int) + (h.data.length : Int)) % 256 := by rw [e]; rfl
  have b4 : (serB h).getD 4 0 = h.id / 256 := by rw [e]; rfl
  have b5 : (serB h).getD 5 0 = h.id % 256 := by rw [e]; rfl
  have b6 : (serB h).getD 6 0 = bI h.df * 64 + bI h.mf * 32 + h.off / 8 / 256 := by rw [e]; rfl
  have b7 : (serB h).getD 7 0 = h.off / 8 % 256 := by rw [e]; rfl
  have b8 : (serB h).getD 8 0 = h.ttl := by rw [e]; rfl
  have b9 : (serB h).getD 9 0 = h.proto := by rw [e]; rfl
  have i12 : ipOf (serB h) 12 = norm4 h.src := by rw [e]; rfl
  have i16 : ipOf (serB h) 16 = norm4 h.dst := by rw [e]; rfl
  have hh : hdN (serB h) = 20 + (putL h.opts).length := by unfold hdN; rw [b0]; omega
  have htt : totN (serB h) = 20 + (putL h.opts).length + h.data.length := by unfold totN totI; rw [b2, b3]; omega
  have hof : 8 * offW (serB h) = h.off := by unfold offW; rw [b6, b7]; omega
  have hb1 : bI true = 1 := rfl
  have hb0 : bI false = 0 := rfl
  have hm : decide ((serB h).getD 6 0 / 32 % 2 = 1) = h.mf := by
    rw [b6]
    cases hmm : h.mf with
    | true => rw [hb1]; exact decide_eq_true (by omega)
    | false => rw [hb0]; exact decide_eq_false (by omega)
  have hf : decide ((serB h).getD 6 0 / 64 % 2 = 1) = h.df := by
    rw [b6]
    cases hmm : h.df with
    | true => rw [hb1]; exact decide_eq_true (by omega)
    | false => rw [hb0]; exact decide_eq_false (by omega)
  have hop : optB4 (serB h) = putL h.opts := by
    unfold optB4
    rw [hh, hdr]
    exact List.take_left' (by omega)
  have hpe : parE (serB h) = 0 := by
    unfold parE
    rw [hop, ho.1, hh, htt, ht, hs, hlen, hm, hof, b0, if_neg (by omega), if_neg (by omega), if_neg (by omega), if_neg (by omega), if_neg (by omega), if_neg (by omega), if_neg (by omega)]
    have : (((20 + (putL h.opts).length + h.data.length : Nat) : Int) - ((20 + (putL h.opts).length : Nat) : Int)) = h.data.length := by omega
    rw [this]; exact c4
  refine ⟨hpe, ?_⟩
  unfold parH
  rw [if_pos hpe]
  unfold parG
  rw [hop, ho.2, hh, htt, hm, hof, hf, b1, b4, b5, b8, b9, i12, i16, hdd]
  have e3 : h.id / 256 * 256 + h.id % 256 = h.id := by omega
  have e4 : h.data.take (20 + (putL h.opts).length + h.data.length - (20 + (putL h.opts).length)) = h.data := List.take_of_length_le (by omega)
  rw [e3, e4]
  rfl
theorem norm_four (x : IP) : four4 (norm4 x) = four4 x := rfl
theorem norm_fourB (x : IP) : fourB (norm4 x) = true := by
  unfold fourB
  simp only [Bool.and_eq_true, decide_eq_true_eq, List.all_eq_true, List.mem_range, Bool.or_eq_true]
  refine ⟨rfl, fun i hi => ?_⟩
  by_cases h : i < 4
  · exact Or.inl h
  · refine Or.inr ?_
    simp only [norm4, ip4of]
    rw [if_neg (by omega), if_neg (by omega), if_neg (by omega), if_neg (by omega)]
theorem chk_norm {h : Ip4} (hc : chkE h = 0) : chkE (normH h) = 0 := by
  obtain ⟨c1, c2, c3, c4⟩ := chkE_zero hc
  have hb : badF (normH h) = false := by
    have g := c1
    simp only [badF, Bool.or_eq_false_iff] at g ⊢
    exact ⟨⟨g.1.1, by simp [normH, norm_fourB]⟩, by simp [normH, norm_fourB]⟩
  unfold chkE
  rw [hb]
  simp only [Bool.false_eq_true, if_false]
  show (if putE h.opts ≠ 0 then _ else _) = (0 : Int)
  rw [if_neg (by omega)]
  show (if 65535 < 20 + ((putL h.opts).length : Int) + h.data.length then _ else _) = (0 : Int)
  rw [if_neg (by omega)]
  exact c4
theorem ser_norm {h : Ip4} (hc : chkE h = 0) : serL (normH h) = serL h := by
  unfold serL
  rw [if_pos hc, if_pos (chk_norm hc)]
  rfl
theorem ser_canon {h : Ip4} (hc : chkE h = 0) (h1 : h.src.ok) (h2 : h.dst.ok) (hd : ∀ o ∈ h.opts, W.byt o.data) : canB (serL h) = true := by
  have e : serL h = serB h := by unfold serL; rw [if_pos hc]
  have hb := ser_back hc h1 h2 hd
  unfold canB
  rw [e, hb.1, hb.2, chk_norm hc, ser_norm hc, e]
  simp
end Go.Proofs.YtkahmepenjhcpaaDoor.W

/- The base: what a callee may turn of its caller's; regions that draw their order, with calls that only read taken first; functions that hold variables. No statement of the seat is proved here. -/
namespace Go.Proofs.YtkahmepenjhcpaaDoor.W
open Go
set_option linter.unusedVariables false
set_option linter.unusedSimpArgs false

/-! ### what a callee turns -/
structure Tn (w w' : World) (o o' : Own) : Prop where
  os : w'.os = w.os
  tape : w'.tape = w.tape
  output : w'.output = w.output
  size : w.heap.size ≤ w'.heap.size
  keep : ∀ i, i < w.heap.size → i ∉ o.ids → w'.heap[i]? = w.heap[i]?
  hold : o'.holds w'
  ids : ∀ i ∈ o'.ids, i ∈ o.ids ∨ w.heap.size ≤ i
section
variable {N0 N1 N : List Nat} {w0 w w' : World} {L L' : List Own} {o o' : Own} {i j : Nat}
theorem St.tn (S : St N0 w0 L w) (hk : getN L i = some o) (hL : setN L i o' = some L') (T : Tn w w' o o') : St N0 w0 L' w' := by
  obtain ⟨A, B, rfl, rfl⟩ := setN_get hL hk
  exact S.turn T.os T.tape T.output T.size T.keep T.hold T.ids
theorem St.own0 (h : o.holds w) : St o.ids w [o] w :=
  ⟨rfl, rfl, rfl, Nat.le_refl _, fun _ _ _ => rfl, fun i _ h => by simpa [idsL] using h, fun p hp => by rw [List.mem_singleton.1 hp]; exact h, by simpa [idsL] using Own.ids_nodup o⟩
theorem St.toTn (S : St o.ids w L w') (hk : getN L i = some o') : Tn w w' o o' := by
  rw [getN_eq] at hk
  have hm := List.mem_of_getElem? hk
  refine ⟨S.os, S.tape, S.output, S.size, S.keep, S.hold _ hm, fun j hj => ?_⟩
  rcases Nat.lt_or_ge j w.heap.size with h | h
  · left
    rcases Classical.em (j ∈ o.ids) with h2 | h2
    · exact h2
    · exact absurd (List.mem_flatMap.2 ⟨_, hm, hj⟩) (S.off j h h2)
  · exact .inr h
theorem idsL_disj : ∀ {L : List Own} {i j : Nat} {o o' : Own}, (idsL L).Nodup → getN L i = some o → getN L j = some o' → i ≠ j → ∀ x ∈ o.ids, x ∉ o'.ids
  | [], _, _, _, _, _, h, _, _ => by simp [getN] at h
  | p :: L, 0, 0, _, _, _, _, _, hn => absurd rfl hn
  | p :: L, 0, j + 1, o, o', hd, h1, h2, _ => fun x hx hx' => by
    simp only [getN, Option.some.injEq] at h1 h2
    subst h1
    rw [getN_eq] at h2
    simp only [idsL, List.flatMap_cons] at hd
    exact (List.nodup_append.1 hd).2.2 x hx x (List.mem_flatMap.2 ⟨_, List.mem_of_getElem? h2, hx'⟩) rfl
  | p :: L, i + 1, 0, o, o', hd, h1, h2, _ => fun x hx hx' => by
    simp only [getN, Option.some.injEq] at h1 h2
    subst h2
    rw [getN_eq] at h1
    simp only [idsL, List.flatMap_cons] at hd
    exact (List.nodup_append.1 hd).2.2 x hx' x (List.mem_flatMap.2 ⟨_, List.mem_of_getElem? h1, hx⟩) rfl
  | p :: L, i + 1, j + 1, o, o', hd, h1, h2, hn => by
    simp only [getN] at h1 h2
    simp only [idsL, List.flatMap_cons] at hd
    exact idsL_disj (L := L) (List.nodup_append.1 hd).2.1 h1 h2 (by omega)
theorem St.hold_at (S : St N0 w0 L w) (hk : getN L i = some o) : o.holds w := by
  rw [getN_eq] at hk; exact S.hold _ (List.mem_of_getElem? hk)
theorem ids_sub (hk : getN L i = some o) : ∀ x ∈ o.ids, x ∈ idsL L := fun x hx => by
  rw [getN_eq] at hk; exact List.mem_flatMap.2 ⟨_, List.mem_of_getElem? hk, hx⟩
/-- bytes of one's own, beside another row -/
theorem St.bsN {v : Value} {l : List Int} (S : St N0 w0 L w) (hk : getN L i = some (oB v l)) (hj : getN L j = some o) (hn : i ≠ j) (hb : byt l) : BS o.ids w v l :=
  ⟨hb, Own.sl (S.hold_at hk) _ (idsL_disj S.nodup hk hj hn)⟩
/-- begin anew, the base by a name -/
theorem St.reb (S : St N0 w0 L w) : ∃ N, idsL L = N ∧ St N w L w := ⟨_, rfl, S.rebase⟩
theorem St.tran (S : St N0 w0 L w) (e : idsL L = N) (S' : St N w L' w') : St N0 w0 L' w' := by
  subst e; exact S.trans S'
end

/-! ### drawn regions in which calls that only read are taken first -/
section
variable {P : Program} {ops : Array Oper} {Q : Exit → Act → World → Prop} {md : Region.Mode} {C : World → Prop}
def RunsTo (P : Program) (x : Sem Next) (w : World) (v : Value) : Prop :=
  match x.run P w with
  | .ok (.value u) w' => u = v ∧ Bl w w'
  | .ok (.enter f args) w' => w' = w ∧ CallsD P f args w v
  | _ => False
def YR (P : Program) (ops : Array Oper) (C : World → Prop) (o : Oper) (v : Value) (a : Act) : Prop :=
  (Region.wanted o (yielded ops a.tmps) = true ∧ ∀ w, C w → RunsTo P (execOp a.eval o) w v) ∨ (Region.wanted o (yielded ops a.tmps) = false ∧ v = undef)
theorem YR.wpOp {i : Nat} {o : Oper} {v : Value} {a : Act} (hi : ops[i]? = some o) (hy : YR P ops C o v a) {K : Act → World → Prop} {w : World} (hS : C w) (h : ∀ w', Bl w w' → K (a.put o.dst v) w') : wpOp P ops Q i K a w := by
  unfold Go.wpOp
  simp only [hi]
  rcases hy with ⟨hw, hv⟩ | ⟨hw, rfl⟩
  · simp only [hw, if_true]
    left
    have := hv w hS
    unfold RunsTo at this
    unfold Oper.wp
    generalize (execOp a.eval o).run P w = r at *
    cases r with
    | ok n w' =>
      cases n <;> simp only [Oper.upon] at this ⊢ <;> try exact this.elim
      case value u => obtain ⟨rfl, B⟩ := this; exact h _ B
      case enter f args =>
        obtain ⟨rfl, hc⟩ := this
        refine Calls.mono hc fun e w'' he => ?_
        cases e with
        | returned u => obtain ⟨rfl, B⟩ := he; exact h _ B
        | panicked c => exact he.elim
        | outgrown => exact he.elim
    | halt x w' => cases x <;> exact this.elim
  · simp only [hw, Bool.false_eq_true, if_false]; exact h _ (Bl.refl w)
theorem YR.of_same {o : Oper} {v : Value} {a a' : Act} (hy : YR P ops C o v a) (he : execOp a'.eval o = execOp a.eval o) (hw : Region.wanted o (yielded ops a'.tmps) = Region.wanted o (yielded ops a.tmps)) : YR P ops C o v a' := by
  unfold YR at *; rw [he, hw]; exact hy
theorem wpOp_putR {j : Nat} {oi oj : Oper} {v : Value} (hj : ops[j]? = some oj) (hap : oi.apart ops oj = true)
    (hsi : ∀ cs b, oi.op ≠ .select cs b) (hsj : ∀ cs b, oj.op ≠ .select cs b)
    (hQ : ∀ c a w, Q (.panic c) (a.put oi.dst v) w → Q (.panic c) a w) {K : Act → World → Prop} {a : Act} {w : World}
    (hy : YR P ops C oi v a) (h : wpOp P ops Q j K (a.put oi.dst v) w) :
    wpOp P ops Q j (fun a' w' => YR P ops C oi v a' ∧ K (a'.put oi.dst v) w') a w := by
  obtain ⟨h1, h2, h3⟩ := Oper.apart_spec hap
  have keep : ∀ (a : Act), YR P ops C oi v a → ∀ u, YR P ops C oi v (a.put oj.dst u) := fun a hy u =>
    hy.of_same (execOp_put oi hsi a oj.dst u h3) (wanted_put oi a oj.dst u h3)
  have keepD : ∀ d, YR P ops C oi v { a with defers := d :: a.defers } := fun d => hy.of_same rfl rfl
  unfold wpOp at *
  simp only [hj] at *
  rw [wanted_put oj a oi.dst v h1] at h
  split
  · rename_i hw
    simp only [hw, if_true] at h
    rcases h with h | ⟨hasks, hlets⟩
    case inr => exact .inr ⟨by unfold Oper.asks at *; rw [execOp_put oj hsj a oi.dst v h1] at hasks; exact hasks, hlets⟩
    refine .inl ?_
    unfold Oper.wp at *
    rw [execOp_put oj hsj a oi.dst v h1] at h
    generalize (execOp a.eval oj).run P w = r at *
    cases r with
    | ok n w' =>
      cases n <;> simp only [Oper.upon] at h ⊢
      case value u => exact ⟨keep a hy u, by rw [← Act.put_comm a v u h2]; exact h⟩
      case skip => exact ⟨keep a hy _, by rw [← Act.put_comm a v undef h2]; exact h⟩
      case defer d =>
        refine ⟨keep _ (keepD d) _, ?_⟩
        rw [← Act.put_comm _ v undef h2, ← Act.put_defers]
        exact h
      case enter f args =>
        refine Calls.mono h fun e w'' he => ?_
        cases e with
        | returned u => exact ⟨keep a hy u, by rw [← Act.put_comm a v u h2]; exact he⟩
        | panicked c => exact hQ _ _ _ he
        | outgrown => exact he
      case row row args => exact Rows.mono h fun u w'' he => ⟨keep a hy u, by rw [← Act.put_comm a v u h2]; exact he⟩
    | halt x w' =>
      cases x <;> simp only [Oper.upon] at h ⊢
      case panic u => exact hQ _ _ _ h
  · rename_i hw
    simp only [hw] at h
    exact ⟨keep a hy _, by rw [← Act.put_comm a v undef h2]; exact h⟩

/-- whatever order is picked; between two operations the memory may grow -/
def wpB (P : Program) (ops : Array Oper) (Q : Exit → Act → World → Prop) (C : World → Prop) : Nat → Array Bool → Act → World → Prop
  | 0, listed, a, w => ∀ w', Bl w w' → Region.ready .any ops listed = [] ∧ Q .normal a w'
  | fuel + 1, listed, a, w => ∀ w', Bl w w' → (Region.ready .any ops listed = [] → Q .normal a w') ∧
    ∀ i ∈ Region.ready .any ops listed, wpOp P ops Q i (fun a' w'' => C w'' ∧ wpB P ops Q C fuel (listed.setIfInBounds i true) a' w'') a w'
theorem wpB_bl : ∀ {fuel : Nat} {listed : Array Bool} {a : Act} {w w' : World}, wpB P ops Q C fuel listed a w → Bl w w' → wpB P ops Q C fuel listed a w'
  | 0, _, _, _, _, h, B => fun w2 B2 => h w2 (B.trans B2)
  | _ + 1, _, _, _, _, h, B => fun w2 B2 => h w2 (B.trans B2)
theorem wpB_any : ∀ (fuel : Nat) (listed : Array Bool) (a : Act) (w : World), wpB P ops Q C fuel listed a w → wpAny P .any ops Q fuel listed a w
  | 0, _, _, w, h => h w (Bl.refl w)
  | fuel + 1, _, _, w, h => ⟨(h w (Bl.refl w)).1, fun i hi => wpOp_mono (fun a' w' h' => wpB_any fuel _ a' w' h'.2) ((h w (Bl.refl w)).2 i hi)⟩
theorem wpB_first {i : Nat} {oi : Oper} {v : Value} (hi : ops[i]? = some oi) (hsel : ∀ (j : Nat) (o : Oper) cs b, ops[j]? = some o → o.op ≠ .select cs b)
    (hQ : ∀ c a w, Q (.panic c) (a.put oi.dst v) w → Q (.panic c) a w) (hC : ∀ w w', C w → Bl w w' → C w') :
    ∀ (fuel : Nat) (listed : Array Bool) (a : Act) (w : World),
      (∀ j oj, ops[j]? = some oj → j ≠ i → listed.getD j true = false → (∀ e ∈ oj.after, Region.binds .any e = true → e.on ≠ i) → oi.apart ops oj = true) →
      i ∈ Region.ready .any ops listed → YR P ops C oi v a → C w →
      wpB P ops Q C fuel (listed.setIfInBounds i true) (a.put oi.dst v) w → wpB P ops Q C (fuel + 1) listed a w := by
  intro fuel
  induction fuel with
  | zero =>
    intro listed a w _ hr hy hS H w' B
    refine ⟨fun h => (by rw [h] at hr; cases hr), fun j hj => ?_⟩
    by_cases hji : j = i
    · subst hji; exact hy.wpOp hi (hC _ _ hS B) (fun w2 B2 => ⟨hC _ _ (hC _ _ hS B) B2, wpB_bl H (B.trans B2)⟩)
    · have := ready_mono hj hji
      rw [(H w' B).1] at this
      cases this
  | succ fuel ih =>
    intro listed a w hfree hr hy hS H w' B
    refine ⟨fun h => (by rw [h] at hr; cases hr), fun j hj => ?_⟩
    by_cases hji : j = i
    · subst hji; exact hy.wpOp hi (hC _ _ hS B) (fun w2 B2 => ⟨hC _ _ (hC _ _ hS B) B2, wpB_bl H (B.trans B2)⟩)
    · have h1 := (H w' B).2 j (ready_mono hj hji)
      obtain ⟨hjun, oj, hoj, hall⟩ := mem_ready.1 hj
      have hnot : ∀ e ∈ oj.after, Region.binds .any e = true → e.on ≠ i := fun e he hb heq => by
        have h1 := hall e he hb
        have h0 := (mem_ready.1 hr).1
        rw [heq] at h1
        rcases Nat.lt_or_ge i listed.size with h' | h'
        · simp [h'] at h0 h1; rw [h0] at h1; cases h1
        · simp [Array.getElem?_eq_none h'] at h1
      have h2 := wpOp_putR hoj (hfree j oj hoj hji hjun hnot) (fun cs b => hsel i oi cs b hi) (fun cs b => hsel j oj cs b hoj) hQ hy h1
      have hfree' : ∀ k ok, ops[k]? = some ok → k ≠ i → (listed.setIfInBounds j true).getD k true = false →
          (∀ e ∈ ok.after, Region.binds .any e = true → e.on ≠ i) → oi.apart ops ok = true := fun k ok hk hki hun hno => by
        refine hfree k ok hk hki ?_ hno
        by_cases hjk : j = k
        · subst hjk; exact hjun
        · rw [getD_set_ne true hjk] at hun; exact hun
      refine wpOp_mono (fun a' w' h3 => ⟨h3.2.1, ih (listed.setIfInBounds j true) a' w' hfree' (ready_mono hr (Ne.symm hji)) h3.1 h3.2.1 ?_⟩) h2
      rw [Array.setIfInBounds_comm _ _ hji]
      exact h3.2.2
end

def Hb (P : Program) (R : Qp) (ds : List Deferred) (n : Nat) (ops : Array Oper) (C : World → Prop) (listed : Array Bool) (l : Env) (k : List KI) (fuel : Nat) (w : World) : Prop :=
  ∀ a, En ds n l a → wpB P ops (kont P R k) C fuel listed a w
def hRb (P : Program) (R : Qp) (ops : Array Oper) (C : World → Prop) (listed : Array Bool) (k : List KI) (fuel : Nat) (w : World) : Qp := fun e a' w' =>
  match e with
  | .normal => w' = w → wpB P ops (kont P R k) C fuel listed a' w
  | _ => True
def hEb (P : Program) (R : Qp) (ops : Array Oper) (C : World → Prop) (listed : Array Bool) (k : List KI) (fuel : Nat) : Qp := fun e a' w' =>
  match e with
  | .normal => C w' ∧ wpB P ops (kont P R k) C fuel listed a' w'
  | e => kont P R k e a' w'
section
variable {P : Program} {R : Qp} {ds : List Deferred} {n : Nat} {l : Env} {k : List KI} {w w0 : World} {C : World → Prop} {ops : Array Oper} {listed : Array Bool} {fuel : Nat} {N0 : List Nat} {L : List Own}
theorem Run.heldB {id : Nat} {Lq : List Own} (hm : P.follows .mixedOrders = true) (S : St N0 w0 L w) (ks : List Bool) (hq : pickB L ks = Lq) {m : Nat} {ls : Array Bool} (hs : ops.size = m) (hl : Array.replicate m false = ls)
    (h : ∀ w', Bl w w' → St N0 w0 L w' → St N0 w0 Lq w' → Hb P R ds n ops (fun w => St N0 w0 Lq w) ls l k m w') : Run P R ds n l (.region id ops true) k w := by
  subst hs; subst hl
  exact fun a ha => wp_region_any hm (wpB_any _ _ _ _ (h _ ((St.refl [] w).drew _).bl (S.drew _) ((S.drew _).pick ks hq) a ha))
theorem Hb.take {i : Nat} {o : Oper} {ls : Array Bool} (hC : C w) (hCB : ∀ w w', C w → Bl w w' → C w') (hp : Pp R) (hi : ops[i]? = some o) (hs : Region.noSelect ops = true) (hf : Region.free .any ops listed i = true) (hr : (Region.ready .any ops listed).contains i = true) (hv : valB o.op = true) (hl : listed.setIfInBounds i true = ls)
    (h : Qo P (hRb P R ops C ls k fuel w) ds n ops C l [o] []) : Hb P R ds n ops C listed l k (fuel + 1) w := by
  subst hl
  intro a ha
  have q := h a ha
  simp only [wpQuiet] at q
  cases hw : Region.wanted o (yielded ops a.tmps) with
  | true =>
    rw [hw] at q
    simp only [if_true] at q
    obtain ⟨v, h1, h2⟩ := q
    have q2 := h2 w hC
    refine wpB_first (v := v) hi (Region.noSelect_spec hs) (fun c a w hh => (hp.kont k) c a _ _ w hh) hCB fuel listed a w (Region.free_spec hi hf) (by simpa using hr) (Or.inl ⟨hw, fun w1 hC1 => ?_⟩) hC (q2 rfl)
    have h3 := h1 w1 hC1
    unfold Oper.quietAt at h3
    unfold RunsTo
    cases hx : (execOp a.eval o).run P w1 with
    | ok nx w' =>
      obtain ⟨u, rfl⟩ := val_op hv hx
      rw [hx] at h3
      simp only [Oper.quietUpon] at h3
      exact ⟨h3.2, by rw [h3.1]; exact Bl.refl _⟩
    | halt x w' => rw [hx] at h3; exact h3.elim
  | false =>
    rw [hw] at q
    simp only [Bool.false_eq_true, if_false] at q
    exact wpB_first (v := undef) hi (Region.noSelect_spec hs) (fun c a w hh => (hp.kont k) c a _ _ w hh) hCB fuel listed a w (Region.free_spec hi hf) (by simpa using hr) (Or.inr ⟨hw, rfl⟩) hC (q w hC rfl)
theorem Hb.back {l' : Env} (h : Hb P R ds n ops C listed l' k fuel w) : Qo P (hRb P R ops C listed k fuel w) ds n ops C l' [] [] :=
  fun a ha w' hw e => h a ha
/-- a call that only reads -/
theorem Hb.call {i d : Nat} {G : Gs} {ls : Array Bool} {f : FuncId} {xs : List Operand} {vs : List Value} {at_ : Array TypeId} {v : Value} {ty : TypeId} {ps : String} {af : Array Edge} {gu : Option (Nat × Bool)} (hC : C w) (hCB : ∀ w w', C w → Bl w w' → C w') (hp : Pp R)
    (hi : ops[i]? = some { dst := some d, op := .call { callee := .value (.func f), args := xs.toArray, argTypes := at_ }, type := ty, pos := ps, after := af, guard := gu })
    (hs : Region.noSelect ops = true) (hf : Region.free .any ops listed i = true) (hr : (Region.ready .any ops listed).contains i = true) (hl : listed.setIfInBounds i true = ls)
    (hG : gd ops l gu = some G) (hx : Evs l G xs vs) (hk : Callable P f) (hn : Nat.blt d n = true) (hc : allT G → ∀ w, C w → CallsD P f vs.toArray w v)
    (h : Hb P R ds n ops C ls ((d, G, v) :: l) k fuel w) : Hb P R ds n ops C listed l k (fuel + 1) w := by
  subst hl
  intro a ha
  have hn' : d < n := by simpa [Nat.blt_eq] using hn
  cases hw : Region.wanted { dst := some d, op := .call { callee := .value (.func f), args := xs.toArray, argTypes := at_ }, type := ty, pos := ps, after := af, guard := gu } (yielded ops a.tmps) with
  | true =>
    have hw' := hw
    rw [gd_wanted ha hG] at hw'
    have hT := (allB_iff G).1 hw'
    refine wpB_first (v := v) hi (Region.noSelect_spec hs) (fun c a w hh => (hp.kont k) c a _ _ w hh) hCB fuel listed a w (Region.free_spec hi hf) (by simpa using hr) (Or.inl ⟨hw, fun w1 hC1 => ?_⟩) hC (h _ (ha.put_true hn' hT v))
    have hr := call_run (P := P) (w := w1) (d := d) (ty := ty) (ps := ps) (af := af) (gu := gu) (at_ := at_) hk (Evs.eval ha hT hx)
    unfold RunsTo
    rw [hr]
    exact ⟨rfl, hc hT w1 hC1⟩
  | false =>
    have hw' := hw
    rw [gd_wanted ha hG] at hw'
    have hT : ¬ allT G := fun hT => by rw [(allB_iff G).2 hT] at hw'; cases hw'
    exact wpB_first (v := undef) hi (Region.noSelect_spec hs) (fun c a w hh => (hp.kont k) c a _ _ w hh) hCB fuel listed a w (Region.free_spec hi hf) (by simpa using hr) (Or.inr ⟨hw, rfl⟩) hC (h _ (ha.put_false hn' hT v))
theorem Hb.on {l' : Env} (hC : C w) (h : Hb P R ds n ops C listed l' k fuel w) : Ro P (hEb P R ops C listed k fuel) ds n ops l' [] [] w :=
  fun a ha => ⟨hC, h a ha⟩
theorem Hb.done (hr : Region.ready .any ops listed = []) (h : ∀ w', Bl w w' → Nrm P R ds n l k w') : Hb P R ds n ops C listed l k fuel w := by
  intro a ha
  cases fuel with
  | zero => exact fun w' B => ⟨hr, h w' B a ha⟩
  | succ m => exact fun w' B => ⟨fun _ => h w' B a ha, by rw [hr]; simp⟩
theorem wp_hEb {o : Oper} {a : Act} {K : Act → World → Prop} (h : o.wp P a w K (hEb P R ops C listed k fuel)) : o.wp P a w K (kont P R k) := by
  unfold Oper.wp at *
  generalize (execOp a.eval o).run P w = r at *
  cases r with
  | ok n w' =>
    cases n <;> simp only [Oper.upon] at h ⊢ <;> try exact h
  | halt x w' => cases x <;> simp only [Oper.upon] at h ⊢ <;> exact h
theorem Hb.eff {i : Nat} {o : Oper} {ls : Array Bool} (hi : ops[i]? = some o) (hl : listed.setIfInBounds i true = ls) (h : Ro P (hEb P R ops C ls k fuel) ds n ops l [o] [] w) :
    ∀ a, En ds n l a → wpOp P ops (kont P R k) i (fun a' w' => C w' ∧ wpB P ops (kont P R k) C fuel (listed.setIfInBounds i true) a' w') a w := by
  subst hl
  intro a ha
  have q := h a ha
  unfold wpOp
  simp only [hi]
  simp only [wpList] at q
  split
  · rename_i hw
    rw [if_pos hw] at q
    rcases q with q | q
    · exact Or.inl (wp_hEb q)
    · exact Or.inr ⟨q.1, q.2⟩
  · rename_i hw
    rw [if_neg hw] at q
    exact q
theorem Hb.one {i : Nat} {o : Oper} {ls : Array Bool} (hr : Region.ready .any ops listed = [i]) (hi : ops[i]? = some o) (hl : listed.setIfInBounds i true = ls) (h : ∀ w', Bl w w' → Ro P (hEb P R ops C ls k fuel) ds n ops l [o] [] w') :
    Hb P R ds n ops C listed l k (fuel + 1) w :=
  fun a ha w' B => ⟨fun e => by rw [hr] at e; simp at e, fun j hj => by
    rw [hr, List.mem_singleton] at hj; rw [hj]; exact Hb.eff hi hl (h w' B) a ha⟩
theorem Hb.two {i i' : Nat} {o o' : Oper} {ls ls' : Array Bool} (hr : Region.ready .any ops listed = [i, i']) (hi : ops[i]? = some o) (hi' : ops[i']? = some o') (hl : listed.setIfInBounds i true = ls) (hl' : listed.setIfInBounds i' true = ls')
    (h : ∀ w', Bl w w' → Ro P (hEb P R ops C ls k fuel) ds n ops l [o] [] w') (h' : ∀ w', Bl w w' → Ro P (hEb P R ops C ls' k fuel) ds n ops l [o'] [] w') :
    Hb P R ds n ops C listed l k (fuel + 1) w :=
  fun a ha w' B => ⟨fun e => by rw [hr] at e; simp at e, fun j hj => by
    rw [hr] at hj
    simp only [List.mem_cons, List.not_mem_nil, or_false] at hj
    rcases hj with e | e
    · rw [e]; exact Hb.eff hi hl (h w' B) a ha
    · rw [e]; exact Hb.eff hi' hl' (h' w' B) a ha⟩

/-! ### calling a function that holds variables -/
theorem callC {f : FuncId} {xs : List Operand} {vs caps : List Value} {at_ : Array TypeId} {Rr : Value → World → Prop} {d : Nat} {ty : TypeId} {ps : String} {af : Array Edge} {c : Operand} {os : List Oper}
    (hf : ev l c = some ([], .func (.func f) #[] caps.toArray)) (hx : Evs l [] xs vs) (hk : Callable P f) (hn : Nat.blt d n = true) (hc : CallsV P f (vs ++ caps).toArray w Rr)
    (h : ∀ v w', Rr v w' → Ro P R ds n ops ((d, [], v) :: l) os k w') :
    Ro P R ds n ops l ({ dst := some d, op := .call { callee := .value c, args := xs.toArray, argTypes := at_ }, type := ty, pos := ps, after := af, guard := none } :: os) k w := by
  intro a ha
  have hn' : d < n := by simpa [Nat.blt_eq] using hn
  refine wpList_of (fun _ => ?_) (fun hw => by simp [Region.wanted] at hw)
  have hr : (execOp a.eval { dst := some d, op := .call { callee := .value c, args := xs.toArray, argTypes := at_ }, type := ty, pos := ps, after := af, guard := none }).run P w = .ok (.enter f (vs ++ caps).toArray) w := by
    obtain ⟨fn, h1, h2, h3⟩ := hk.ex
    have h4 : xs.toArray.map a.eval = vs.toArray := by rw [← Evs.eval ha (show allT [] from trivial) hx]; simp
    have h2' : ¬ fn.name = "runtime.NumGoroutine" := by simpa using h2
    have h3' : ¬ fn.body = none := by intro e; rw [e] at h3; cases h3
    simp only [execOp, resolve, ha.eval hf trivial, Deferred.ofValue]
    simp [invoke, callFunc, program, h1, h2', h3', bind, Sem.bind, pure, Sem.run, h4]
  simp only [Oper.wp, hr, Oper.upon]
  refine Calls.mono hc ?_
  intro e w' r
  cases e with
  | returned v => exact h v w' r _ (ha.put_nil hn' v)
  | panicked ch => exact r.elim
  | outgrown => exact r.elim
end
end Go.Proofs.YtkahmepenjhcpaaDoor.W

/- The base of this seat's proofs, sixteenth part: a guard that is known. No statement of the seat is proved here. -/
namespace Go.Proofs.YtkahmepenjhcpaaDoor.W
open Go
set_option linter.unusedVariables false

/-- an operation whose guard is met goes as if it had none -/
theorem Ro.gtrue {P : Program} {R : Qp} {ds : List Deferred} {n : Nat} {l : Env} {k : List KI} {w : World} {ops : Array Oper} {os : List Oper} {dst : Option Tmp} {op : Op} {ty : TypeId} {ps : String} {af : Array Edge} {gu : Option (Nat × Bool)} {G : Gs}
    (hG : gd ops l gu = some G) (hT : allT G) (h : Ro P R ds n ops l ({ dst := dst, op := op, type := ty, pos := ps, after := af, guard := none } :: os) k w) :
    Ro P R ds n ops l ({ dst := dst, op := op, type := ty, pos := ps, after := af, guard := gu } :: os) k w := by
  intro a ha
  have q := h a ha
  have hw : Region.wanted { dst := dst, op := op, type := ty, pos := ps, after := af, guard := gu } (yielded ops a.tmps) = true := by
    rw [gd_wanted ha (o := { dst := dst, op := op, type := ty, pos := ps, after := af, guard := gu }) hG]; exact (allB_iff G).2 hT
  simp only [wpList] at q ⊢
  rw [if_pos hw]
  rw [if_pos (by rfl)] at q
  exact q
/-- what was asked for under a guard that is met stands as if there were none -/
theorem Ro.strip {P : Program} {R : Qp} {ds : List Deferred} {n : Nat} {l : Env} {k : List KI} {w : World} {ops : Array Oper} {os : List Oper} {d : Nat} {G : Gs} {v : Value}
    (hT : allT G) (h : Ro P R ds n ops ((d, [], v) :: l) os k w) : Ro P R ds n ops ((d, G, v) :: l) os k w := by
  intro a ha
  refine h a ⟨ha.defers, ha.size, ?_⟩
  intro t g u ht
  simp only [lk] at ht
  cases hb : Nat.beq d t with
  | true =>
    rw [hb] at ht
    simp only [cond_true, Option.some.injEq, Prod.mk.injEq] at ht
    obtain ⟨rfl, rfl⟩ := ht
    have := ha.at_ t G v (by simp [lk, hb])
    rw [this, gval_true hT, gval_nil]
  | false =>
    rw [hb] at ht
    exact ha.at_ t g u (by simp only [lk, hb]; exact ht)
end Go.Proofs.YtkahmepenjhcpaaDoor.W

/- The base: rows of one's own that are only read from here on; cuts; options cut. No statement of the seat is proved here. -/
namespace Go.Proofs.YtkahmepenjhcpaaDoor.W
open Go
set_option linter.unusedVariables false
set_option linter.unusedSimpArgs false

def delN {α : Type} : List α → Nat → Option (List α)
  | [], _ => none
  | _ :: r, 0 => some r
  | x :: r, i + 1 => match delN r i with
    | some r' => some (x :: r')
    | none => none
theorem delN_spec {α : Type} : ∀ (l : List α) (i : Nat) (l' : List α) (o : α), delN l i = some l' → getN l i = some o → ∃ A B, l = A ++ o :: B ∧ l' = A ++ B
  | [], i, l', o, h, _ => by simp [delN] at h
  | x :: r, 0, l', o, h, h2 => by
    simp only [delN, getN, Option.some.injEq] at h h2
    subst h; subst h2
    exact ⟨[], r, rfl, rfl⟩
  | x :: r, i + 1, l', o, h, h2 => by
    simp only [delN, getN] at h h2
    cases hd : delN r i with
    | none => rw [hd] at h; cases h
    | some r' =>
      rw [hd] at h
      simp only [Option.some.injEq] at h
      obtain ⟨A, B, h3, h4⟩ := delN_spec r i r' o hd h2
      subst h
      exact ⟨x :: A, B, by rw [h3]; rfl, by rw [h4]; rfl⟩
section
variable {N0 N1 N : List Nat} {w0 w w' : World} {L L' : List Own} {o : Own} {i j : Nat}
theorem St.layI {v : Value} {T : TypeId} {sz n : Nat} {xs : List Value} (S : St N0 w0 L w) (hk : getN L i = some (.row v T sz n xs)) (hd : delN L i = some L') : Sl (idsL L') w sz v n xs ∧ St N0 w0 L' w := by
  obtain ⟨A, B, rfl, rfl⟩ := delN_spec _ _ _ _ hd hk
  exact ⟨S.lay, S.drop⟩
theorem St.layBI {v : Value} {l : List Int} (S : St N0 w0 L w) (hk : getN L i = some (oB v l)) (hd : delN L i = some L') (hb : byt l) : BS (idsL L') w v l ∧ St N0 w0 L' w :=
  let ⟨a, b⟩ := S.layI hk hd; ⟨⟨hb, a⟩, b⟩
theorem St.layOI {v : Value} {os : List Opt} {ds : List Value} (S : St N0 w0 L w) (hk : getN L i = some (oO v os ds)) (hd : delN L i = some L') (hb : OSs N0 w0 ds os) : OS (idsL L') w v os ∧ St N0 w0 L' w :=
  let ⟨a, b⟩ := S.layI hk hd; ⟨⟨ds, a, (BSs.st b hb)⟩, b⟩
theorem OSs.st {vs : List Value} {os : List Opt} (h : OSs N0 w0 vs os) (S : St N0 w0 L w) : OSs (idsL L) w vs os := BSs.st S h
/-- bytes of one's own, the first n of them -/
theorem BS.cut0 {v : Value} {bs : List Int} {n mx : Nat} (h : BS N w v bs) (hn : n ≤ bs.length ∧ n ≤ mx ∧ mx ≤ capV v) : BS N w (W.cut v 0 n mx) (bs.take n) := by
  have := h.cut (lo := 0) (hi := n) (mx := mx) ⟨Nat.zero_le _, hn.1, hn.2.1, hn.2.2⟩
  rwa [List.drop_zero, Nat.sub_zero] at this
theorem BS.cutOne {N : List Nat} {w : World} {v : Value} {bs : List Int} (h : BS N w v bs) {lo hi mx : Nat} : (W.cut v lo hi mx).oneCell' = true := by
  obtain ⟨_, _, A, cap, rfl, _⟩ := h; rfl
theorem own_slice {v : Value} {l : List Int} (h : (oB v l).holds w) : (v = .slice none 0 0 ∧ l = []) ∨ ∃ b cap, v = .slice (some ⟨b, 0, none⟩) l.length cap ∧ l.length ≤ cap := by
  obtain ⟨h0, h⟩ := h
  rcases h with ⟨rfl, h⟩ | ⟨b, cap, c, rfl, _, hh, hn, _⟩
  · left
    exact ⟨rfl, List.eq_nil_of_length_eq_zero h⟩
  · exact .inr ⟨b, cap, rfl, hn⟩
theorem eP_cut0 {v : Value} {l : List Int} {n mx : Nat} (h : (oB v l).holds w) (hl : l ≠ []) : eP (cut v 0 n mx) = eP v := by
  rcases own_slice h with ⟨_, h2⟩ | ⟨b, cap, rfl, _⟩
  · exact absurd h2 hl
  · funext j
    simp only [cut]
    split <;> simp [eP, add_new]
theorem cut_self {v : Value} {l : List Int} (h : (oB v l).holds w) : cut v 0 l.length (capV v) = v := by
  rcases own_slice h with ⟨rfl, rfl⟩ | ⟨b, cap, rfl, _⟩
  · rfl
  · simp [cut, capV, add_new]
theorem own_cap {v : Value} {l : List Int} (h : (oB v l).holds w) : l.length ≤ capV v := by
  rcases own_slice h with ⟨rfl, rfl⟩ | ⟨b, cap, rfl, h2⟩
  · simp
  · exact h2
end
theorem BSs.take {N : List Nat} {w : World} : ∀ {vs : List Value} {ls : List (List Int)} (n : Nat), BSs N w vs ls → BSs N w (vs.take n) (ls.take n)
  | [], [], n, h => by simp [BSs]
  | [], _ :: _, _, h => h.elim
  | _ :: _, [], _, h => h.elim
  | _ :: _, _ :: _, 0, h => by simp [BSs]
  | _ :: _, _ :: _, n + 1, h => by simp only [List.take_succ_cons]; exact ⟨h.1, BSs.take n h.2⟩
theorem optC_take : ∀ {os : List Opt} {ds : List Value} (n : Nat), ds.length = os.length → (optC os ds).take (n * 2) = optC (os.take n) (ds.take n)
  | [], [], n, _ => by simp [optC]
  | [], _ :: _, _, h => by simp at h
  | _ :: _, [], _, h => by simp at h
  | o :: os, d :: ds, 0, h => by simp [optC]
  | o :: os, d :: ds, n + 1, h => by
    have e : (n + 1) * 2 = n * 2 + 1 + 1 := by omega
    simp only [optC, e, List.take_succ_cons]
    rw [optC_take n (by simpa using h)]
theorem OS.take {N : List Nat} {w : World} {v' : Value} {os : List Opt} {ds : List Value} {n : Nat} (hB : OSs N w ds os) (hl : ds.length = os.length) (hn : n ≤ os.length) (h : Sl N w 2 v' (n - 0) (((optC os ds).drop (0 * 2)).take ((n - 0) * 2))) : OS N w v' (os.take n) := by
  refine ⟨ds.take n, ?_, ?_⟩
  · rw [Nat.sub_zero, Nat.zero_mul, List.drop_zero, optC_take n hl] at h
    rw [List.length_take, Nat.min_eq_left hn]
    exact h
  · unfold OSs
    rw [List.map_take]
    exact BSs.take n hB
theorem drop_cons' {b : List Int} {i : Nat} (h : i < b.length) : b.drop i = b.getD i 0 :: b.drop (i + 1) := by
  rw [List.drop_eq_getElem_cons h, List.getD_eq_getElem?_getD, List.getElem?_eq_getElem h]; rfl
abbrev marks : List Int := [91, 92, 93]
theorem kept_iff (a b : List Int) : ((((decide ((a.length : Int) = (b.length : Int) + 3) && decide ((a.drop 0).take (b.length - 0) = b)) && decide (a.getD b.length 0 = 91)) && decide (a.getD (b.length + 1) 0 = 92)) && decide (a.getD (b.length + 2) 0 = 93)) = decide (a = b ++ marks) := by
  by_cases h : a = b ++ marks
  · subst h
    simp [List.getD_eq_getElem?_getD]
  · rw [decide_eq_false h]
    cases hc : ((((decide ((a.length : Int) = (b.length : Int) + 3) && decide ((a.drop 0).take (b.length - 0) = b)) && decide (a.getD b.length 0 = 91)) && decide (a.getD (b.length + 1) 0 = 92)) && decide (a.getD (b.length + 2) 0 = 93)) with
    | false => rfl
    | true =>
      simp only [Bool.and_eq_true, decide_eq_true_eq, List.drop_zero, Nat.sub_zero] at hc
      obtain ⟨⟨⟨⟨h1, h2⟩, h3⟩, h4⟩, h5⟩ := hc
      have hd : a.drop b.length = marks := by
        rw [drop_cons' (by omega), drop_cons' (by omega), drop_cons' (by omega), h3, h4, h5, List.drop_eq_nil_of_le (by omega)]
      exact absurd (by rw [← List.take_append_drop b.length a, h2, hd]) h
theorem marks_byt : byt marks := by intro x hx; revert x; decide +kernel
theorem take_marks (b : List Int) : ((b ++ marks).drop 0).take (b.length - 0) = b := by simp
theorem take_marks' (b : List Int) : (b ++ marks).take b.length = b := by simp
/-! ### facts of new memory, kept through a walk -/
section
variable {N0 N R : List Nat} {w0 w : World} {L : List Own} {n : Nat}
theorem mid_drop' {A B R : List Nat} : ∀ i ∈ A ++ R, i ∈ A ++ (B ++ R) := by
  intro i hi
  rcases List.mem_append.1 hi with h | h
  · exact List.mem_append_left _ h
  · exact List.mem_append_right _ (List.mem_append_right _ h)
theorem fin_sub (hN : ∀ i ∈ N, i < n) : ∀ i ∈ N, i ∈ idsL L ++ List.range n := fun i hi => List.mem_append_right _ (List.mem_range.2 (hN i hi))
theorem BS.reF {v : Value} {l : List Int} (h : BS (N0 ++ R) w0 v l) (S : St N0 w0 L w) : BS (idsL L ++ R) w v l := (h.stN (fun _ h => List.mem_append_left _ h) S).weak mid_drop'
theorem BSs.reF {vs : List Value} {ls : List (List Int)} (h : BSs (N0 ++ R) w0 vs ls) (S : St N0 w0 L w) : BSs (idsL L ++ R) w vs ls := BSs.weak mid_drop' (BSs.stN (fun _ h => List.mem_append_left _ h) S h)
theorem OSs.reF {vs : List Value} {os : List Opt} (h : OSs (N0 ++ R) w0 vs os) (S : St N0 w0 L w) : OSs (idsL L ++ R) w vs os := BSs.reF h S
theorem OS.reF {v : Value} {os : List Opt} (h : OS (N0 ++ R) w0 v os) (S : St N0 w0 L w) : OS (idsL L ++ R) w v os :=
  let ⟨vs, h1, h2⟩ := h; ⟨vs, (h1.stN (fun _ h => List.mem_append_left _ h) S).weak mid_drop', BSs.reF h2 S⟩
theorem SS.reF {v : Value} {ls : List (List Int)} (h : SS (N0 ++ R) w0 v ls) (S : St N0 w0 L w) : SS (idsL L ++ R) w v ls :=
  let ⟨vs, h1, h2⟩ := h; ⟨vs, (h1.stN (fun _ h => List.mem_append_left _ h) S).weak mid_drop', BSs.reF h2 S⟩
theorem BS.fin {v : Value} {l : List Int} (h : BS (N0 ++ List.range n) w0 v l) (S : St N0 w0 L w) (hN : ∀ i ∈ N, i < n) : BS N w v l := (h.reF S).weak (fin_sub hN)
theorem OSs.fin {vs : List Value} {os : List Opt} (h : OSs (N0 ++ List.range n) w0 vs os) (S : St N0 w0 L w) (hN : ∀ i ∈ N, i < n) : OSs N w vs os := BSs.weak (fin_sub hN) (h.reF S)
theorem OS.fin {v : Value} {os : List Opt} (h : OS (N0 ++ List.range n) w0 v os) (S : St N0 w0 L w) (hN : ∀ i ∈ N, i < n) : OS N w v os := (h.reF S).weak (fin_sub hN)
theorem SS.fin {v : Value} {ls : List (List Int)} (h : SS (N0 ++ List.range n) w0 v ls) (S : St N0 w0 L w) (hN : ∀ i ∈ N, i < n) : SS N w v ls := (h.reF S).weak (fin_sub hN)
theorem St.ltR (S : St [] w0 L w) : ∀ i ∈ idsL L ++ List.range w0.heap.size, i < w.heap.size := below_app S (fun i hi => List.mem_range.1 hi)
theorem St.toFB' {v : Value} {l : List Int} {i : Nat} (S : St [] w0 L w) (hk : getN L i = some (oB v l)) (hb : byt l) (hN : ∀ i ∈ N, i < w0.heap.size) : BS N w v l := (S.toFB hk).bs hb hN
end
end Go.Proofs.YtkahmepenjhcpaaDoor.W

/- Contracts: small functions of the statements and of the reference. No statement of the seat is proved here. -/
namespace Go.Proofs.YtkahmepenjhcpaaDoor.W
open Go
set_option linter.unusedSimpArgs false
set_option linter.unusedVariables false


/-- what the reference has read: new memory -/
def FH (w w' : World) (o d : Value) (h : Ip4) : Prop := Bl w w' ∧ ∀ N, (∀ i ∈ N, i < w.heap.size) → OS N w' o h.opts ∧ BS N w' d h.data
theorem getD0 {b : List Int} {i : Nat} : (b[i]?).getD 0 = b.getD i 0 := by rw [List.getD_eq_getElem?_getD]

set_option maxHeartbeats 1000000 in
theorem c111 (v : Value) (b : List Int) (i : Nat) (w : World) (hb : BS [] w v b) (hi : i + 1 < b.length) (hl : b.length ≤ 1099511627776) :
    CallsD Tryd.prog 111 #[v, .int .i64 i] w (.int .i64 (256 * b.getD i 0 + b.getD (i + 1) 0)) := by
  refine enter Tryd.func111 rfl Tryd.ntmps111 (l := [(0, [], _), (1, [], _)]) rfl rfl ?_
  have S := St.refl [] w
  refine Run.seq ?_
  refine Run.region ?_
  refine asg1 rfl rfl ?_
  refine Ro.nil ?_
  refine Nrm.code ?_
  refine Run.seq ?_
  refine Run.draw (by kernel_rfl) (by kernel_rfl) S ?_
  refine qmv rfl rfl rfl rfl ?_
  refine qmv rfl rfl rfl rfl ?_
  refine qixa rfl rfl hb.2 e26 rfl rfl rfl rfl (fun _ => by first | omega | (simp only [List.length_cons, List.length_nil]; omega)) ?_
  refine qldB rfl hb (fun _ S => S) T5 rfl rfl rfl (fun _ => by omega) ?_
  intro q8 hq8 hbq8
  try simp only [Int.toNat_natCast, Nat.mul_one, Int.reduceToNat] at hq8
  refine qcvi rfl rfl rfl rfl Tryd.underlying5 Tryd.underlying3 (fun _ => w64 (by omega)) ?_
  refine qmul rfl rfl rfl rfl rfl rfl (fun _ => w64 (by omega)) ?_
  refine qmv rfl rfl rfl rfl ?_
  refine qmv rfl rfl rfl rfl ?_
  refine qadd rfl rfl rfl rfl rfl rfl (fun _ => w64 (by omega)) ?_
  refine qixa rfl rfl hb.2 e26 rfl rfl rfl rfl (fun _ => by first | omega | (simp only [List.length_cons, List.length_nil]; omega)) ?_
  refine qldB rfl hb (fun _ S => S) T5 rfl rfl rfl (fun _ => by omega) ?_
  intro q15 hq15 hbq15
  try simp only [Int.toNat_natCast, Nat.mul_one, Int.reduceToNat] at hq15
  refine qcvi rfl rfl rfl rfl Tryd.underlying5 Tryd.underlying3 (fun _ => w64 (by omega)) ?_
  refine qadd rfl rfl rfl rfl rfl rfl (fun _ => w64 (by omega)) ?_
  refine qasg rfl rfl rfl rfl ?_
  refine Qo.nil (fun w1 S => ?_)
  refine Nrm.code ?_
  refine Run.ret ?_
  refine Rt.one rfl rfl ?_
  have e1 : q8 = b.getD i 0 := hq8
  have e2 : q15 = b.getD (i + 1) 0 := hq15
  exact ⟨by rw [e1, e2], S.bl⟩

set_option maxHeartbeats 1000000 in
theorem c145 (v : Value) (a : List Int) (w : World) (ha : BS [] w v a) (hl : a.length ≤ 1099511627776) :
    CallsV Tryd.prog 145 #[v] w (fun r w' => FB w w' r (a ++ marks)) := by
  refine enter Tryd.func145 rfl Tryd.ntmps145 (l := [(0, [], _)]) rfl rfl ?_
  have S := St.refl [] w
  refine Run.seq ?_
  refine Run.region ?_
  refine asg1 rfl rfl ?_
  refine Ro.nil ?_
  refine Nrm.code ?_
  refine Run.seq ?_
  refine Run.region ?_
  refine mv1 rfl rfl ?_
  refine call (vs := [_]) ⟨⟨_, _, rfl, rfl⟩, trivial⟩ k39 rfl (c39 _ _ _ (ha.now S) (by omega)) ?_
  rintro u5 w1 hF
  have S := S.fb hF
  refine asg1 rfl rfl ?_
  refine Ro.nil ?_
  refine Nrm.code ?_
  refine Run.seq ?_
  refine Run.region ?_
  refine mv1 rfl rfl ?_
  refine apBF (b := [_, _, _]) rfl e26 (qs := [(_, _), (_, _), (_, _)]) ⟨⟨_, _, _, rfl, rfl, rfl, rfl, by first | (simp [Value.cells]; done) | simp [Value.cells, encIP]⟩, ⟨_, _, _, rfl, rfl, rfl, rfl, by first | (simp [Value.cells]; done) | simp [Value.cells, encIP]⟩, ⟨_, _, _, rfl, rfl, rfl, rfl, by first | (simp [Value.cells]; done) | simp [Value.cells, encIP]⟩, trivial⟩ (by decide) rfl rfl S (i := 0) rfl rfl rfl (fun t e => by cases e; rfl) (fun _ => rfl) (by first | omega | (simp only [List.length_nil, List.length_append, List.length_cons]; omega)) ?_
  intro u_ v8 w2 S B_
  refine asg1 rfl rfl ?_
  refine Ro.nil ?_
  refine Nrm.code ?_
  refine Run.ret ?_
  refine Rt.one rfl rfl ?_
  exact S.toFB (i := 0) rfl

set_option maxHeartbeats 1000000 in
theorem c66 (v : Value) (a : List Int) (w : World) (ha : BS [] w v a) (hl : a.length ≤ 1099511627776) :
    CallsV Tryd.prog 66 #[v] w (fun r w' => FB w w' r (a ++ marks)) := by
  refine enter Tryd.func66 rfl Tryd.ntmps66 (l := [(0, [], _)]) rfl rfl ?_
  have S := St.refl [] w
  refine Run.seq ?_
  refine Run.region ?_
  refine asg1 rfl rfl ?_
  refine Ro.nil ?_
  refine Nrm.code ?_
  refine Run.seq ?_
  refine Run.region ?_
  refine mv1 rfl rfl ?_
  refine call (vs := [_]) ⟨⟨_, _, rfl, rfl⟩, trivial⟩ k39 rfl (c39 _ _ _ (ha.now S) (by omega)) ?_
  rintro u5 w1 hF
  have S := S.fb hF
  refine asg1 rfl rfl ?_
  refine Ro.nil ?_
  refine Nrm.code ?_
  refine Run.seq ?_
  refine Run.region ?_
  refine mv1 rfl rfl ?_
  refine apBF (b := [_, _, _]) rfl e26 (qs := [(_, _), (_, _), (_, _)]) ⟨⟨_, _, _, rfl, rfl, rfl, rfl, by first | (simp [Value.cells]; done) | simp [Value.cells, encIP]⟩, ⟨_, _, _, rfl, rfl, rfl, rfl, by first | (simp [Value.cells]; done) | simp [Value.cells, encIP]⟩, ⟨_, _, _, rfl, rfl, rfl, rfl, by first | (simp [Value.cells]; done) | simp [Value.cells, encIP]⟩, trivial⟩ (by decide) rfl rfl S (i := 0) rfl rfl rfl (fun t e => by cases e; rfl) (fun _ => rfl) (by first | omega | (simp only [List.length_nil, List.length_append, List.length_cons]; omega)) ?_
  intro u_ v8 w2 S B_
  refine asg1 rfl rfl ?_
  refine Ro.nil ?_
  refine Nrm.code ?_
  refine Run.ret ?_
  refine Rt.one rfl rfl ?_
  exact S.toFB (i := 0) rfl

set_option maxHeartbeats 1000000 in
theorem c148 (v u : Value) (a b : List Int) (w : World) (ha : BS [] w v a) (hb : BS [] w u b) (hl : b.length ≤ 1099511627776) :
    CallsD Tryd.prog 148 #[v, u] w (.bool (decide (a = b ++ marks))) := by
  refine enter Tryd.func148 rfl Tryd.ntmps148 (l := [(0, [], _), (1, [], _)]) rfl rfl ?_
  have S := St.refl [] w
  refine Run.seq ?_
  refine Run.region ?_
  refine asg1 rfl rfl ?_
  refine Ro.nil ?_
  refine Nrm.code ?_
  refine Run.seq ?_
  refine Run.region ?_
  refine mv1 rfl rfl ?_
  refine lenS rfl hb.2 Tryd.underlying26 rfl rfl rfl ?_
  refine asg1 rfl rfl ?_
  refine Ro.nil ?_
  refine Nrm.code ?_
  refine Run.seq ?_
  refine Run.region ?_
  refine mv1 rfl rfl ?_
  refine lenS rfl ha.2 Tryd.underlying26 rfl rfl rfl ?_
  refine mv1 rfl rfl ?_
  refine add1 rfl rfl rfl (w64 (by omega)) ?_
  refine eql1 rfl rfl rfl ?_
  refine mv1 rfl rfl ?_
  refine mv rfl rfl rfl rfl ?_
  refine mv rfl rfl rfl rfl ?_
  refine slC (lo := 0) (hi := b.length) (mx := capV v) rfl ha e26 rfl rfl rfl (i1 := none) (i2 := some (b.length)) (i3 := none) trivial ⟨_, _, _, rfl, rfl⟩ trivial rfl rfl rfl (fun h => by first | rfl | cases h) (fun hG => by (try simp [allT] at hG); have hcap := ha.cap; omega) ?_
  refine mv rfl rfl rfl rfl ?_
  refine calg (vs := [_, _]) rfl ⟨⟨_, _, rfl, rfl⟩, ⟨_, _, rfl, rfl⟩, trivial⟩ k37 rfl (fun hG => by have hG5 : (a.length : Int) = b.length + 3 := (by (simp [allT] at hG; omega)); exact c37 _ _ _ _ _ ((ha.cut (by have := ha.cap; omega)).now S) (hb.now S)) ?_
  intro w1 B_; have S := S.call B_
  refine pkA rfl rfl rfl rfl rfl rfl ?_
  refine mv1 rfl rfl ?_
  refine mv rfl rfl rfl rfl ?_
  refine mv rfl rfl rfl rfl ?_
  refine ixa rfl rfl ha.2 e26 rfl rfl rfl rfl (fun hG => by (try simp [allT] at hG); omega) ?_
  refine ldB rfl ha S T5 rfl rfl rfl (fun hG => by first | exact by omega | (simp [allT] at hG; exact by omega)) ?_
  intro q24 hq24 hbq24
  try simp only [Int.toNat_natCast, Nat.mul_one, Int.reduceToNat] at hq24
  refine eql rfl rfl rfl rfl rfl rfl ?_
  refine pkA rfl rfl rfl rfl rfl rfl ?_
  refine mv1 rfl rfl ?_
  refine mv rfl rfl rfl rfl ?_
  refine mv rfl rfl rfl rfl ?_
  refine add rfl rfl rfl rfl rfl rfl (fun hG => by first | exact w64 (by omega) | (simp [allT] at hG; exact w64 (by omega))) ?_
  refine ixa rfl rfl ha.2 e26 rfl rfl rfl rfl (fun hG => by (try simp [allT] at hG); omega) ?_
  refine ldB rfl ha S T5 rfl rfl rfl (fun hG => by first | exact by omega | (simp [allT] at hG; exact by omega)) ?_
  intro q32 hq32 hbq32
  try simp only [Int.toNat_natCast, Nat.mul_one, Int.reduceToNat] at hq32
  refine eql rfl rfl rfl rfl rfl rfl ?_
  refine pkA rfl rfl rfl rfl rfl rfl ?_
  refine mv1 rfl rfl ?_
  refine mv rfl rfl rfl rfl ?_
  refine mv rfl rfl rfl rfl ?_
  refine add rfl rfl rfl rfl rfl rfl (fun hG => by first | exact w64 (by omega) | (simp [allT] at hG; exact w64 (by omega))) ?_
  refine ixa rfl rfl ha.2 e26 rfl rfl rfl rfl (fun hG => by (try simp [allT] at hG); omega) ?_
  refine ldB rfl ha S T5 rfl rfl rfl (fun hG => by first | exact by omega | (simp [allT] at hG; exact by omega)) ?_
  intro q40 hq40 hbq40
  try simp only [Int.toNat_natCast, Nat.mul_one, Int.reduceToNat] at hq40
  refine eql rfl rfl rfl rfl rfl rfl ?_
  refine pkA rfl rfl rfl rfl rfl rfl ?_
  refine asg1 rfl rfl ?_
  refine Ro.nil ?_
  refine Nrm.code ?_
  refine Run.ret ?_
  refine Rt.one rfl rfl ?_
  have e1 : q24 = a.getD b.length 0 := hq24
  have e2 : q32 = a.getD (b.length + 1) 0 := hq32
  have e3 : q40 = a.getD (b.length + 2) 0 := hq40
  rw [e1, e2, e3]
  exact ⟨by rw [kept_iff], S.bl⟩

set_option maxHeartbeats 1000000 in
theorem c68 (v u : Value) (a b : List Int) (w : World) (ha : BS [] w v a) (hb : BS [] w u b) (hl : b.length ≤ 1099511627776) :
    CallsD Tryd.prog 68 #[v, u] w (.bool (decide (a = b ++ marks))) := by
  refine enter Tryd.func68 rfl Tryd.ntmps68 (l := [(0, [], _), (1, [], _)]) rfl rfl ?_
  have S := St.refl [] w
  refine Run.seq ?_
  refine Run.region ?_
  refine asg1 rfl rfl ?_
  refine Ro.nil ?_
  refine Nrm.code ?_
  refine Run.seq ?_
  refine Run.region ?_
  refine mv1 rfl rfl ?_
  refine lenS rfl hb.2 Tryd.underlying26 rfl rfl rfl ?_
  refine asg1 rfl rfl ?_
  refine Ro.nil ?_
  refine Nrm.code ?_
  refine Run.seq ?_
  refine Run.region ?_
  refine mv1 rfl rfl ?_
  refine lenS rfl ha.2 Tryd.underlying26 rfl rfl rfl ?_
  refine mv1 rfl rfl ?_
  refine add1 rfl rfl rfl (w64 (by omega)) ?_
  refine eql1 rfl rfl rfl ?_
  refine mv1 rfl rfl ?_
  refine mv rfl rfl rfl rfl ?_
  refine mv rfl rfl rfl rfl ?_
  refine slC (lo := 0) (hi := b.length) (mx := capV v) rfl ha e26 rfl rfl rfl (i1 := none) (i2 := some (b.length)) (i3 := none) trivial ⟨_, _, _, rfl, rfl⟩ trivial rfl rfl rfl (fun h => by first | rfl | cases h) (fun hG => by (try simp [allT] at hG); have hcap := ha.cap; omega) ?_
  refine mv rfl rfl rfl rfl ?_
  refine calg (vs := [_, _]) rfl ⟨⟨_, _, rfl, rfl⟩, ⟨_, _, rfl, rfl⟩, trivial⟩ k37 rfl (fun hG => by have hG5 : (a.length : Int) = b.length + 3 := (by (simp [allT] at hG; omega)); exact c37 _ _ _ _ _ ((ha.cut (by have := ha.cap; omega)).now S) (hb.now S)) ?_
  intro w1 B_; have S := S.call B_
  refine pkA rfl rfl rfl rfl rfl rfl ?_
  refine mv1 rfl rfl ?_
  refine mv rfl rfl rfl rfl ?_
  refine mv rfl rfl rfl rfl ?_
  refine ixa rfl rfl ha.2 e26 rfl rfl rfl rfl (fun hG => by (try simp [allT] at hG); omega) ?_
  refine ldB rfl ha S T5 rfl rfl rfl (fun hG => by first | exact by omega | (simp [allT] at hG; exact by omega)) ?_
  intro q24 hq24 hbq24
  try simp only [Int.toNat_natCast, Nat.mul_one, Int.reduceToNat] at hq24
  refine eql rfl rfl rfl rfl rfl rfl ?_
  refine pkA rfl rfl rfl rfl rfl rfl ?_
  refine mv1 rfl rfl ?_
  refine mv rfl rfl rfl rfl ?_
  refine mv rfl rfl rfl rfl ?_
  refine add rfl rfl rfl rfl rfl rfl (fun hG => by first | exact w64 (by omega) | (simp [allT] at hG; exact w64 (by omega))) ?_
  refine ixa rfl rfl ha.2 e26 rfl rfl rfl rfl (fun hG => by (try simp [allT] at hG); omega) ?_
  refine ldB rfl ha S T5 rfl rfl rfl (fun hG => by first | exact by omega | (simp [allT] at hG; exact by omega)) ?_
  intro q32 hq32 hbq32
  try simp only [Int.toNat_natCast, Nat.mul_one, Int.reduceToNat] at hq32
  refine eql rfl rfl rfl rfl rfl rfl ?_
  refine pkA rfl rfl rfl rfl rfl rfl ?_
  refine mv1 rfl rfl ?_
  refine mv rfl rfl rfl rfl ?_
  refine mv rfl rfl rfl rfl ?_
  refine add rfl rfl rfl rfl rfl rfl (fun hG => by first | exact w64 (by omega) | (simp [allT] at hG; exact w64 (by omega))) ?_
  refine ixa rfl rfl ha.2 e26 rfl rfl rfl rfl (fun hG => by (try simp [allT] at hG); omega) ?_
  refine ldB rfl ha S T5 rfl rfl rfl (fun hG => by first | exact by omega | (simp [allT] at hG; exact by omega)) ?_
  intro q40 hq40 hbq40
  try simp only [Int.toNat_natCast, Nat.mul_one, Int.reduceToNat] at hq40
  refine eql rfl rfl rfl rfl rfl rfl ?_
  refine pkA rfl rfl rfl rfl rfl rfl ?_
  refine asg1 rfl rfl ?_
  refine Ro.nil ?_
  refine Nrm.code ?_
  refine Run.ret ?_
  refine Rt.one rfl rfl ?_
  have e1 : q24 = a.getD b.length 0 := hq24
  have e2 : q32 = a.getD (b.length + 1) 0 := hq32
  have e3 : q40 = a.getD (b.length + 2) 0 := hq40
  rw [e1, e2, e3]
  exact ⟨by rw [kept_iff], S.bl⟩

set_option maxHeartbeats 1000000 in
theorem c151 (v : Value) (b : List Int) (n : Int) (w : World) (hv : (oB v b).holds w) (hn : 0 ≤ n ∧ n < 65536) (hl : b.length ≤ 1099511627776) :
    CallsV Tryd.prog 151 #[v, .int .i64 n] w (fun r w' => Tn w w' (oB v b) (oB r (b ++ [n / 256, n % 256]))) := by
  refine enter Tryd.func151 rfl Tryd.ntmps151 (l := [(0, [], _), (1, [], _)]) rfl rfl ?_
  have S := St.own0 hv
  refine Run.seq ?_
  refine Run.region ?_
  refine asg1 rfl rfl ?_
  refine Ro.nil ?_
  refine Nrm.code ?_
  refine Run.seq ?_
  refine Run.region ?_
  refine mv1 rfl rfl ?_
  refine mv1 rfl rfl ?_
  refine quo1 rfl rfl rfl (by decide) (q64 (by omega)) ?_
  refine cvi1 rfl rfl Tryd.underlying3 Tryd.underlying5 (w8of rfl (by omega)) ?_
  refine mv1 rfl rfl ?_
  refine rem1 rfl rfl rfl (by decide) (r64 (by omega)) ?_
  refine cvi1 rfl rfl Tryd.underlying3 Tryd.underlying5 (w8of rfl (by omega)) ?_
  refine apBF (b := [_, _]) rfl e26 (qs := [(_, _), (_, _)]) ⟨⟨_, _, _, rfl, rfl, rfl, rfl, by first | (simp [Value.cells]; done) | simp [Value.cells, encIP]⟩, ⟨_, _, _, rfl, rfl, rfl, rfl, by first | (simp [Value.cells]; done) | simp [Value.cells, encIP]⟩, trivial⟩ (by decide) rfl rfl S (i := 0) rfl rfl rfl (fun t e => by cases e; rfl) (fun _ => rfl) (by first | omega | (simp only [List.length_nil, List.length_append, List.length_cons]; omega)) ?_
  intro u_ v13 w1 S B_
  refine asg1 rfl rfl ?_
  refine Ro.nil ?_
  refine Nrm.code ?_
  refine Run.ret ?_
  refine Rt.one rfl rfl ?_
  exact S.toTn (i := 0) rfl

end Go.Proofs.YtkahmepenjhcpaaDoor.W

/- Contracts: the reference reads. No statement of the seat is proved here. -/
namespace Go.Proofs.YtkahmepenjhcpaaDoor.W
open Go
set_option linter.unusedSimpArgs false
set_option linter.unusedVariables false


set_option maxHeartbeats 1000000 in
theorem c42 (v : Value) (b : List Int) (w : World) (hb : BS [] w v b) :
    CallsV Tryd.prog 42 #[v] w (fun r w' => ∃ o d, r = .tuple #[.agg (encIp4 (parH b) o d).toArray, .int .i64 (parE b)] ∧ FH w w' o d (parH b)) := by
  refine enter Tryd.func42 rfl Tryd.ntmps42 (l := [(0, [], _)]) rfl rfl ?_
  have S := St.refl [] w
  have hB := byt_at hb.1
  have hfl := fields_ip4 hB
  have g0 := hB 0
  have g2 := hB 2
  have g3 := hB 3
  have g6 := hB 6
  have g7 := hB 7
  have hH : 4 * (b.getD 0 0 % 16) = (hdN b : Int) := by unfold hdN; omega
  have hT : totI b = (totN b : Int) := by unfold totN totI; omega
  have hTb : totN b < 65536 := by unfold totN totI; omega
  have hHb : hdN b ≤ 60 := by omega
  rw [hT] at hfl
  have hwb : 0 ≤ offW b ∧ offW b < 8192 := by unfold offW; omega
  have hoe := optE_le (optB4 b)
  have ho4 : optE (optB4 b) = optE ((b.drop 20).take (hdN b - 20)) := rfl
  have hT2 : 256 * b.getD 2 0 + b.getD (2 + 1) 0 = (totN b : Int) := (show 256 * b.getD 2 0 + b.getD 3 0 = (totN b : Int) from by unfold totN totI; omega)
  have h45 : 256 * b.getD 4 0 + b.getD (4 + 1) 0 = b.getD 4 0 * 256 + b.getD 5 0 := (show 256 * b.getD 4 0 + b.getD 5 0 = b.getD 4 0 * 256 + b.getD 5 0 from by omega)
  have h67 : 256 * b.getD 6 0 + b.getD (6 + 1) 0 = 256 * b.getD 6 0 + b.getD 7 0 := rfl
  have hR0 : ∀ i ∈ List.range w.heap.size, i < w.heap.size := fun i hi => List.mem_range.1 hi
  refine Run.seq ?_
  refine Run.region ?_
  refine alc T28 S rfl ?_
  intro b2 w1 hb2 S B_
  refine asg1 rfl rfl ?_
  refine Ro.nil ?_
  refine Nrm.code ?_
  refine Run.seq ?_
  refine Run.region ?_
  refine bld B28 (qs := []) trivial rfl rfl rfl ?_
  refine alc T28 S rfl ?_
  intro b4 w2 hb4 S B_
  refine stW rfl rfl T28 rfl rfl (by simp [Value.oneCell']) S (i := 0) rfl rfl ?_
  intro w3 S
  refine Ro.nil ?_
  refine Nrm.code ?_
  refine Run.seq ?_
  refine Run.seq ?_
  refine Run.region ?_
  refine mv1 rfl rfl ?_
  refine lenS rfl hb.2 Tryd.underlying26 rfl rfl rfl ?_
  refine gtr1 rfl rfl rfl ?_
  refine Ro.nil ?_
  refine Nrm.code ?_
  refine Run.cond rfl (fun hc2 => ?_) (fun hc2 => ?_)
  ·
    try simp only [Bool.or_eq_true, Bool.and_eq_true, Bool.or_eq_false_iff, Bool.and_eq_false_iff, decide_eq_true_eq, decide_eq_false_iff_not, Bool.not_eq_true', Bool.not_eq_false', Bool.not_eq_true, Bool.not_eq_false] at hc2
    refine Run.seq ?_
    refine Run.region ?_
    refine ldW rfl T28 S (i := 0) rfl rfl rfl rfl rfl ?_
    refine stW rfl rfl T28 rfl rfl (by simp [Value.oneCell']) S (i := 1) rfl rfl ?_
    intro w4 S
    refine asg1 rfl rfl ?_
    refine Ro.nil ?_
    refine Nrm.code ?_
    refine Run.ret ?_
    refine Rt.cell2 rfl rfl rfl T28 S (i := 1) rfl rfl ?_
    have he : parE b = 2 := by
      unfold parE
      rw [if_pos (by omega)]
    exact ⟨.slice none 0 0, .slice none 0 0, by rw [parH_err he (by omega), he]; rfl, S.bl, fun _ _ => by rw [parH_err he (by omega)]; exact ⟨OS.nil _ _, BS.nil _ _⟩⟩
  ·
    try simp only [Bool.or_eq_true, Bool.and_eq_true, Bool.or_eq_false_iff, Bool.and_eq_false_iff, decide_eq_true_eq, decide_eq_false_iff_not, Bool.not_eq_true', Bool.not_eq_false', Bool.not_eq_true, Bool.not_eq_false] at hc2
    refine Run.skip ?_
    refine Nrm.code ?_
    refine Run.seq ?_
    refine Run.seq ?_
    refine Run.region ?_
    refine mv1 rfl rfl ?_
    refine lenS rfl hb.2 Tryd.underlying26 rfl rfl rfl ?_
    refine lss1 rfl rfl rfl ?_
    refine Ro.nil ?_
    refine Nrm.code ?_
    refine Run.cond rfl (fun hc4 => ?_) (fun hc4 => ?_)
    ·
      try simp only [Bool.or_eq_true, Bool.and_eq_true, Bool.or_eq_false_iff, Bool.and_eq_false_iff, decide_eq_true_eq, decide_eq_false_iff_not, Bool.not_eq_true', Bool.not_eq_false', Bool.not_eq_true, Bool.not_eq_false] at hc4
      refine Run.seq ?_
      refine Run.region ?_
      refine ldW rfl T28 S (i := 0) rfl rfl rfl rfl rfl ?_
      refine stW rfl rfl T28 rfl rfl (by simp [Value.oneCell']) S (i := 1) rfl rfl ?_
      intro w4 S
      refine asg1 rfl rfl ?_
      refine Ro.nil ?_
      refine Nrm.code ?_
      refine Run.ret ?_
      refine Rt.cell2 rfl rfl rfl T28 S (i := 1) rfl rfl ?_
      have he : parE b = 60 := by
        unfold parE
        rw [if_neg (by omega), if_pos (by omega)]
      exact ⟨.slice none 0 0, .slice none 0 0, by rw [parH_err he (by omega), he]; rfl, S.bl, fun _ _ => by rw [parH_err he (by omega)]; exact ⟨OS.nil _ _, BS.nil _ _⟩⟩
    ·
      try simp only [Bool.or_eq_true, Bool.and_eq_true, Bool.or_eq_false_iff, Bool.and_eq_false_iff, decide_eq_true_eq, decide_eq_false_iff_not, Bool.not_eq_true', Bool.not_eq_false', Bool.not_eq_true, Bool.not_eq_false] at hc4
      refine Run.skip ?_
      refine Nrm.code ?_
      refine Run.seq ?_
      refine Run.region ?_
      refine mv1 rfl rfl ?_
      refine ixa rfl rfl hb.2 e26 rfl rfl rfl rfl (fun _ => by first | omega | (simp only [List.length_cons, List.length_nil]; omega)) ?_
      refine ldB rfl hb S T5 rfl rfl rfl (fun _ => by omega) ?_
      intro q23 hq23 hbq23
      try simp only [Int.toNat_natCast, Nat.mul_one, Int.reduceToNat] at hq23
      refine rem1 rfl rfl rfl (by decide) (r64 (by omega)) ?_
      refine cvi1 rfl rfl Tryd.underlying5 Tryd.underlying3 (w64 (by omega)) ?_
      refine mul1 rfl rfl rfl ((show IntKind.i64.wrap (_ * 4) = (hdN b : Int) from by rw [w64 (by omega)]; omega)) ?_
      refine asg1 rfl rfl ?_
      refine Ro.nil ?_
      refine Nrm.code ?_
      refine Run.seq ?_
      refine Run.region ?_
      refine mv1 rfl rfl ?_
      refine calg (vs := [_, _]) rfl ⟨⟨_, _, rfl, rfl⟩, ⟨_, _, rfl, rfl⟩, trivial⟩ k111 rfl (fun hG => (by have := c111 _ _ 2 _ (hb.now S) (by omega) (by omega); rw [hT2] at this; exact this)) ?_
      intro w4 B_; have S := S.call B_
      refine asg1 rfl rfl ?_
      refine Ro.nil ?_
      refine Nrm.code ?_
      refine Run.seq ?_
      refine Run.block ?_
      refine Run.seq ?_
      refine Run.region ?_
      refine mv1 rfl rfl ?_
      refine ixa rfl rfl hb.2 e26 rfl rfl rfl rfl (fun _ => by first | omega | (simp only [List.length_cons, List.length_nil]; omega)) ?_
      refine ldB rfl hb S T5 rfl rfl rfl (fun _ => by omega) ?_
      intro q32 hq32 hbq32
      try simp only [Int.toNat_natCast, Nat.mul_one, Int.reduceToNat] at hq32
      refine quo1 rfl rfl rfl (by decide) ((show IntKind.u8.wrap (Int.tdiv q32 16) = b.getD 0 0 / 16 from by rw [Int.tdiv_eq_ediv_of_nonneg (by omega), hq32]; exact w8of rfl (by omega))) ?_
      refine neq1 rfl rfl rfl ?_
      refine asg1 rfl rfl ?_
      refine Ro.nil ?_
      refine Nrm.code ?_
      refine Run.cond rfl (fun hc8 => ?_) (fun hc8 => ?_)
      ·
        try simp only [Bool.or_eq_true, Bool.and_eq_true, Bool.or_eq_false_iff, Bool.and_eq_false_iff, decide_eq_true_eq, decide_eq_false_iff_not, Bool.not_eq_true', Bool.not_eq_false', Bool.not_eq_true, Bool.not_eq_false] at hc8
        refine Run.seq ?_
        refine Run.region ?_
        refine ldW rfl T28 S (i := 0) rfl rfl rfl rfl rfl ?_
        refine stW rfl rfl T28 rfl rfl (by simp [Value.oneCell']) S (i := 1) rfl rfl ?_
        intro w5 S
        refine asg1 rfl rfl ?_
        refine Ro.nil ?_
        refine Nrm.code ?_
        refine Run.ret ?_
        refine Rt.cell2 rfl rfl rfl T28 S (i := 1) rfl rfl ?_
        have he : parE b = 61 := by
          unfold parE
          rw [if_neg (by omega), if_neg (by omega), if_pos (by omega)]
        exact ⟨.slice none 0 0, .slice none 0 0, by rw [parH_err he (by omega), he]; rfl, S.bl, fun _ _ => by rw [parH_err he (by omega)]; exact ⟨OS.nil _ _, BS.nil _ _⟩⟩
      ·
        try simp only [Bool.or_eq_true, Bool.and_eq_true, Bool.or_eq_false_iff, Bool.and_eq_false_iff, decide_eq_true_eq, decide_eq_false_iff_not, Bool.not_eq_true', Bool.not_eq_false', Bool.not_eq_true, Bool.not_eq_false] at hc8
        refine Run.seq ?_
        refine Run.region ?_
        refine mv1 rfl rfl ?_
        refine lss1 rfl rfl rfl ?_
        refine mv1 rfl rfl ?_
        refine mv rfl rfl rfl rfl ?_
        refine mv rfl rfl rfl rfl ?_
        refine lenS rfl hb.2 Tryd.underlying26 rfl rfl rfl ?_
        refine gtr rfl rfl rfl rfl rfl rfl ?_
        refine pkO rfl rfl rfl rfl rfl rfl ?_
        refine asg1 rfl rfl ?_
        refine Ro.nil ?_
        refine Nrm.code ?_
        refine Run.cond rfl (fun hc10 => ?_) (fun hc10 => ?_)
        ·
          try simp only [Bool.or_eq_true, Bool.and_eq_true, Bool.or_eq_false_iff, Bool.and_eq_false_iff, decide_eq_true_eq, decide_eq_false_iff_not, Bool.not_eq_true', Bool.not_eq_false', Bool.not_eq_true, Bool.not_eq_false] at hc10
          refine Run.seq ?_
          refine Run.region ?_
          refine ldW rfl T28 S (i := 0) rfl rfl rfl rfl rfl ?_
          refine stW rfl rfl T28 rfl rfl (by simp [Value.oneCell']) S (i := 1) rfl rfl ?_
          intro w5 S
          refine asg1 rfl rfl ?_
          refine Ro.nil ?_
          refine Nrm.code ?_
          refine Run.ret ?_
          refine Rt.cell2 rfl rfl rfl T28 S (i := 1) rfl rfl ?_
          have he : parE b = 62 := by
            unfold parE
            rw [if_neg (by omega), if_neg (by omega), if_neg (by omega), if_pos (by omega)]
          exact ⟨.slice none 0 0, .slice none 0 0, by rw [parH_err he (by omega), he]; rfl, S.bl, fun _ _ => by rw [parH_err he (by omega)]; exact ⟨OS.nil _ _, BS.nil _ _⟩⟩
        ·
          try simp only [Bool.or_eq_true, Bool.and_eq_true, Bool.or_eq_false_iff, Bool.and_eq_false_iff, decide_eq_true_eq, decide_eq_false_iff_not, Bool.not_eq_true', Bool.not_eq_false', Bool.not_eq_true, Bool.not_eq_false] at hc10
          refine Run.seq ?_
          refine Run.region ?_
          refine mv1 rfl rfl ?_
          refine mv1 rfl rfl ?_
          refine lss1 rfl rfl rfl ?_
          refine mv1 rfl rfl ?_
          refine mv rfl rfl rfl rfl ?_
          refine mv rfl rfl rfl rfl ?_
          refine lenS rfl hb.2 Tryd.underlying26 rfl rfl rfl ?_
          refine gtr rfl rfl rfl rfl rfl rfl ?_
          refine pkO rfl rfl rfl rfl rfl rfl ?_
          refine asg1 rfl rfl ?_
          refine Ro.nil ?_
          refine Nrm.code ?_
          refine Run.cond rfl (fun hc12 => ?_) (fun hc12 => ?_)
          ·
            try simp only [Bool.or_eq_true, Bool.and_eq_true, Bool.or_eq_false_iff, Bool.and_eq_false_iff, decide_eq_true_eq, decide_eq_false_iff_not, Bool.not_eq_true', Bool.not_eq_false', Bool.not_eq_true, Bool.not_eq_false] at hc12
            refine Run.seq ?_
            refine Run.region ?_
            refine ldW rfl T28 S (i := 0) rfl rfl rfl rfl rfl ?_
            refine stW rfl rfl T28 rfl rfl (by simp [Value.oneCell']) S (i := 1) rfl rfl ?_
            intro w5 S
            refine asg1 rfl rfl ?_
            refine Ro.nil ?_
            refine Nrm.code ?_
            refine Run.ret ?_
            refine Rt.cell2 rfl rfl rfl T28 S (i := 1) rfl rfl ?_
            have he : parE b = 63 := by
              unfold parE
              rw [if_neg (by omega), if_neg (by omega), if_neg (by omega), if_neg (by omega), if_pos (by omega)]
            exact ⟨.slice none 0 0, .slice none 0 0, by rw [parH_err he (by omega), he]; rfl, S.bl, fun _ _ => by rw [parH_err he (by omega)]; exact ⟨OS.nil _ _, BS.nil _ _⟩⟩
          ·
            try simp only [Bool.or_eq_true, Bool.and_eq_true, Bool.or_eq_false_iff, Bool.and_eq_false_iff, decide_eq_true_eq, decide_eq_false_iff_not, Bool.not_eq_true', Bool.not_eq_false', Bool.not_eq_true, Bool.not_eq_false] at hc12
            refine Run.skip ?_
            refine Nrm.blk ?_
            refine Nrm.code ?_
            refine Run.seq ?_
            refine Run.region ?_
            refine mv1 rfl rfl ?_
            refine mv1 rfl rfl ?_
            refine slC (lo := 0) (hi := hdN b) (mx := capV v) rfl hb e26 rfl rfl rfl (i1 := none) (i2 := some (hdN b)) (i3 := none) trivial ⟨_, _, _, rfl, rfl⟩ trivial rfl rfl rfl (fun h => by first | rfl | cases h) (fun hG => by (try simp [allT] at hG); have hcap := hb.cap; omega) ?_
            have hv59 := hb.cut (lo := 0) (hi := hdN b) (mx := capV v) (by have hcap := hb.cap; omega)
            refine bsl e102 (qs := [(_, _)]) ⟨⟨_, _, _, rfl, rfl, cells1 hv59.one, rfl, List.cons_ne_nil _ _⟩, trivial⟩ rfl rfl rfl rfl S ?_
            intro u60 w5 S B_
            have hgd : CallsD Tryd.prog 112 #[u60] w5 (.bool (decide (sumS (b.take (hdN b)) = 65535))) := by
              have := c112 u60 [b.take (hdN b)] w5 ⟨[_], S.slI (i := 0) rfl, hv59.now S, trivial⟩ (by rw [flat1, List.length_take]; omega) (by simp)
              rw [flat1] at this
              exact this
            refine calg (vs := [_]) rfl ⟨⟨_, _, rfl, rfl⟩, trivial⟩ k112 rfl (fun hG => hgd) ?_
            intro w6 B_; have S := S.call B_
            refine asg1 rfl rfl ?_
            refine Ro.nil ?_
            refine Nrm.code ?_
            refine Run.seq ?_
            refine Run.seq ?_
            refine Run.region ?_
            refine mv1 rfl rfl ?_
            refine nt1 rfl rfl ?_
            refine Ro.nil ?_
            refine Nrm.code ?_
            refine Run.cond rfl (fun hc15 => ?_) (fun hc15 => ?_)
            ·
              try simp only [Bool.or_eq_true, Bool.and_eq_true, Bool.or_eq_false_iff, Bool.and_eq_false_iff, decide_eq_true_eq, decide_eq_false_iff_not, Bool.not_eq_true', Bool.not_eq_false', Bool.not_eq_true, Bool.not_eq_false] at hc15
              refine Run.seq ?_
              refine Run.region ?_
              refine ldW rfl T28 S (i := 1) rfl rfl rfl rfl rfl ?_
              refine stW rfl rfl T28 rfl rfl (by simp [Value.oneCell']) S (i := 2) rfl rfl ?_
              intro w7 S
              refine asg1 rfl rfl ?_
              refine Ro.nil ?_
              refine Nrm.code ?_
              refine Run.ret ?_
              refine Rt.cell2 rfl rfl rfl T28 S (i := 2) rfl rfl ?_
              have he : parE b = 64 := by
                unfold parE
                rw [if_neg (by omega), if_neg (by omega), if_neg (by omega), if_neg (by omega), if_neg (by omega), if_pos (show sumS (b.take (hdN b)) ≠ 65535 from by simpa using hc15)]
              exact ⟨.slice none 0 0, .slice none 0 0, by rw [parH_err he (by omega), he]; rfl, S.bl, fun _ _ => by rw [parH_err he (by omega)]; exact ⟨OS.nil _ _, BS.nil _ _⟩⟩
            ·
              try simp only [Bool.or_eq_true, Bool.and_eq_true, Bool.or_eq_false_iff, Bool.and_eq_false_iff, decide_eq_true_eq, decide_eq_false_iff_not, Bool.not_eq_true', Bool.not_eq_false', Bool.not_eq_true, Bool.not_eq_false] at hc15
              refine Run.skip ?_
              refine Nrm.code ?_
              refine Run.seq ?_
              refine Run.region ?_
              refine mv1 rfl rfl ?_
              refine mv1 rfl rfl ?_
              refine slC (lo := 20) (hi := hdN b) (mx := capV v) rfl hb e26 rfl rfl rfl (i1 := some 20) (i2 := some (hdN b)) (i3 := none) ⟨_, _, _, rfl, rfl⟩ ⟨_, _, _, rfl, rfl⟩ trivial rfl rfl rfl (fun h => by first | rfl | cases h) (fun hG => by (try simp [allT] at hG); have hcap := hb.cap; omega) ?_
              have hv68 := hb.cut (lo := 20) (hi := hdN b) (mx := capV v) (by have hcap := hb.cap; omega)
              have S0 := S
              have SS0 := S
              refine call (vs := [_]) ⟨⟨_, _, rfl, rfl⟩, trivial⟩ k45 rfl (c45 _ _ _ (hv68.now S)) ?_
              rintro _ w7 ⟨o8, rfl, hFO⟩
              have S := S.call hFO.1
              have ho8 := hFO.2 _ S0.lt
              have ho8F := hFO.2 _ SS0.ltR
              obtain ⟨N1, hN1, S_1⟩ := S.reb
              have hb := hb.st S; rw [hN1] at hb
              rw [hN1] at ho8
              rw [hN1] at ho8F
              have SS := S
              have S := S_1
              refine mv1 rfl rfl ?_
              refine extr1 rfl rfl rfl ?_
              refine extr1 rfl rfl rfl ?_
              refine asg1 rfl rfl ?_
              refine asg1 rfl rfl ?_
              refine Ro.nil ?_
              refine Nrm.code ?_
              refine Run.seq ?_
              refine Run.seq ?_
              refine Run.region ?_
              refine mv1 rfl rfl ?_
              refine neq1 rfl rfl rfl ?_
              refine Ro.nil ?_
              refine Nrm.code ?_
              refine Run.cond rfl (fun hc18 => ?_) (fun hc18 => ?_)
              ·
                try simp only [Bool.or_eq_true, Bool.and_eq_true, Bool.or_eq_false_iff, Bool.and_eq_false_iff, decide_eq_true_eq, decide_eq_false_iff_not, Bool.not_eq_true', Bool.not_eq_false', Bool.not_eq_true, Bool.not_eq_false] at hc18
                refine Run.seq ?_
                refine Run.region ?_
                refine ldW rfl T28 S (i := 1) rfl rfl rfl rfl rfl ?_
                refine mv1 rfl rfl ?_
                refine stW rfl rfl T28 rfl rfl (by simp [Value.oneCell']) S (i := 2) rfl rfl ?_
                intro w8 S
                refine asg1 rfl rfl ?_
                refine Ro.nil ?_
                refine Nrm.code ?_
                refine Run.ret ?_
                refine Rt.cell2 rfl rfl rfl T28 S (i := 2) rfl rfl ?_
                have he : parE b = optE (optB4 b) := by
                  unfold parE
                  rw [if_neg (by omega), if_neg (by omega), if_neg (by omega), if_neg (by omega), if_neg (by omega), if_neg (by omega), if_pos (show optE (optB4 b) ≠ 0 from hc18)]
                exact ⟨.slice none 0 0, .slice none 0 0, by rw [parH_err he (by omega), he]; rfl, (SS.tran hN1 S).bl, fun _ _ => by rw [parH_err he (by omega)]; exact ⟨OS.nil _ _, BS.nil _ _⟩⟩
              ·
                try simp only [Bool.or_eq_true, Bool.and_eq_true, Bool.or_eq_false_iff, Bool.and_eq_false_iff, decide_eq_true_eq, decide_eq_false_iff_not, Bool.not_eq_true', Bool.not_eq_false', Bool.not_eq_true, Bool.not_eq_false] at hc18
                refine Run.skip ?_
                refine Nrm.code ?_
                refine Run.seq ?_
                refine Run.region ?_
                refine mv1 rfl rfl ?_
                refine calg (vs := [_, _]) rfl ⟨⟨_, _, rfl, rfl⟩, ⟨_, _, rfl, rfl⟩, trivial⟩ k111 rfl (fun hG => (by have := c111 _ _ 6 _ (hb.now S) (by omega) (by omega); rw [h67] at this; exact this)) ?_
                intro w8 B_; have S := S.call B_
                refine asg1 rfl rfl ?_
                refine Ro.nil ?_
                refine Nrm.code ?_
                refine Run.seq ?_
                refine Run.heldB (by kernel_rfl) S [true, true, true] rfl rfl rfl ?_
                intro w9 BD S SC
                refine Hb.take (i := 0) SC (fun _ _ S B => S.call B) Pp.body rfl (by kernel_rfl) (by kernel_rfl) (by kernel_rfl) rfl rfl ?_
                refine qmv rfl rfl rfl rfl ?_
                refine Hb.back ?_
                refine Hb.take (i := 1) SC (fun _ _ S B => S.call B) Pp.body rfl (by kernel_rfl) (by kernel_rfl) (by kernel_rfl) rfl rfl ?_
                refine qixa rfl rfl hb.2 e26 rfl rfl rfl rfl (fun _ => by first | omega | (simp only [List.length_cons, List.length_nil]; omega)) ?_
                refine Hb.back ?_
                refine Hb.take (i := 2) SC (fun _ _ S B => S.call B) Pp.body rfl (by kernel_rfl) (by kernel_rfl) (by kernel_rfl) rfl rfl ?_
                refine qldB rfl hb (fun _ S => S) T5 rfl rfl rfl (fun _ => by omega) ?_
                intro q80 hq80 hbq80
                try simp only [Int.toNat_natCast, Nat.mul_one, Int.reduceToNat] at hq80
                refine Hb.back ?_
                refine Hb.take (i := 3) SC (fun _ _ S B => S.call B) Pp.body rfl (by kernel_rfl) (by kernel_rfl) (by kernel_rfl) rfl rfl ?_
                refine qcvi rfl rfl rfl rfl Tryd.underlying5 Tryd.underlying3 (fun _ => w64 (by omega)) ?_
                refine Hb.back ?_
                refine Hb.take (i := 4) SC (fun _ _ S B => S.call B) Pp.body rfl (by kernel_rfl) (by kernel_rfl) (by kernel_rfl) rfl rfl ?_
                refine qmv rfl rfl rfl rfl ?_
                refine Hb.back ?_
                refine Hb.take (i := 6) SC (fun _ _ S B => S.call B) Pp.body rfl (by kernel_rfl) (by kernel_rfl) (by kernel_rfl) rfl rfl ?_
                refine qmv rfl rfl rfl rfl ?_
                refine Hb.back ?_
                refine Hb.take (i := 7) SC (fun _ _ S B => S.call B) Pp.body rfl (by kernel_rfl) (by kernel_rfl) (by kernel_rfl) rfl rfl ?_
                refine qquo rfl rfl rfl rfl rfl rfl (fun _ => by decide) (fun _ => (show IntKind.i64.wrap (Int.tdiv (256 * b.getD 6 0 + b.getD 7 0) 16384) = b.getD 6 0 / 64 from by rw [Int.tdiv_eq_ediv_of_nonneg (by omega), w64 (by omega)]; omega)) ?_
                refine Hb.back ?_
                refine Hb.take (i := 8) SC (fun _ _ S B => S.call B) Pp.body rfl (by kernel_rfl) (by kernel_rfl) (by kernel_rfl) rfl rfl ?_
                refine qrem rfl rfl rfl rfl rfl rfl (fun _ => by decide) (fun _ => r64 (by omega)) ?_
                refine Hb.back ?_
                refine Hb.take (i := 9) SC (fun _ _ S B => S.call B) Pp.body rfl (by kernel_rfl) (by kernel_rfl) (by kernel_rfl) rfl rfl ?_
                refine qeql rfl rfl rfl rfl rfl rfl ?_
                refine Hb.back ?_
                refine Hb.take (i := 10) SC (fun _ _ S B => S.call B) Pp.body rfl (by kernel_rfl) (by kernel_rfl) (by kernel_rfl) rfl rfl ?_
                refine qmv rfl rfl rfl rfl ?_
                refine Hb.back ?_
                refine Hb.take (i := 11) SC (fun _ _ S B => S.call B) Pp.body rfl (by kernel_rfl) (by kernel_rfl) (by kernel_rfl) rfl rfl ?_
                refine qquo rfl rfl rfl rfl rfl rfl (fun _ => by decide) (fun _ => (show IntKind.i64.wrap (Int.tdiv (256 * b.getD 6 0 + b.getD 7 0) 8192) = b.getD 6 0 / 32 from by rw [Int.tdiv_eq_ediv_of_nonneg (by omega), w64 (by omega)]; omega)) ?_
                refine Hb.back ?_
                refine Hb.take (i := 12) SC (fun _ _ S B => S.call B) Pp.body rfl (by kernel_rfl) (by kernel_rfl) (by kernel_rfl) rfl rfl ?_
                refine qrem rfl rfl rfl rfl rfl rfl (fun _ => by decide) (fun _ => r64 (by omega)) ?_
                refine Hb.back ?_
                refine Hb.take (i := 13) SC (fun _ _ S B => S.call B) Pp.body rfl (by kernel_rfl) (by kernel_rfl) (by kernel_rfl) rfl rfl ?_
                refine qeql rfl rfl rfl rfl rfl rfl ?_
                refine Hb.back ?_
                refine Hb.take (i := 14) SC (fun _ _ S B => S.call B) Pp.body rfl (by kernel_rfl) (by kernel_rfl) (by kernel_rfl) rfl rfl ?_
                refine qmv rfl rfl rfl rfl ?_
                refine Hb.back ?_
                refine Hb.take (i := 15) SC (fun _ _ S B => S.call B) Pp.body rfl (by kernel_rfl) (by kernel_rfl) (by kernel_rfl) rfl rfl ?_
                refine qrem rfl rfl rfl rfl rfl rfl (fun _ => by decide) (fun _ => (show Int.tmod (256 * b.getD 6 0 + b.getD 7 0) 8192 = offW b from by rw [Int.tmod_eq_emod_of_nonneg (by omega)]; unfold offW; omega)) ?_
                refine Hb.back ?_
                refine Hb.take (i := 16) SC (fun _ _ S B => S.call B) Pp.body rfl (by kernel_rfl) (by kernel_rfl) (by kernel_rfl) rfl rfl ?_
                refine qmul rfl rfl rfl rfl rfl rfl (fun _ => (show IntKind.i64.wrap (offW b * 8) = 8 * offW b from by rw [w64 (by omega)]; omega)) ?_
                refine Hb.back ?_
                refine Hb.take (i := 17) SC (fun _ _ S B => S.call B) Pp.body rfl (by kernel_rfl) (by kernel_rfl) (by kernel_rfl) rfl rfl ?_
                refine qmv rfl rfl rfl rfl ?_
                refine Hb.back ?_
                refine Hb.take (i := 18) SC (fun _ _ S B => S.call B) Pp.body rfl (by kernel_rfl) (by kernel_rfl) (by kernel_rfl) rfl rfl ?_
                refine qixa rfl rfl hb.2 e26 rfl rfl rfl rfl (fun _ => by first | omega | (simp only [List.length_cons, List.length_nil]; omega)) ?_
                refine Hb.back ?_
                refine Hb.take (i := 19) SC (fun _ _ S B => S.call B) Pp.body rfl (by kernel_rfl) (by kernel_rfl) (by kernel_rfl) rfl rfl ?_
                refine qldB rfl hb (fun _ S => S) T5 rfl rfl rfl (fun _ => by omega) ?_
                intro q97 hq97 hbq97
                try simp only [Int.toNat_natCast, Nat.mul_one, Int.reduceToNat] at hq97
                refine Hb.back ?_
                refine Hb.take (i := 20) SC (fun _ _ S B => S.call B) Pp.body rfl (by kernel_rfl) (by kernel_rfl) (by kernel_rfl) rfl rfl ?_
                refine qcvi rfl rfl rfl rfl Tryd.underlying5 Tryd.underlying3 (fun _ => w64 (by omega)) ?_
                refine Hb.back ?_
                refine Hb.take (i := 21) SC (fun _ _ S B => S.call B) Pp.body rfl (by kernel_rfl) (by kernel_rfl) (by kernel_rfl) rfl rfl ?_
                refine qmv rfl rfl rfl rfl ?_
                refine Hb.back ?_
                refine Hb.take (i := 22) SC (fun _ _ S B => S.call B) Pp.body rfl (by kernel_rfl) (by kernel_rfl) (by kernel_rfl) rfl rfl ?_
                refine qixa rfl rfl hb.2 e26 rfl rfl rfl rfl (fun _ => by first | omega | (simp only [List.length_cons, List.length_nil]; omega)) ?_
                refine Hb.back ?_
                refine Hb.take (i := 23) SC (fun _ _ S B => S.call B) Pp.body rfl (by kernel_rfl) (by kernel_rfl) (by kernel_rfl) rfl rfl ?_
                refine qldB rfl hb (fun _ S => S) T5 rfl rfl rfl (fun _ => by omega) ?_
                intro q101 hq101 hbq101
                try simp only [Int.toNat_natCast, Nat.mul_one, Int.reduceToNat] at hq101
                refine Hb.back ?_
                refine Hb.take (i := 24) SC (fun _ _ S B => S.call B) Pp.body rfl (by kernel_rfl) (by kernel_rfl) (by kernel_rfl) rfl rfl ?_
                refine qcvi rfl rfl rfl rfl Tryd.underlying5 Tryd.underlying3 (fun _ => w64 (by omega)) ?_
                refine Hb.back ?_
                refine Hb.take (i := 25) SC (fun _ _ S B => S.call B) Pp.body rfl (by kernel_rfl) (by kernel_rfl) (by kernel_rfl) rfl rfl ?_
                refine qmv rfl rfl rfl rfl ?_
                refine Hb.back ?_
                refine Hb.take (i := 27) SC (fun _ _ S B => S.call B) Pp.body rfl (by kernel_rfl) (by kernel_rfl) (by kernel_rfl) rfl rfl ?_
                refine qmv rfl rfl rfl rfl ?_
                refine Hb.back ?_
                refine Hb.take (i := 29) SC (fun _ _ S B => S.call B) Pp.body rfl (by kernel_rfl) (by kernel_rfl) (by kernel_rfl) rfl rfl ?_
                refine qmv rfl rfl rfl rfl ?_
                refine Hb.back ?_
                refine Hb.take (i := 30) SC (fun _ _ S B => S.call B) Pp.body rfl (by kernel_rfl) (by kernel_rfl) (by kernel_rfl) rfl rfl ?_
                refine qmv rfl rfl rfl rfl ?_
                refine Hb.back ?_
                refine Hb.take (i := 31) SC (fun _ _ S B => S.call B) Pp.body rfl (by kernel_rfl) (by kernel_rfl) (by kernel_rfl) rfl rfl ?_
                refine qmv rfl rfl rfl rfl ?_
                refine Hb.back ?_
                refine Hb.take (i := 32) SC (fun _ _ S B => S.call B) Pp.body rfl (by kernel_rfl) (by kernel_rfl) (by kernel_rfl) rfl rfl ?_
                refine qmv rfl rfl rfl rfl ?_
                refine Hb.back ?_
                refine Hb.take (i := 33) SC (fun _ _ S B => S.call B) Pp.body rfl (by kernel_rfl) (by kernel_rfl) (by kernel_rfl) rfl rfl ?_
                have hv111 := hb.cut (lo := hdN b) (hi := totN b) (mx := capV v) (by have hcap := hb.cap; omega)
                refine qslC (lo := hdN b) (hi := totN b) (mx := capV v) rfl hb e26 rfl rfl rfl (i1 := some (hdN b)) (i2 := some (totN b)) (i3 := none) ⟨_, _, _, rfl, rfl⟩ ⟨_, _, _, rfl, rfl⟩ trivial rfl rfl rfl (fun h => by first | rfl | cases h) (fun hG => by (try simp [allT] at hG); have hcap := hb.cap; omega) ?_
                refine Hb.back ?_
                refine Hb.call (i := 5) SC (fun _ _ S B => S.call B) Pp.body rfl (by kernel_rfl) (by kernel_rfl) (by kernel_rfl) rfl (vs := [_, _]) rfl ⟨⟨_, _, rfl, rfl⟩, ⟨_, _, rfl, rfl⟩, trivial⟩ k111 rfl (fun hG w_ S => (by have := c111 _ _ 4 _ (hb.now S) (by omega) (by omega); rw [h45] at this; exact this)) ?_
                refine Hb.call (i := 26) SC (fun _ _ S B => S.call B) Pp.body rfl (by kernel_rfl) (by kernel_rfl) (by kernel_rfl) rfl (vs := [_, _]) rfl ⟨⟨_, _, rfl, rfl⟩, ⟨_, _, rfl, rfl⟩, trivial⟩ k113 rfl (fun hG w_ S => c113 _ _ 12 _ (hb.now S) (by omega) (by omega)) ?_
                refine Hb.call (i := 28) SC (fun _ _ S B => S.call B) Pp.body rfl (by kernel_rfl) (by kernel_rfl) (by kernel_rfl) rfl (vs := [_, _]) rfl ⟨⟨_, _, rfl, rfl⟩, ⟨_, _, rfl, rfl⟩, trivial⟩ k113 rfl (fun hG w_ S => c113 _ _ 16 _ (hb.now S) (by omega) (by omega)) ?_
                refine Hb.two (i := 34) (i' := 36) (by kernel_rfl) rfl rfl rfl rfl ?_ ?_
                ·
                  intro w10 BD; have S := S.call BD
                  have S0 := S
                  have SS0 := (SS.tran hN1 S)
                  refine call (vs := [_]) ⟨⟨_, _, rfl, rfl⟩, trivial⟩ k39 rfl (c39 _ _ _ (hv111.now S) (by rw [List.length_take, List.length_drop]; omega)) ?_
                  rintro d12 w11 hFd12
                  have S := S.call hFd12.1
                  have hd12 := hFd12.bs hv111.1 S0.lt
                  have hd12F := hFd12.bs hv111.1 SS0.ltR
                  obtain ⟨N2, hN2, S_2⟩ := S.reb
                  have hb := hb.st S; rw [hN2] at hb
                  have ho8 := ho8.st S; rw [hN2] at ho8
                  have ho8F := ho8F.reF S; rw [hN2] at ho8F
                  rw [hN2] at hd12
                  rw [hN2] at hd12F
                  have SS := SS.tran hN1 S
                  have SH := S
                  have S := S_2
                  have SC := (SH.tran hN2 S).pick [true, true, true] rfl
                  refine Hb.on SC ?_
                  refine Hb.take (i := 35) SC (fun _ _ S B => S.call B) Pp.body rfl (by kernel_rfl) (by kernel_rfl) (by kernel_rfl) rfl rfl ?_
                  refine qbld B28 (qs := [(_, _), (_, _), (_, _), (_, _), (_, _), (_, _), (_, _), (_, _), (_, _), (_, _), (_, _)]) ⟨⟨_, _, _, rfl, rfl, rfl, rfl, by first | (simp [Value.cells]; done) | simp [Value.cells, encIP]⟩, ⟨_, _, _, rfl, rfl, rfl, rfl, by first | (simp [Value.cells]; done) | simp [Value.cells, encIP]⟩, ⟨_, _, _, rfl, rfl, rfl, rfl, by first | (simp [Value.cells]; done) | simp [Value.cells, encIP]⟩, ⟨_, _, _, rfl, rfl, rfl, rfl, by first | (simp [Value.cells]; done) | simp [Value.cells, encIP]⟩, ⟨_, _, _, rfl, rfl, rfl, rfl, by first | (simp [Value.cells]; done) | simp [Value.cells, encIP]⟩, ⟨_, _, _, rfl, rfl, rfl, rfl, by first | (simp [Value.cells]; done) | simp [Value.cells, encIP]⟩, ⟨_, _, _, rfl, rfl, rfl, rfl, by first | (simp [Value.cells]; done) | simp [Value.cells, encIP]⟩, ⟨_, _, _, rfl, rfl, rfl, rfl, by first | (simp [Value.cells]; done) | simp [Value.cells, encIP]⟩, ⟨_, _, _, rfl, rfl, rfl, rfl, by first | (simp [Value.cells]; done) | simp [Value.cells, encIP]⟩, ⟨_, _, _, rfl, rfl, cells1 ho8.one, rfl, List.cons_ne_nil _ _⟩, ⟨_, _, _, rfl, rfl, cells1 hd12.one, rfl, List.cons_ne_nil _ _⟩, trivial⟩ rfl rfl rfl ?_
                  refine Hb.back ?_
                  refine Hb.one (i := 36) (by kernel_rfl) rfl rfl ?_
                  intro w12 BD; have S := S.call BD
                  refine alc T28 S rfl ?_
                  intro b11 w13 hb11 S B_
                  have SC := (SH.tran hN2 S).pick [false, true, true, true] rfl
                  refine Hb.on SC ?_
                  refine Hb.one (i := 37) (by kernel_rfl) rfl rfl ?_
                  intro w14 BD; have S := S.call BD
                  refine stW rfl rfl T28 rfl rfl (one_cons rfl (one_cons rfl (one_cons rfl (one_cons rfl (one_cons rfl (one_cons rfl (one_cons rfl (one_cons rfl (one_cons rfl (one_cons rfl (one_cons rfl (one_cons rfl (one_cons rfl (one_cons rfl (one_cons rfl (one_cons rfl (one_cons rfl (one_cons rfl (one_cons rfl (one_cons rfl (one_cons rfl (one_cons rfl (one_cons rfl (one_cons rfl (one_cons rfl (one_cons rfl (one_cons rfl (one_cons rfl (one_cons rfl (one_cons rfl (one_cons rfl (one_cons rfl (one_cons rfl (one_cons rfl (one_cons rfl (one_cons rfl (one_cons rfl (one_cons rfl (one_cons rfl (one_cons rfl (one_cons rfl (one_cons ho8.one (one_cons hd12.one one_nil))))))))))))))))))))))))))))))))))))))))))) S (i := 0) rfl rfl ?_
                  intro w15 S
                  have SC := (SH.tran hN2 S).pick [false, true, true, true] rfl
                  refine Hb.on SC ?_
                  refine Hb.done (by kernel_rfl) ?_
                  intro w16 BD; have S := S.call BD
                  refine Nrm.code ?_
                  refine Run.seq ?_
                  refine Run.seq ?_
                  refine Run.region ?_
                  have hln : ((((b.drop (hdN b)).take (totN b - hdN b)).length : Nat) : Int) = (totN b : Int) - hdN b := by rw [List.length_take, List.length_drop]; omega
                  refine fld (o' := 3) rfl fo28_3 rfl rfl rfl rfl ?_
                  refine ld1 rfl T4 S (i := 0) rfl rfl rfl rfl rfl ?_
                  refine fld (o' := 4) rfl fo28_4 rfl rfl rfl rfl ?_
                  refine ld1 rfl T3 S (i := 0) rfl rfl rfl rfl rfl ?_
                  refine fld (o' := 42) rfl fo28_10 rfl rfl rfl rfl ?_
                  refine ld1 rfl T26 S (i := 0) rfl rfl rfl rfl rfl ?_
                  refine lenS rfl hd12.2 Tryd.underlying26 rfl rfl rfl ?_
                  refine calg (vs := [_, _, _]) rfl ⟨⟨_, _, rfl, rfl⟩, ⟨_, _, rfl, rfl⟩, ⟨_, _, rfl, rfl⟩, trivial⟩ k114 rfl (fun hG => c114 _ _ _ _ (by omega)) ?_
                  intro w17 B_; have S := S.call B_
                  refine Ro.nil ?_
                  refine Nrm.code ?_
                  refine Run.cond rfl (fun hc22 => ?_) (fun hc22 => ?_)
                  ·
                    try simp only [Bool.or_eq_true, Bool.and_eq_true, Bool.or_eq_false_iff, Bool.and_eq_false_iff, decide_eq_true_eq, decide_eq_false_iff_not, Bool.not_eq_true', Bool.not_eq_false', Bool.not_eq_true, Bool.not_eq_false] at hc22
                    refine Run.seq ?_
                    refine Run.region ?_
                    refine ldW rfl T28 S (i := 2) rfl rfl rfl rfl rfl ?_
                    refine stW rfl rfl T28 rfl rfl (by simp [Value.oneCell']) S (i := 3) rfl rfl ?_
                    intro w18 S
                    refine asg1 rfl rfl ?_
                    refine Ro.nil ?_
                    refine Nrm.code ?_
                    refine Run.ret ?_
                    refine Rt.cell2 rfl rfl rfl T28 S (i := 3) rfl rfl ?_
                    have hfr := fragE_or (decide (b.getD 6 0 / 32 % 2 = 1)) (8 * offW b) ((totN b : Int) - hdN b)
                    rw [hln] at hc22
                    have he : parE b = 66 := by
                      unfold parE
                      rw [if_neg (by omega), if_neg (by omega), if_neg (by omega), if_neg (by omega), if_neg (by omega), if_neg (by omega), if_neg (by omega)]
                      omega
                    exact ⟨.slice none 0 0, .slice none 0 0, by rw [parH_err he (by omega), he]; rfl, (SS.tran hN2 S).bl, fun _ _ => by rw [parH_err he (by omega)]; exact ⟨OS.nil _ _, BS.nil _ _⟩⟩
                  ·
                    try simp only [Bool.or_eq_true, Bool.and_eq_true, Bool.or_eq_false_iff, Bool.and_eq_false_iff, decide_eq_true_eq, decide_eq_false_iff_not, Bool.not_eq_true', Bool.not_eq_false', Bool.not_eq_true, Bool.not_eq_false] at hc22
                    refine Run.skip ?_
                    refine Nrm.code ?_
                    refine Run.seq ?_
                    refine Run.region ?_
                    refine ldW rfl T28 S (i := 0) rfl rfl rfl rfl rfl ?_
                    refine stW rfl rfl T28 rfl rfl (one_cons rfl (one_cons rfl (one_cons rfl (one_cons rfl (one_cons rfl (one_cons rfl (one_cons rfl (one_cons rfl (one_cons rfl (one_cons rfl (one_cons rfl (one_cons rfl (one_cons rfl (one_cons rfl (one_cons rfl (one_cons rfl (one_cons rfl (one_cons rfl (one_cons rfl (one_cons rfl (one_cons rfl (one_cons rfl (one_cons rfl (one_cons rfl (one_cons rfl (one_cons rfl (one_cons rfl (one_cons rfl (one_cons rfl (one_cons rfl (one_cons rfl (one_cons rfl (one_cons rfl (one_cons rfl (one_cons rfl (one_cons rfl (one_cons rfl (one_cons rfl (one_cons rfl (one_cons rfl (one_cons rfl (one_cons ho8.one (one_cons hd12.one one_nil))))))))))))))))))))))))))))))))))))))))))) S (i := 3) rfl rfl ?_
                    intro w18 S
                    refine asg1 rfl rfl ?_
                    refine Ro.nil ?_
                    refine Nrm.code ?_
                    refine Run.ret ?_
                    refine Rt.cell2 rfl rfl rfl T28 S (i := 3) rfl rfl ?_
                    rw [hln] at hc22
                    have he : parE b = 0 := by
                      unfold parE
                      rw [if_neg (by omega), if_neg (by omega), if_neg (by omega), if_neg (by omega), if_neg (by omega), if_neg (by omega), if_neg (by omega)]
                      omega
                    exact ⟨o8, d12, by rw [parH, if_pos he, he, hq80, hq97, hq101]; rfl, (SS.tran hN2 S).bl, fun N hN => by rw [parH, if_pos he]; exact ⟨ho8F.fin S hN, hd12F.fin S hN⟩⟩
                ·
                  intro w10 BD; have S := S.call BD
                  refine alc T28 S rfl ?_
                  intro b11 w11 hb11 S B_
                  have SC := S.pick [false, true, true, true] rfl
                  refine Hb.on SC ?_
                  refine Hb.one (i := 34) (by kernel_rfl) rfl rfl ?_
                  intro w12 BD; have S := S.call BD
                  have S0 := S
                  have SS0 := (SS.tran hN1 S)
                  refine call (vs := [_]) ⟨⟨_, _, rfl, rfl⟩, trivial⟩ k39 rfl (c39 _ _ _ (hv111.now S) (by rw [List.length_take, List.length_drop]; omega)) ?_
                  rintro d12 w13 hFd12
                  have S := S.call hFd12.1
                  have hd12 := hFd12.bs hv111.1 S0.lt
                  have hd12F := hFd12.bs hv111.1 SS0.ltR
                  obtain ⟨N3, hN3, S_3⟩ := S.reb
                  have hb := hb.st S; rw [hN3] at hb
                  have ho8 := ho8.st S; rw [hN3] at ho8
                  have ho8F := ho8F.reF S; rw [hN3] at ho8F
                  rw [hN3] at hd12
                  rw [hN3] at hd12F
                  have SS := SS.tran hN1 S
                  have SH := S
                  have S := S_3
                  have SC := (SH.tran hN3 S).pick [false, true, true, true] rfl
                  refine Hb.on SC ?_
                  refine Hb.take (i := 35) SC (fun _ _ S B => S.call B) Pp.body rfl (by kernel_rfl) (by kernel_rfl) (by kernel_rfl) rfl rfl ?_
                  refine qbld B28 (qs := [(_, _), (_, _), (_, _), (_, _), (_, _), (_, _), (_, _), (_, _), (_, _), (_, _), (_, _)]) ⟨⟨_, _, _, rfl, rfl, rfl, rfl, by first | (simp [Value.cells]; done) | simp [Value.cells, encIP]⟩, ⟨_, _, _, rfl, rfl, rfl, rfl, by first | (simp [Value.cells]; done) | simp [Value.cells, encIP]⟩, ⟨_, _, _, rfl, rfl, rfl, rfl, by first | (simp [Value.cells]; done) | simp [Value.cells, encIP]⟩, ⟨_, _, _, rfl, rfl, rfl, rfl, by first | (simp [Value.cells]; done) | simp [Value.cells, encIP]⟩, ⟨_, _, _, rfl, rfl, rfl, rfl, by first | (simp [Value.cells]; done) | simp [Value.cells, encIP]⟩, ⟨_, _, _, rfl, rfl, rfl, rfl, by first | (simp [Value.cells]; done) | simp [Value.cells, encIP]⟩, ⟨_, _, _, rfl, rfl, rfl, rfl, by first | (simp [Value.cells]; done) | simp [Value.cells, encIP]⟩, ⟨_, _, _, rfl, rfl, rfl, rfl, by first | (simp [Value.cells]; done) | simp [Value.cells, encIP]⟩, ⟨_, _, _, rfl, rfl, rfl, rfl, by first | (simp [Value.cells]; done) | simp [Value.cells, encIP]⟩, ⟨_, _, _, rfl, rfl, cells1 ho8.one, rfl, List.cons_ne_nil _ _⟩, ⟨_, _, _, rfl, rfl, cells1 hd12.one, rfl, List.cons_ne_nil _ _⟩, trivial⟩ rfl rfl rfl ?_
                  refine Hb.back ?_
                  refine Hb.one (i := 37) (by kernel_rfl) rfl rfl ?_
                  intro w14 BD; have S := S.call BD
                  refine stW rfl rfl T28 rfl rfl (one_cons rfl (one_cons rfl (one_cons rfl (one_cons rfl (one_cons rfl (one_cons rfl (one_cons rfl (one_cons rfl (one_cons rfl (one_cons rfl (one_cons rfl (one_cons rfl (one_cons rfl (one_cons rfl (one_cons rfl (one_cons rfl (one_cons rfl (one_cons rfl (one_cons rfl (one_cons rfl (one_cons rfl (one_cons rfl (one_cons rfl (one_cons rfl (one_cons rfl (one_cons rfl (one_cons rfl (one_cons rfl (one_cons rfl (one_cons rfl (one_cons rfl (one_cons rfl (one_cons rfl (one_cons rfl (one_cons rfl (one_cons rfl (one_cons rfl (one_cons rfl (one_cons rfl (one_cons rfl (one_cons rfl (one_cons ho8.one (one_cons hd12.one one_nil))))))))))))))))))))))))))))))))))))))))))) S (i := 0) rfl rfl ?_
                  intro w15 S
                  have SC := (SH.tran hN3 S).pick [false, true, true, true] rfl
                  refine Hb.on SC ?_
                  refine Hb.done (by kernel_rfl) ?_
                  intro w16 BD; have S := S.call BD
                  refine Nrm.code ?_
                  refine Run.seq ?_
                  refine Run.seq ?_
                  refine Run.region ?_
                  have hln : ((((b.drop (hdN b)).take (totN b - hdN b)).length : Nat) : Int) = (totN b : Int) - hdN b := by rw [List.length_take, List.length_drop]; omega
                  refine fld (o' := 3) rfl fo28_3 rfl rfl rfl rfl ?_
                  refine ld1 rfl T4 S (i := 0) rfl rfl rfl rfl rfl ?_
                  refine fld (o' := 4) rfl fo28_4 rfl rfl rfl rfl ?_
                  refine ld1 rfl T3 S (i := 0) rfl rfl rfl rfl rfl ?_
                  refine fld (o' := 42) rfl fo28_10 rfl rfl rfl rfl ?_
                  refine ld1 rfl T26 S (i := 0) rfl rfl rfl rfl rfl ?_
                  refine lenS rfl hd12.2 Tryd.underlying26 rfl rfl rfl ?_
                  refine calg (vs := [_, _, _]) rfl ⟨⟨_, _, rfl, rfl⟩, ⟨_, _, rfl, rfl⟩, ⟨_, _, rfl, rfl⟩, trivial⟩ k114 rfl (fun hG => c114 _ _ _ _ (by omega)) ?_
                  intro w17 B_; have S := S.call B_
                  refine Ro.nil ?_
                  refine Nrm.code ?_
                  refine Run.cond rfl (fun hc22 => ?_) (fun hc22 => ?_)
                  ·
                    try simp only [Bool.or_eq_true, Bool.and_eq_true, Bool.or_eq_false_iff, Bool.and_eq_false_iff, decide_eq_true_eq, decide_eq_false_iff_not, Bool.not_eq_true', Bool.not_eq_false', Bool.not_eq_true, Bool.not_eq_false] at hc22
                    refine Run.seq ?_
                    refine Run.region ?_
                    refine ldW rfl T28 S (i := 2) rfl rfl rfl rfl rfl ?_
                    refine stW rfl rfl T28 rfl rfl (by simp [Value.oneCell']) S (i := 3) rfl rfl ?_
                    intro w18 S
                    refine asg1 rfl rfl ?_
                    refine Ro.nil ?_
                    refine Nrm.code ?_
                    refine Run.ret ?_
                    refine Rt.cell2 rfl rfl rfl T28 S (i := 3) rfl rfl ?_
                    have hfr := fragE_or (decide (b.getD 6 0 / 32 % 2 = 1)) (8 * offW b) ((totN b : Int) - hdN b)
                    rw [hln] at hc22
                    have he : parE b = 66 := by
                      unfold parE
                      rw [if_neg (by omega), if_neg (by omega), if_neg (by omega), if_neg (by omega), if_neg (by omega), if_neg (by omega), if_neg (by omega)]
                      omega
                    exact ⟨.slice none 0 0, .slice none 0 0, by rw [parH_err he (by omega), he]; rfl, (SS.tran hN3 S).bl, fun _ _ => by rw [parH_err he (by omega)]; exact ⟨OS.nil _ _, BS.nil _ _⟩⟩
                  ·
                    try simp only [Bool.or_eq_true, Bool.and_eq_true, Bool.or_eq_false_iff, Bool.and_eq_false_iff, decide_eq_true_eq, decide_eq_false_iff_not, Bool.not_eq_true', Bool.not_eq_false', Bool.not_eq_true, Bool.not_eq_false] at hc22
                    refine Run.skip ?_
                    refine Nrm.code ?_
                    refine Run.seq ?_
                    refine Run.region ?_
                    refine ldW rfl T28 S (i := 0) rfl rfl rfl rfl rfl ?_
                    refine stW rfl rfl T28 rfl rfl (one_cons rfl (one_cons rfl (one_cons rfl (one_cons rfl (one_cons rfl (one_cons rfl (one_cons rfl (one_cons rfl (one_cons rfl (one_cons rfl (one_cons rfl (one_cons rfl (one_cons rfl (one_cons rfl (one_cons rfl (one_cons rfl (one_cons rfl (one_cons rfl (one_cons rfl (one_cons rfl (one_cons rfl (one_cons rfl (one_cons rfl (one_cons rfl (one_cons rfl (one_cons rfl (one_cons rfl (one_cons rfl (one_cons rfl (one_cons rfl (one_cons rfl (one_cons rfl (one_cons rfl (one_cons rfl (one_cons rfl (one_cons rfl (one_cons rfl (one_cons rfl (one_cons rfl (one_cons rfl (one_cons rfl (one_cons ho8.one (one_cons hd12.one one_nil))))))))))))))))))))))))))))))))))))))))))) S (i := 3) rfl rfl ?_
                    intro w18 S
                    refine asg1 rfl rfl ?_
                    refine Ro.nil ?_
                    refine Nrm.code ?_
                    refine Run.ret ?_
                    refine Rt.cell2 rfl rfl rfl T28 S (i := 3) rfl rfl ?_
                    rw [hln] at hc22
                    have he : parE b = 0 := by
                      unfold parE
                      rw [if_neg (by omega), if_neg (by omega), if_neg (by omega), if_neg (by omega), if_neg (by omega), if_neg (by omega), if_neg (by omega)]
                      omega
                    exact ⟨o8, d12, by rw [parH, if_pos he, he, hq80, hq97, hq101]; rfl, (SS.tran hN3 S).bl, fun N hN => by rw [parH, if_pos he]; exact ⟨ho8F.fin S hN, hd12F.fin S hN⟩⟩

end Go.Proofs.YtkahmepenjhcpaaDoor.W

/- Contracts: the reference writes. No statement of the seat is proved here. -/
namespace Go.Proofs.YtkahmepenjhcpaaDoor.W
open Go
set_option linter.unusedSimpArgs false
set_option linter.unusedVariables false


theorem getN_src (h : Ip4) (o d : Value) : ∀ i, i < 16 → getN (encIp4 h o d) (8 + i) = some (u8 (h.src.a i))
  | 0, _ => rfl | 1, _ => rfl | 2, _ => rfl | 3, _ => rfl | 4, _ => rfl | 5, _ => rfl | 6, _ => rfl | 7, _ => rfl
  | 8, _ => rfl | 9, _ => rfl | 10, _ => rfl | 11, _ => rfl | 12, _ => rfl | 13, _ => rfl | 14, _ => rfl | 15, _ => rfl
  | n + 16, h => by omega
theorem getN_dst (h : Ip4) (o d : Value) : ∀ i, i < 16 → getN (encIp4 h o d) (25 + i) = some (u8 (h.dst.a i))
  | 0, _ => rfl | 1, _ => rfl | 2, _ => rfl | 3, _ => rfl | 4, _ => rfl | 5, _ => rfl | 6, _ => rfl | 7, _ => rfl
  | 8, _ => rfl | 9, _ => rfl | 10, _ => rfl | 11, _ => rfl | 12, _ => rfl | 13, _ => rfl | 14, _ => rfl | 15, _ => rfl
  | n + 16, h => by omega
theorem four4_take (x : IP) : ∀ i, i < 4 → (four4 x).take i ++ [x.a i] = (four4 x).take (i + 1)
  | 0, _ => rfl | 1, _ => rfl | 2, _ => rfl | 3, _ => rfl
  | n + 4, h => by omega
theorem sum_skip {a b : List Int} (ha : a.length % 2 = 0) : sumS (a ++ [0, 0] ++ b) = sumS (a ++ b) := by
  unfold sumS
  rw [wsum_app, wsum_app, wsum_app]
  have e : par true (a ++ [0, 0]).length = true := by unfold par; simp; omega
  have e2 : par true a.length = true := by unfold par; rw [if_pos ha]
  rw [e, e2]
  simp [wsum]
def refHD (h : Ip4) (g : Int) : List Int := [64 + (20 + ((putL h.opts).length : Int)) / 4, h.tos] ++ [(20 + ((putL h.opts).length : Int) + (h.data.length : Int)) / 256, (20 + ((putL h.opts).length : Int) + (h.data.length : Int)) % 256] ++ [h.id / 256, h.id % 256] ++ [g / 256, g % 256] ++ [h.ttl, h.proto]
theorem refHD_top {h : Ip4} {g : Int} (hc : chkE h = 0) (hg : g = h.off / 8 + (if h.df = true then 16384 else 0) + (if h.mf = true then 8192 else 0)) : refHD h g ++ [0, 0] = top10 h := by
  have hb := badF_off (chkE_zero hc).1
  have h1 : g / 256 = bI h.df * 64 + bI h.mf * 32 + h.off / 8 / 256 := by subst hg; unfold bI; (repeat' split) <;> omega
  have h2 : g % 256 = h.off / 8 % 256 := by subst hg; (repeat' split) <;> omega
  simp only [refHD, top10, hdr12, h1, h2, List.cons_append, List.nil_append]
  rfl
theorem refHD_byt {h : Ip4} {g : Int} (hc : chkE h = 0) (hg : g = h.off / 8 + (if h.df = true then 16384 else 0) + (if h.mf = true then 8192 else 0)) : byt (refHD h g) := by
  have h1 := top10_byt hc
  rw [← refHD_top hc hg] at h1
  exact fun x hx => h1 x (List.mem_append_left _ hx)
theorem ser_ref {h : Ip4} {g : Int} (hc : chkE h = 0) (hg : g = h.off / 8 + (if h.df = true then 16384 else 0) + (if h.mf = true then 8192 else 0)) :
    refHD h g ++ [(65535 - sumS (refHD h g ++ (four4 h.src ++ four4 h.dst ++ putL h.opts))) / 256, (65535 - sumS (refHD h g ++ (four4 h.src ++ four4 h.dst ++ putL h.opts))) % 256] ++ (four4 h.src ++ four4 h.dst ++ putL h.opts) ++ h.data = serL h := by
  have e1 := refHD_top hc hg
  have e2 : sumS (refHD h g ++ (four4 h.src ++ four4 h.dst ++ putL h.opts)) = sumS (headB h) := by
    rw [← sum_skip (by simp [refHD]), e1]
    simp [headB, List.append_assoc]
  rw [e2]
  unfold serL serB headB
  rw [if_pos hc, ← e1]
  simp [sumC, headB, ← e1, refHD, List.append_assoc]

set_option maxHeartbeats 1000000 in
theorem c115 (h : Ip4) (o d : Value) (w : World) (hO : OS [] w o h.opts) (hd : BS [] w d h.data) (hol : h.opts.length ≤ 1099511627776) (hdl : h.data.length ≤ 1099511627776) (hs : h.src.ok) (ht : h.dst.ok) :
    CallsV Tryd.prog 115 #[.agg (encIp4 h o d).toArray] w (fun r w' => ∃ u, r = .tuple #[u, .int .i64 (chkE h)] ∧ FB w w' u (serL h)) := by
  refine enter Tryd.func115 rfl Tryd.ntmps115 (l := [(0, [], _)]) rfl rfl ?_
  have S := St.refl [] w
  have hpl := putL_len h.opts
  have hodt := hO.byt
  refine Run.seq ?_
  refine Run.region ?_
  refine boxA rfl S rfl ?_
  intro b1 w1 hb1 S B_
  refine asg1 rfl rfl ?_
  refine asg1 rfl rfl ?_
  refine Ro.nil ?_
  refine Nrm.code ?_
  refine Run.seq ?_
  refine Run.region ?_
  refine ldW rfl T28 S (i := 0) rfl rfl rfl rfl rfl ?_
  refine calg (vs := [_]) rfl ⟨⟨_, _, rfl, rfl⟩, trivial⟩ k147 rfl (fun hG => c147 _ _ _ _ (hO.now S) (hd.now S) hol hdl) ?_
  intro w2 B_; have S := S.call B_
  refine asg1 rfl rfl ?_
  refine Ro.nil ?_
  refine Nrm.code ?_
  refine Run.seq ?_
  refine Run.seq ?_
  refine Run.region ?_
  refine mv1 rfl rfl ?_
  refine neq1 rfl rfl rfl ?_
  refine Ro.nil ?_
  refine Nrm.code ?_
  refine Run.cond rfl (fun hc2 => ?_) (fun hc2 => ?_)
  ·
    try simp only [Bool.or_eq_true, Bool.and_eq_true, Bool.or_eq_false_iff, Bool.and_eq_false_iff, decide_eq_true_eq, decide_eq_false_iff_not, Bool.not_eq_true', Bool.not_eq_false', Bool.not_eq_true, Bool.not_eq_false] at hc2
    refine Run.seq ?_
    refine Run.region ?_
    refine mv1 rfl rfl ?_
    refine asg1 rfl rfl ?_
    refine asg1 rfl rfl ?_
    refine Ro.nil ?_
    refine Nrm.code ?_
    refine Run.ret ?_
    refine Rt.two rfl rfl rfl ?_
    exact ⟨.slice none 0 0, rfl, by rw [show serL h = [] from by unfold serL; rw [if_neg hc2]]; exact (S.nilB).toFB (i := 0) rfl⟩
  ·
    try simp only [Bool.or_eq_true, Bool.and_eq_true, Bool.or_eq_false_iff, Bool.and_eq_false_iff, decide_eq_true_eq, decide_eq_false_iff_not, Bool.not_eq_true', Bool.not_eq_false', Bool.not_eq_true, Bool.not_eq_false] at hc2
    refine Run.skip ?_
    refine Nrm.code ?_
    refine Run.seq ?_
    refine Run.region ?_
    refine fld (o' := 41) rfl fo28_9 rfl rfl rfl rfl ?_
    refine ld1 rfl T25 S (i := 0) rfl rfl rfl rfl rfl ?_
    replace hc2 : chkE h = 0 := by omega
    have hz := chkE_zero hc2
    have hbo := badF_off hz.1
    refine call (vs := [_]) ⟨⟨_, _, rfl, rfl⟩, trivial⟩ k136 rfl (c136 _ _ _ (hO.now S) (by omega)) ?_
    rintro _ w3 ⟨u5, rfl, hF⟩
    have S := S.fb hF
    refine mv1 rfl rfl ?_
    refine extr1 rfl rfl rfl ?_
    refine extr1 rfl rfl rfl ?_
    refine asg1 rfl rfl ?_
    refine asg1 rfl rfl ?_
    refine Ro.nil ?_
    refine Nrm.code ?_
    refine Run.seq ?_
    refine Run.region ?_
    refine mv1 rfl rfl ?_
    refine lenS rfl (S.slI (i := 0) rfl) Tryd.underlying26 rfl rfl rfl ?_
    refine add1 rfl rfl rfl (w64 (by omega)) ?_
    refine asg1 rfl rfl ?_
    refine Ro.nil ?_
    refine Nrm.code ?_
    refine Run.seq ?_
    refine Run.region ?_
    refine fld (o' := 4) rfl fo28_4 rfl rfl rfl rfl ?_
    refine ld1 rfl T3 S (i := 1) rfl rfl rfl rfl rfl ?_
    refine quo1 rfl rfl rfl (by decide) (q64 (by omega)) ?_
    refine asg1 rfl rfl ?_
    refine Ro.nil ?_
    refine Nrm.code ?_
    refine Run.cut (γ := Int) (fun g w_ => g = h.off / 8 + (if h.df = true then 16384 else 0) ∧ St [] w [oB u5 (putL h.opts), .var b1 28 (encIp4 h o d)] w_) (fun g => [(1, [], .pointer (some ⟨b1, 0, none⟩)), (5, [], u5), (7, [], .int .i64 (20 + ((putL h.opts).length : Int))), (8, [], .int .i64 g)]) ?_ ?_
    ·
      refine Run.seq ?_
      refine Run.region ?_
      refine fld (o' := 2) rfl fo28_2 rfl rfl rfl rfl ?_
      refine ld1 rfl T4 S (i := 1) rfl rfl rfl rfl rfl ?_
      refine Ro.nil ?_
      refine Nrm.code ?_
      refine Run.cond rfl (fun hc7 => ?_) (fun hc7 => ?_)
      ·
        try simp only [Bool.or_eq_true, Bool.and_eq_true, Bool.or_eq_false_iff, Bool.and_eq_false_iff, decide_eq_true_eq, decide_eq_false_iff_not, Bool.not_eq_true', Bool.not_eq_false', Bool.not_eq_true, Bool.not_eq_false] at hc7
        refine Run.region ?_
        refine mv1 rfl rfl ?_
        refine add1 rfl rfl rfl (w64 (by omega)) ?_
        refine asg1 rfl rfl ?_
        refine Ro.nil ?_
        exact Nrm.cut _ ⟨by simp [hc7], S⟩ ⟨rfl, rfl, rfl, rfl, trivial⟩
      ·
        try simp only [Bool.or_eq_true, Bool.and_eq_true, Bool.or_eq_false_iff, Bool.and_eq_false_iff, decide_eq_true_eq, decide_eq_false_iff_not, Bool.not_eq_true', Bool.not_eq_false', Bool.not_eq_true, Bool.not_eq_false] at hc7
        refine Run.skip ?_
        exact Nrm.cut _ ⟨by simp [hc7], S⟩ ⟨rfl, rfl, rfl, rfl, trivial⟩
    ·
      rintro g9 w4 ⟨hg9, S⟩
      refine Run.cut (γ := Int) (fun g w_ => g = h.off / 8 + (if h.df = true then 16384 else 0) + (if h.mf = true then 8192 else 0) ∧ St [] w [oB u5 (putL h.opts), .var b1 28 (encIp4 h o d)] w_) (fun g => [(1, [], .pointer (some ⟨b1, 0, none⟩)), (5, [], u5), (7, [], .int .i64 (20 + ((putL h.opts).length : Int))), (8, [], .int .i64 g)]) ?_ ?_
      ·
        refine Run.seq ?_
        refine Run.region ?_
        refine fld (o' := 3) rfl fo28_3 rfl rfl rfl rfl ?_
        refine ld1 rfl T4 S (i := 1) rfl rfl rfl rfl rfl ?_
        refine Ro.nil ?_
        refine Nrm.code ?_
        refine Run.cond rfl (fun hc9 => ?_) (fun hc9 => ?_)
        ·
          try simp only [Bool.or_eq_true, Bool.and_eq_true, Bool.or_eq_false_iff, Bool.and_eq_false_iff, decide_eq_true_eq, decide_eq_false_iff_not, Bool.not_eq_true', Bool.not_eq_false', Bool.not_eq_true, Bool.not_eq_false] at hc9
          refine Run.region ?_
          refine mv1 rfl rfl ?_
          refine add1 rfl rfl rfl (w64 (by omega)) ?_
          refine asg1 rfl rfl ?_
          refine Ro.nil ?_
          exact Nrm.cut _ ⟨by simp [hc9, hg9], S⟩ ⟨rfl, rfl, rfl, rfl, trivial⟩
        ·
          try simp only [Bool.or_eq_true, Bool.and_eq_true, Bool.or_eq_false_iff, Bool.and_eq_false_iff, decide_eq_true_eq, decide_eq_false_iff_not, Bool.not_eq_true', Bool.not_eq_false', Bool.not_eq_true, Bool.not_eq_false] at hc9
          refine Run.skip ?_
          exact Nrm.cut _ ⟨by simp [hc9, hg9], S⟩ ⟨rfl, rfl, rfl, rfl, trivial⟩
      ·
        rintro g11 w5 ⟨hg11, S⟩
        refine Run.seq ?_
        refine Run.region ?_
        refine mv1 rfl rfl ?_
        refine quo1 rfl rfl rfl (by decide) (q64 (by omega)) ?_
        refine add1 rfl rfl rfl (w64 (by omega)) ?_
        refine cvi1 rfl rfl Tryd.underlying3 Tryd.underlying5 (w8of rfl (by omega)) ?_
        refine fld (o' := 0) rfl fo28_0 rfl rfl rfl rfl ?_
        refine ld1 rfl T3 S (i := 1) rfl rfl rfl rfl rfl ?_
        refine cvi1 rfl rfl Tryd.underlying3 Tryd.underlying5 (w8of rfl (by omega)) ?_
        refine bsl e26 (qs := [(_, _), (_, _)]) ⟨⟨_, _, _, rfl, rfl, rfl, rfl, by first | (simp [Value.cells]; done) | simp [Value.cells, encIP]⟩, ⟨_, _, _, rfl, rfl, rfl, rfl, by first | (simp [Value.cells]; done) | simp [Value.cells, encIP]⟩, trivial⟩ rfl rfl rfl rfl S ?_
        intro u46 w6 S B_
        have S : St [] w (oB u46 [64 + (20 + ((putL h.opts).length : Int)) / 4, h.tos] :: _) w6 := S
        refine asg1 rfl rfl ?_
        refine Ro.nil ?_
        refine Nrm.code ?_
        refine Run.seq ?_
        refine Run.region ?_
        refine mv1 rfl rfl ?_
        refine mv1 rfl rfl ?_
        refine fld (o' := 42) rfl fo28_10 rfl rfl rfl rfl ?_
        refine ld1 rfl T26 S (i := 2) rfl rfl rfl rfl rfl ?_
        refine lenS rfl hd.2 Tryd.underlying26 rfl rfl rfl ?_
        refine add1 rfl rfl rfl (w64 (by omega)) ?_
        refine call (vs := [_, _]) ⟨⟨_, _, rfl, rfl⟩, ⟨_, _, rfl, rfl⟩, trivial⟩ k151 rfl (c151 _ _ _ _ (S.hold_at (i := 0) rfl) (by omega) (by first | omega | (simp only [List.length_append, List.length_cons, List.length_nil]; omega))) ?_
        rintro a12 w7 hT
        have S := S.tn (i := 0) rfl rfl hT
        refine asg1 rfl rfl ?_
        refine Ro.nil ?_
        refine Nrm.code ?_
        refine Run.seq ?_
        refine Run.region ?_
        refine mv1 rfl rfl ?_
        refine fld (o' := 1) rfl fo28_1 rfl rfl rfl rfl ?_
        refine ld1 rfl T3 S (i := 2) rfl rfl rfl rfl rfl ?_
        refine call (vs := [_, _]) ⟨⟨_, _, rfl, rfl⟩, ⟨_, _, rfl, rfl⟩, trivial⟩ k151 rfl (c151 _ _ _ _ (S.hold_at (i := 0) rfl) (by omega) (by first | omega | (simp only [List.length_append, List.length_cons, List.length_nil]; omega))) ?_
        rintro a13 w8 hT
        have S := S.tn (i := 0) rfl rfl hT
        refine asg1 rfl rfl ?_
        refine Ro.nil ?_
        refine Nrm.code ?_
        refine Run.seq ?_
        refine Run.region ?_
        refine mv1 rfl rfl ?_
        refine mv1 rfl rfl ?_
        refine call (vs := [_, _]) ⟨⟨_, _, rfl, rfl⟩, ⟨_, _, rfl, rfl⟩, trivial⟩ k151 rfl (c151 _ _ _ _ (S.hold_at (i := 0) rfl) (by (repeat' split at hg11) <;> omega) (by first | omega | (simp only [List.length_append, List.length_cons, List.length_nil]; omega))) ?_
        rintro a14 w9 hT
        have S := S.tn (i := 0) rfl rfl hT
        refine asg1 rfl rfl ?_
        refine Ro.nil ?_
        refine Nrm.code ?_
        refine Run.seq ?_
        refine Run.region ?_
        refine mv1 rfl rfl ?_
        refine fld (o' := 5) rfl fo28_5 rfl rfl rfl rfl ?_
        refine ld1 rfl T3 S (i := 2) rfl rfl rfl rfl rfl ?_
        refine cvi1 rfl rfl Tryd.underlying3 Tryd.underlying5 (w8of rfl (by omega)) ?_
        refine fld (o' := 6) rfl fo28_6 rfl rfl rfl rfl ?_
        refine ld1 rfl T3 S (i := 2) rfl rfl rfl rfl rfl ?_
        refine cvi1 rfl rfl Tryd.underlying3 Tryd.underlying5 (w8of rfl (by omega)) ?_
        refine apBF (b := [_, _]) rfl e26 (qs := [(_, _), (_, _)]) ⟨⟨_, _, _, rfl, rfl, rfl, rfl, by first | (simp [Value.cells]; done) | simp [Value.cells, encIP]⟩, ⟨_, _, _, rfl, rfl, rfl, rfl, by first | (simp [Value.cells]; done) | simp [Value.cells, encIP]⟩, trivial⟩ (by decide) rfl rfl S (i := 0) rfl rfl rfl (fun t e => by cases e; rfl) (fun _ => rfl) (by first | omega | (simp only [List.length_nil, List.length_append, List.length_cons]; omega)) ?_
        intro u_ a15 w10 S B_
        obtain ⟨HD, hHD, S⟩ : ∃ HD, HD = refHD h g11 ∧ St [] w (oB a15 HD :: [oB u5 (putL h.opts), .var b1 28 (encIp4 h o d)]) w10 := ⟨_, rfl, S⟩
        have hHl : HD.length = 10 := by rw [hHD]; rfl
        have hHb : byt HD := by rw [hHD]; exact refHD_byt hc2 hg11
        refine asg1 rfl rfl ?_
        refine Ro.nil ?_
        refine Nrm.code ?_
        refine Run.seq ?_
        refine Run.region ?_
        refine asg1 rfl rfl ?_
        have S := S.nilB
        refine Ro.nil ?_
        refine Nrm.code ?_
        refine Run.seq ?_
        refine Run.seq ?_
        refine Run.region ?_
        refine asg1 rfl rfl ?_
        refine Ro.nil ?_
        refine Nrm.code ?_
        refine Run.block ?_
        refine Run.loop2 (fun (i : Nat) (u : Value) w_ => i ≤ 4 ∧ St [] w [oB u ((four4 h.src).take i), oB a15 HD, oB u5 (putL h.opts), .var b1 28 (encIp4 h o d)] w_) (fun (i : Nat) (u : Value) => [(1, [], .pointer (some ⟨b1, 0, none⟩)), (5, [], u5), (9, [], a15), (10, [], u), (11, [], .int .i64 i)]) (fun (i : Nat) (u : Value) => 4 - i) (0) (_) ⟨Nat.zero_le _, by simpa using S⟩ ⟨rfl, rfl, rfl, rfl, rfl, trivial⟩ ?_
        rintro i u w11 ⟨hi, S⟩
        refine Run.seq ?_
        refine Run.seq ?_
        refine Run.region ?_
        refine mv1 rfl rfl ?_
        refine lss1 rfl rfl rfl ?_
        refine Ro.nil ?_
        refine Nrm.code ?_
        refine Run.cond rfl (fun hc18 => ?_) (fun hc18 => ?_)
        ·
          try simp only [Bool.or_eq_true, Bool.and_eq_true, Bool.or_eq_false_iff, Bool.and_eq_false_iff, decide_eq_true_eq, decide_eq_false_iff_not, Bool.not_eq_true', Bool.not_eq_false', Bool.not_eq_true, Bool.not_eq_false] at hc18
          refine Run.skip ?_
          refine Nrm.code ?_
          refine Run.seq ?_
          refine Run.block ?_
          refine Run.region ?_
          refine mv1 rfl rfl ?_
          refine mv1 rfl rfl ?_
          refine fld (o' := 7) rfl fo28_7 rfl rfl rfl rfl ?_
          refine fld (o' := 8) rfl fo24_1 rfl rfl rfl rfl ?_
          refine ixP rfl rfl Tryd.underlying22 T5 rfl rfl rfl rfl (fun _ => by omega) rfl ?_
          refine ld1 rfl T5 S (i := 3) rfl (v := u8 (h.src.a i)) (by rw [show 8 + (i : Int).toNat * 1 = 8 + i from by omega]; exact getN_src h o d i (by omega)) rfl rfl rfl ?_
          refine apBF (b := [_]) rfl e26 (qs := [(_, _)]) ⟨⟨_, _, _, rfl, rfl, rfl, rfl, by first | (simp [Value.cells]; done) | simp [Value.cells, encIP]⟩, trivial⟩ (by decide) rfl rfl S (i := 0) rfl rfl rfl (fun t e => by cases e; rfl) (fun _ => rfl) (by simp [four4]; omega) ?_
          intro u_ v81 w12 S B_
          refine asg1 rfl rfl ?_
          refine Ro.nil ?_
          refine Nrm.blk ?_
          refine Nrm.code ?_
          refine Run.region ?_
          refine mv1 rfl rfl ?_
          refine add1 rfl rfl rfl (w64 (by omega)) ?_
          refine asg1 rfl rfl ?_
          refine Ro.nil ?_
          refine Nrm.loop2 (i + 1) (_) ⟨by omega, by have S2 := S; rw [four4_take h.src i (by omega)] at S2; exact S2⟩ (by omega) ⟨rfl, rfl, rfl, rfl, rfl, trivial⟩
        ·
          try simp only [Bool.or_eq_true, Bool.and_eq_true, Bool.or_eq_false_iff, Bool.and_eq_false_iff, decide_eq_true_eq, decide_eq_false_iff_not, Bool.not_eq_true', Bool.not_eq_false', Bool.not_eq_true, Bool.not_eq_false] at hc18
          refine Run.exit ?_
          refine Lv.code ?_
          refine Lv.back ?_
          refine Lv.hit ?_
          refine Nrm.code ?_
          refine Run.seq ?_
          refine Run.seq ?_
          refine Run.region ?_
          refine asg1 rfl rfl ?_
          refine Ro.nil ?_
          refine Nrm.code ?_
          refine Run.block ?_
          have hi4 : i = 4 := by omega
          subst hi4
          rw [show (four4 h.src).take 4 = four4 h.src from rfl] at S
          refine Run.loop2 (fun (i : Nat) (u : Value) w_ => i ≤ 4 ∧ St [] w [oB u (four4 h.src ++ (four4 h.dst).take i), oB a15 HD, oB u5 (putL h.opts), .var b1 28 (encIp4 h o d)] w_) (fun (i : Nat) (u : Value) => [(1, [], .pointer (some ⟨b1, 0, none⟩)), (5, [], u5), (9, [], a15), (10, [], u), (12, [], .int .i64 i)]) (fun (i : Nat) (u : Value) => 4 - i) (0) (_) ⟨Nat.zero_le _, by simpa using S⟩ ⟨rfl, rfl, rfl, rfl, rfl, trivial⟩ ?_
          rintro i u w12 ⟨hi, S⟩
          refine Run.seq ?_
          refine Run.seq ?_
          refine Run.region ?_
          refine mv1 rfl rfl ?_
          refine lss1 rfl rfl rfl ?_
          refine Ro.nil ?_
          refine Nrm.code ?_
          refine Run.cond rfl (fun hc22 => ?_) (fun hc22 => ?_)
          ·
            try simp only [Bool.or_eq_true, Bool.and_eq_true, Bool.or_eq_false_iff, Bool.and_eq_false_iff, decide_eq_true_eq, decide_eq_false_iff_not, Bool.not_eq_true', Bool.not_eq_false', Bool.not_eq_true, Bool.not_eq_false] at hc22
            refine Run.skip ?_
            refine Nrm.code ?_
            refine Run.seq ?_
            refine Run.block ?_
            refine Run.region ?_
            refine mv1 rfl rfl ?_
            refine mv1 rfl rfl ?_
            refine fld (o' := 24) rfl fo28_8 rfl rfl rfl rfl ?_
            refine fld (o' := 25) rfl fo24_1 rfl rfl rfl rfl ?_
            refine ixP rfl rfl Tryd.underlying22 T5 rfl rfl rfl rfl (fun _ => by omega) rfl ?_
            refine ld1 rfl T5 S (i := 3) rfl (v := u8 (h.dst.a i)) (by rw [show 25 + (i : Int).toNat * 1 = 25 + i from by omega]; exact getN_dst h o d i (by omega)) rfl rfl rfl ?_
            refine apBF (b := [_]) rfl e26 (qs := [(_, _)]) ⟨⟨_, _, _, rfl, rfl, rfl, rfl, by first | (simp [Value.cells]; done) | simp [Value.cells, encIP]⟩, trivial⟩ (by decide) rfl rfl S (i := 0) rfl rfl rfl (fun t e => by cases e; rfl) (fun _ => rfl) (by simp [four4]; omega) ?_
            intro u_ v93 w13 S B_
            refine asg1 rfl rfl ?_
            refine Ro.nil ?_
            refine Nrm.blk ?_
            refine Nrm.code ?_
            refine Run.region ?_
            refine mv1 rfl rfl ?_
            refine add1 rfl rfl rfl (w64 (by omega)) ?_
            refine asg1 rfl rfl ?_
            refine Ro.nil ?_
            refine Nrm.loop2 (i + 1) (_) ⟨by omega, by have S2 := S; rw [List.append_assoc, four4_take h.dst i (by omega)] at S2; exact S2⟩ (by omega) ⟨rfl, rfl, rfl, rfl, rfl, trivial⟩
          ·
            try simp only [Bool.or_eq_true, Bool.and_eq_true, Bool.or_eq_false_iff, Bool.and_eq_false_iff, decide_eq_true_eq, decide_eq_false_iff_not, Bool.not_eq_true', Bool.not_eq_false', Bool.not_eq_true, Bool.not_eq_false] at hc22
            refine Run.exit ?_
            refine Lv.code ?_
            refine Lv.back ?_
            refine Lv.hit ?_
            refine Nrm.code ?_
            refine Run.seq ?_
            refine Run.region ?_
            refine mv1 rfl rfl ?_
            refine mv1 rfl rfl ?_
            have hi4' : i = 4 := by omega
            subst hi4'
            have hTb : byt (four4 h.src ++ four4 h.dst ++ putL h.opts) := byt_app (byt_app (four4_byt hs) (four4_byt ht)) (putL_byt hodt)
            refine apB rfl rfl e26 (S.bsI (i := 2) rfl (putL_byt hodt)) S (i := 0) rfl rfl (fun _ => rfl) (by simp [four4]; omega) ?_
            intro t25 w13 S B_
            refine asg1 rfl rfl ?_
            refine Ro.nil ?_
            refine Nrm.code ?_
            refine Run.seq ?_
            refine Run.region ?_
            refine mv1 rfl rfl ?_
            refine mv1 rfl rfl ?_
            refine bsl e102 (qs := [(_, _), (_, _)]) ⟨⟨_, _, _, rfl, rfl, cells1 (S.slI (i := 1) rfl).one, rfl, List.cons_ne_nil _ _⟩, ⟨_, _, _, rfl, rfl, cells1 (S.slI (i := 0) rfl).one, rfl, List.cons_ne_nil _ _⟩, trivial⟩ rfl rfl rfl rfl S ?_
            intro u99 w14 S B_
            have hck : CallsD Tryd.prog 117 #[u99] w14 (.int .i64 (65535 - sumS (HD ++ (four4 h.src ++ four4 h.dst ++ putL h.opts)))) := by
              have := c117 u99 [HD, four4 h.src ++ four4 h.dst ++ putL h.opts] w14 ⟨[_, _], S.slI (i := 0) rfl, S.bsI (i := 2) rfl hHb, S.bsI (i := 1) rfl hTb, trivial⟩ (by simp [four4]; omega) (by simp)
              rw [show [HD, four4 h.src ++ four4 h.dst ++ putL h.opts].flatten = HD ++ (four4 h.src ++ four4 h.dst ++ putL h.opts) from by simp] at this
              exact this
            refine calg (vs := [_]) rfl ⟨⟨_, _, rfl, rfl⟩, trivial⟩ k117 rfl (fun hG => hck) ?_
            intro w15 B_; have S := S.call B_
            refine asg1 rfl rfl ?_
            refine Ro.nil ?_
            refine Nrm.code ?_
            refine Run.seq ?_
            refine Run.region ?_
            refine mv1 rfl rfl ?_
            refine mv1 rfl rfl ?_
            refine call (vs := [_, _]) ⟨⟨_, _, rfl, rfl⟩, ⟨_, _, rfl, rfl⟩, trivial⟩ k151 rfl (c151 _ _ _ _ (S.hold_at (i := 2) rfl) (by have hwS := wsum_bd (HD ++ (four4 h.src ++ four4 h.dst ++ putL h.opts)) true (byt_app hHb hTb); have hfS := foldS_bd hwS.1; unfold sumS; omega) (by first | omega | (simp only [List.length_append, List.length_cons, List.length_nil]; omega))) ?_
            rintro a27 w16 hT
            have S := S.tn (i := 2) rfl rfl hT
            refine asg1 rfl rfl ?_
            refine Ro.nil ?_
            refine Nrm.code ?_
            refine Run.seq ?_
            refine Run.region ?_
            refine mv1 rfl rfl ?_
            refine mv1 rfl rfl ?_
            refine apB rfl rfl e26 (S.bsI (i := 1) rfl hTb) S (i := 2) rfl rfl (fun _ => rfl) (by simp [four4]; omega) ?_
            intro a28 w17 S B_
            refine asg1 rfl rfl ?_
            refine Ro.nil ?_
            refine Nrm.code ?_
            refine Run.seq ?_
            refine Run.region ?_
            refine mv1 rfl rfl ?_
            refine fld (o' := 42) rfl fo28_10 rfl rfl rfl rfl ?_
            refine ld1 rfl T26 S (i := 4) rfl rfl rfl rfl rfl ?_
            refine apB rfl rfl e26 (hd.now S) S (i := 2) rfl rfl (fun _ => rfl) (by simp [four4]; omega) ?_
            intro a29 w18 S B_
            refine asg1 rfl rfl ?_
            refine asg1 rfl rfl ?_
            refine Ro.nil ?_
            refine Nrm.code ?_
            refine Run.ret ?_
            refine Rt.two rfl rfl rfl ?_
            have hfin := ser_ref hc2 hg11
            rw [← hHD] at hfin
            rw [show (four4 h.dst).take 4 = four4 h.dst from rfl] at S
            exact ⟨_, by rw [hc2], by rw [← hfin]; exact S.toFB (i := 2) rfl⟩

end Go.Proofs.YtkahmepenjhcpaaDoor.W

