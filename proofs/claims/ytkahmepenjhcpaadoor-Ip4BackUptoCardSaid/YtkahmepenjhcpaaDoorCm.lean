/- Contracts: a datagram is written. No statement of the seat is proved here. -/
import Derived.Test.YtkahmepenjhcpaaDoorCl
import Derived.Test.YtkahmepenjhcpaaDoorFu
import Derived.Test.YtkahmepenjhcpaaDoorSd
namespace Go.Proofs.YtkahmepenjhcpaaDoor.W
open Go
set_option linter.unusedSimpArgs false
set_option linter.unusedVariables false


abbrev W4 : List Int := [4, 4, 8, 16, 16, 1, 1, 1, 13, 8, 8, 16]
def four4 (x : IP) : List Int := [x.a 0, x.a 1, x.a 2, x.a 3]
def bI (b : Bool) : Int := if b then 1 else 0
def top10 (h : Ip4) : List Int := hdr12 ((20 + ((putL h.opts).length : Int)) / 4) h.tos (20 + ((putL h.opts).length : Int) + (h.data.length : Int)) h.id (bI h.df) (bI h.mf) (h.off / 8) h.ttl h.proto
def headB (h : Ip4) : List Int := top10 h ++ four4 h.src ++ four4 h.dst ++ putL h.opts
def sumC (h : Ip4) : Int := 65535 - sumS (headB h)
def serB (h : Ip4) : List Int := ((headB h).set 10 (sumC h / 256)).set 11 (sumC h % 256) ++ h.data
def serL (h : Ip4) : List Int := if chkE h = 0 then serB h else []
theorem four4_byt {x : IP} (h : x.ok) : byt (four4 x) := by
  intro b hb
  simp only [four4, List.mem_cons, List.not_mem_nil, or_false] at hb
  rcases hb with rfl | rfl | rfl | rfl
  · exact h.1 0 (by omega)
  · exact h.1 1 (by omega)
  · exact h.1 2 (by omega)
  · exact h.1 3 (by omega)
theorem BSs.byts {N : List Nat} {w : World} : ∀ {vs : List Value} {ls : List (List Int)}, BSs N w vs ls → ∀ l ∈ ls, W.byt l
  | [], [], _, l, hl => by simp at hl
  | [], _ :: _, h, _, _ => h.elim
  | _ :: _, [], h, _, _ => h.elim
  | v :: vs, a :: ls, h, l, hl => by
    rcases List.mem_cons.1 hl with e | e
    · rw [e]; exact h.1.1
    · exact BSs.byts h.2 l e
theorem OS.byt {N : List Nat} {w : World} {v : Value} {os : List Opt} (h : OS N w v os) : ∀ o ∈ os, W.byt o.data := by
  obtain ⟨ds, _, hB⟩ := h
  intro o ho
  exact BSs.byts hB _ (List.mem_map_of_mem ho)
theorem optsB_byt {os : List Opt} (hk : os.all okO = true) (hd : ∀ o ∈ os, W.byt o.data) : W.byt (optsB os) := by
  intro x hx
  unfold optsB at hx
  obtain ⟨l, hl, hxl⟩ := List.mem_flatten.1 hx
  obtain ⟨o, ho, rfl⟩ := List.mem_map.1 hl
  have h1 := okO_iff.1 (List.all_eq_true.1 hk o ho)
  simp only [optB, List.mem_cons] at hxl
  rcases hxl with rfl | rfl | h
  · omega
  · omega
  · exact hd o ho x h
theorem putL_byt {os : List Opt} (hd : ∀ o ∈ os, W.byt o.data) : W.byt (putL os) := by
  unfold putL
  split
  · rename_i h
    have hk : os.all okO = true := by simp only [putOk, Bool.and_eq_true] at h; exact h.1
    refine byt_app (optsB_byt hk hd) ?_
    intro x hx; rw [(List.mem_replicate.1 hx).2]; omega
  · intro x hx; simp at hx
theorem flat1 (l : List Int) : [l].flatten = l := by simp
theorem chkE_zero {h : Ip4} (hc : chkE h = 0) : badF h = false ∧ putE h.opts = 0 ∧ 20 + ((putL h.opts).length : Int) + h.data.length ≤ 65535 ∧ fragE h.mf h.off h.data.length = 0 := by
  unfold chkE at hc
  cases hb : badF h with
  | true => rw [hb] at hc; simp at hc
  | false =>
    rw [hb] at hc
    simp only [Bool.false_eq_true, if_false] at hc
    by_cases h2 : putE h.opts = 0
    · rw [if_neg (by omega)] at hc
      by_cases h3 : 65535 < 20 + ((putL h.opts).length : Int) + h.data.length
      · rw [if_pos h3] at hc; omega
      · rw [if_neg h3] at hc; exact ⟨rfl, h2, by omega, hc⟩
    · rw [if_pos h2] at hc; omega
theorem bI_bd (b : Bool) : 0 ≤ bI b ∧ bI b ≤ 1 := by cases b <;> decide
theorem hdr12_byt {head tos total id df mf off ttl proto : Int} (h1 : 0 ≤ head ∧ head < 16) (h2 : 0 ≤ tos ∧ tos < 256) (h3 : 0 ≤ total ∧ total < 65536) (h4 : 0 ≤ id ∧ id < 65536) (h5 : 0 ≤ df ∧ df ≤ 1) (h6 : 0 ≤ mf ∧ mf ≤ 1) (h7 : 0 ≤ off ∧ off < 8192) (h8 : 0 ≤ ttl ∧ ttl < 256) (h9 : 0 ≤ proto ∧ proto < 256) :
    byt (hdr12 head tos total id df mf off ttl proto) := by
  intro x hx
  simp only [hdr12, List.mem_cons, List.not_mem_nil, or_false] at hx
  rcases hx with rfl | rfl | rfl | rfl | rfl | rfl | rfl | rfl | rfl | rfl | rfl | rfl <;> omega
theorem top10_byt {h : Ip4} (hc : chkE h = 0) : byt (top10 h) := by
  obtain ⟨h1, h2, h3, h4⟩ := chkE_zero hc
  have hb := badF_off h1
  have hl := putL_len h.opts
  have hdf := bI_bd h.df
  have hmf := bI_bd h.mf
  exact hdr12_byt (by omega) (by omega) (by omega) (by omega) hdf hmf (by omega) (by omega) (by omega)
theorem top10_bits {h : Ip4} (hc : chkE h = 0) : bitsB (top10 h) = strm W4 [4, (20 + ((putL h.opts).length : Int)) / 4, h.tos, 20 + ((putL h.opts).length : Int) + (h.data.length : Int), h.id, 0, bI h.df, bI h.mf, h.off / 8, h.ttl, h.proto, 0] := by
  obtain ⟨h1, h2, h3, h4⟩ := chkE_zero hc
  have hb := badF_off h1
  have hl := putL_len h.opts
  exact hdr12_bits (by omega) (by omega) (by omega) (bI_bd _) (bI_bd _) (by omega)
theorem top10_pack {h : Ip4} (hc : chkE h = 0) : ∀ i, i < W4.length → 0 ≤ [4, (20 + ((putL h.opts).length : Int)) / 4, h.tos, 20 + ((putL h.opts).length : Int) + (h.data.length : Int), h.id, 0, bI h.df, bI h.mf, h.off / 8, h.ttl, h.proto, 0].getD i 0 ∧ [4, (20 + ((putL h.opts).length : Int)) / 4, h.tos, 20 + ((putL h.opts).length : Int) + (h.data.length : Int), h.id, 0, bI h.df, bI h.mf, h.off / 8, h.ttl, h.proto, 0].getD i 0 < 2 ^ (W4.getD i 0).toNat := by
  obtain ⟨h1, h2, h3, h4⟩ := chkE_zero hc
  have hb := badF_off h1
  have hl := putL_len h.opts
  have hdf := bI_bd h.df
  have hmf := bI_bd h.mf
  intro i hi
  rcases i with _ | _ | _ | _ | _ | _ | _ | _ | _ | _ | _ | _ | i
  all_goals first
    | (simp only [W4, List.getD_cons_zero, List.getD_cons_succ, Int.toNat_one, Int.reducePow, Int.reduceToNat]; omega)
    | (exfalso; simp at hi; omega)
theorem headB_len (h : Ip4) : (headB h).length = 20 + (putL h.opts).length := by simp [headB, top10, hdr12, four4]; omega
theorem headB_byt {h : Ip4} (hc : chkE h = 0) (h1 : h.src.ok) (h2 : h.dst.ok) (hd : ∀ o ∈ h.opts, W.byt o.data) : byt (headB h) :=
  byt_app (byt_app (byt_app (top10_byt hc) (four4_byt h1)) (four4_byt h2)) (putL_byt hd)
theorem sumC_bd {h : Ip4} (hb : byt (headB h)) : 0 ≤ sumC h ∧ sumC h ≤ 65535 := by
  have hw := wsum_bd (headB h) true hb
  have hf := foldS_bd hw.1
  have e : sumS (headB h) = foldS (wsum true (headB h)) := rfl
  unfold sumC; omega

set_option maxHeartbeats 1000000 in
theorem c30 (h : Ip4) (o d : Value) (w : World) (hO : OS [] w o h.opts) (hd : BS [] w d h.data) (hol : h.opts.length ≤ 1099511627776) (hdl : h.data.length ≤ 1099511627776) (hs : h.src.ok) (ht : h.dst.ok) (hg : GV [] w 0 130 (W4.map i64)) :
    CallsV Tryd.prog 30 #[.agg (encIp4 h o d).toArray] w (fun r w' => ∃ u, r = .tuple #[u, .int .i64 (chkE h)] ∧ FB w w' u (serL h)) := by
  refine enter Tryd.func30 rfl Tryd.ntmps30 (l := [(0, [], _)]) rfl rfl ?_
  have S := St.refl [] w
  have hpl := putL_len h.opts
  have hpb := putL_byt hO.byt
  refine Run.seq ?_
  refine Run.region ?_
  refine boxA rfl S rfl ?_
  intro b1 w1 hb1 S B_
  refine asg1 rfl rfl ?_
  refine asg1 rfl rfl ?_
  refine Ro.nil ?_
  refine Nrm.code ?_
  refine Run.seq ?_
  refine Run.seq ?_
  refine Run.region ?_
  refine ldW rfl T28 S (i := 0) rfl rfl rfl rfl rfl ?_
  refine calg (vs := [_]) rfl ⟨⟨_, _, rfl, rfl⟩, trivial⟩ k32 rfl (fun hG => c32 _ _ _ _ (hO.now S) (hd.now S) hol hdl) ?_
  intro w2 B_; have S := S.call B_
  refine asg1 rfl rfl ?_
  refine Ro.nil ?_
  refine Nrm.code ?_
  refine Run.seq ?_
  refine Run.region ?_
  refine mv1 rfl rfl ?_
  refine neq1 rfl rfl rfl ?_
  refine Ro.nil ?_
  refine Nrm.code ?_
  refine Run.cond rfl (fun hc2 => ?_) (fun hc2 => ?_)
  ·
    try simp only [Bool.or_eq_true, Bool.and_eq_true, Bool.or_eq_false_iff, Bool.and_eq_false_iff, decide_eq_true_eq, decide_eq_false_iff_not, Bool.not_eq_true', Bool.not_eq_false', Bool.not_eq_true, Bool.not_eq_false] at hc2
    refine Run.seq ?_
    refine Run.region ?_
    refine mv1 rfl rfl ?_
    refine asg1 rfl rfl ?_
    refine asg1 rfl rfl ?_
    refine Ro.nil ?_
    refine Nrm.code ?_
    refine Run.ret ?_
    refine Rt.two rfl rfl rfl ?_
    exact ⟨.slice none 0 0, rfl, by rw [serL, if_neg hc2]; exact (S.nilB).toFB (i := 0) rfl⟩
  ·
    try simp only [Bool.or_eq_true, Bool.and_eq_true, Bool.or_eq_false_iff, Bool.and_eq_false_iff, decide_eq_true_eq, decide_eq_false_iff_not, Bool.not_eq_true', Bool.not_eq_false', Bool.not_eq_true, Bool.not_eq_false] at hc2
    replace hc2 : chkE h = 0 := by omega
    have hcz := chkE_zero hc2
    have hbo := badF_off hcz.1
    have hXb := headB_byt hc2 hs ht hO.byt
    have hXl := headB_len h
    have hcb := sumC_bd hXb
    have hXl2 : (top10 h ++ four4 h.src ++ four4 h.dst ++ putL h.opts).length = 20 + (putL h.opts).length := hXl
    have hXl3 : ((top10 h ++ four4 h.src ++ four4 h.dst ++ putL h.opts).set (Int.toNat 10) (sumC h / 256)).length = 20 + (putL h.opts).length := by rw [List.length_set]; exact hXl
    have hXl4 : (((top10 h ++ four4 h.src ++ four4 h.dst ++ putL h.opts).set (Int.toNat 10) (sumC h / 256)).set (Int.toNat 11) (sumC h % 256)).length = 20 + (putL h.opts).length := by rw [List.length_set]; exact hXl3
    have h4s : (four4 h.src).length = 4 := rfl
    have h4d : (four4 h.dst).length = 4 := rfl
    have ht10 : (top10 h).length = 12 := rfl
    refine Run.skip ?_
    refine Nrm.code ?_
    refine Run.seq ?_
    refine Run.region ?_
    refine fld (o' := 41) rfl fo28_9 rfl rfl rfl rfl ?_
    refine ld1 rfl T25 S (i := 0) rfl rfl rfl rfl rfl ?_
    refine call (vs := [_]) ⟨⟨_, _, rfl, rfl⟩, trivial⟩ k94 rfl (c94 _ _ _ (hO.now S) (by omega)) ?_
    rintro _ w3 ⟨u5, rfl, hF⟩
    have S := S.fb hF
    refine mv1 rfl rfl ?_
    refine extr1 rfl rfl rfl ?_
    refine extr1 rfl rfl rfl ?_
    refine asg1 rfl rfl ?_
    refine asg1 rfl rfl ?_
    refine Ro.nil ?_
    refine Nrm.code ?_
    refine Run.seq ?_
    refine Run.region ?_
    refine mv1 rfl rfl ?_
    refine lenS rfl (S.slI (i := 0) rfl) Tryd.underlying26 rfl rfl rfl ?_
    refine add1 rfl rfl rfl (w64 (by omega)) ?_
    refine asg1 rfl rfl ?_
    refine Ro.nil ?_
    refine Nrm.code ?_
    refine Run.seq ?_
    refine Run.region ?_
    refine ldG hg S T130 rfl rfl ?_
    refine alc T130 S rfl ?_
    intro b8 w4 hb8 S B_
    refine stW rfl rfl T130 rfl rfl (by simp [Value.oneCell']) S (i := 0) rfl rfl ?_
    intro w5 S
    refine Ro.nil ?_
    refine Nrm.code ?_
    refine Run.seq ?_
    refine Run.held (by kernel_rfl) S [true, true, true] rfl rfl rfl ?_
    intro w6 BD S SC
    refine Ho.take (i := 0) SC Pp.body rfl (by kernel_rfl) (by kernel_rfl) (by kernel_rfl) rfl rfl ?_
    refine qslAT rfl Tryd.underlying130 T3 rfl rfl rfl (i2 := none) trivial rfl (by decide) (by decide) ?_
    refine Ho.back ?_
    refine Ho.take (i := 1) SC Pp.body rfl (by kernel_rfl) (by kernel_rfl) (by kernel_rfl) rfl rfl ?_
    refine qmv rfl rfl rfl rfl ?_
    refine Ho.back ?_
    refine Ho.take (i := 2) SC Pp.body rfl (by kernel_rfl) (by kernel_rfl) (by kernel_rfl) rfl rfl ?_
    refine qquo rfl rfl rfl rfl rfl rfl (fun _ => by decide) (fun _ => q64 (by omega)) ?_
    refine Ho.back ?_
    refine Ho.take (i := 3) SC Pp.body rfl (by kernel_rfl) (by kernel_rfl) (by kernel_rfl) rfl rfl ?_
    refine qfld (o' := 0) rfl fo28_0 rfl rfl rfl rfl ?_
    refine Ho.back ?_
    refine Ho.take (i := 4) SC Pp.body rfl (by kernel_rfl) (by kernel_rfl) (by kernel_rfl) rfl rfl ?_
    refine qld1 rfl T3 (fun _ S => S) (i := 2) rfl rfl rfl rfl rfl ?_
    refine Ho.back ?_
    refine Ho.take (i := 5) SC Pp.body rfl (by kernel_rfl) (by kernel_rfl) (by kernel_rfl) rfl rfl ?_
    refine qmv rfl rfl rfl rfl ?_
    refine Ho.back ?_
    refine Ho.take (i := 6) SC Pp.body rfl (by kernel_rfl) (by kernel_rfl) (by kernel_rfl) rfl rfl ?_
    refine qfld (o' := 42) rfl fo28_10 rfl rfl rfl rfl ?_
    refine Ho.back ?_
    refine Ho.take (i := 7) SC Pp.body rfl (by kernel_rfl) (by kernel_rfl) (by kernel_rfl) rfl rfl ?_
    refine qld1 rfl T26 (fun _ S => S) (i := 2) rfl rfl rfl rfl rfl ?_
    refine Ho.back ?_
    refine Ho.take (i := 8) SC Pp.body rfl (by kernel_rfl) (by kernel_rfl) (by kernel_rfl) rfl rfl ?_
    refine qlenS rfl hd.2 Tryd.underlying26 rfl rfl rfl ?_
    refine Ho.back ?_
    refine Ho.take (i := 9) SC Pp.body rfl (by kernel_rfl) (by kernel_rfl) (by kernel_rfl) rfl rfl ?_
    refine qadd rfl rfl rfl rfl rfl rfl (fun _ => w64 (by omega)) ?_
    refine Ho.back ?_
    refine Ho.take (i := 10) SC Pp.body rfl (by kernel_rfl) (by kernel_rfl) (by kernel_rfl) rfl rfl ?_
    refine qfld (o' := 1) rfl fo28_1 rfl rfl rfl rfl ?_
    refine Ho.back ?_
    refine Ho.take (i := 11) SC Pp.body rfl (by kernel_rfl) (by kernel_rfl) (by kernel_rfl) rfl rfl ?_
    refine qld1 rfl T3 (fun _ S => S) (i := 2) rfl rfl rfl rfl rfl ?_
    refine Ho.back ?_
    refine Ho.take (i := 12) SC Pp.body rfl (by kernel_rfl) (by kernel_rfl) (by kernel_rfl) rfl rfl ?_
    refine qfld (o' := 2) rfl fo28_2 rfl rfl rfl rfl ?_
    refine Ho.back ?_
    refine Ho.take (i := 13) SC Pp.body rfl (by kernel_rfl) (by kernel_rfl) (by kernel_rfl) rfl rfl ?_
    refine qld1 rfl T4 (fun _ S => S) (i := 2) rfl rfl rfl rfl rfl ?_
    refine Ho.back ?_
    refine Ho.take (i := 15) SC Pp.body rfl (by kernel_rfl) (by kernel_rfl) (by kernel_rfl) rfl rfl ?_
    refine qfld (o' := 3) rfl fo28_3 rfl rfl rfl rfl ?_
    refine Ho.back ?_
    refine Ho.take (i := 16) SC Pp.body rfl (by kernel_rfl) (by kernel_rfl) (by kernel_rfl) rfl rfl ?_
    refine qld1 rfl T4 (fun _ S => S) (i := 2) rfl rfl rfl rfl rfl ?_
    refine Ho.back ?_
    refine Ho.take (i := 18) SC Pp.body rfl (by kernel_rfl) (by kernel_rfl) (by kernel_rfl) rfl rfl ?_
    refine qfld (o' := 4) rfl fo28_4 rfl rfl rfl rfl ?_
    refine Ho.back ?_
    refine Ho.take (i := 19) SC Pp.body rfl (by kernel_rfl) (by kernel_rfl) (by kernel_rfl) rfl rfl ?_
    refine qld1 rfl T3 (fun _ S => S) (i := 2) rfl rfl rfl rfl rfl ?_
    refine Ho.back ?_
    refine Ho.take (i := 20) SC Pp.body rfl (by kernel_rfl) (by kernel_rfl) (by kernel_rfl) rfl rfl ?_
    refine qquo rfl rfl rfl rfl rfl rfl (fun _ => by decide) (fun _ => q64 (by omega)) ?_
    refine Ho.back ?_
    refine Ho.take (i := 21) SC Pp.body rfl (by kernel_rfl) (by kernel_rfl) (by kernel_rfl) rfl rfl ?_
    refine qfld (o' := 5) rfl fo28_5 rfl rfl rfl rfl ?_
    refine Ho.back ?_
    refine Ho.take (i := 22) SC Pp.body rfl (by kernel_rfl) (by kernel_rfl) (by kernel_rfl) rfl rfl ?_
    refine qld1 rfl T3 (fun _ S => S) (i := 2) rfl rfl rfl rfl rfl ?_
    refine Ho.back ?_
    refine Ho.take (i := 23) SC Pp.body rfl (by kernel_rfl) (by kernel_rfl) (by kernel_rfl) rfl rfl ?_
    refine qfld (o' := 6) rfl fo28_6 rfl rfl rfl rfl ?_
    refine Ho.back ?_
    refine Ho.take (i := 24) SC Pp.body rfl (by kernel_rfl) (by kernel_rfl) (by kernel_rfl) rfl rfl ?_
    refine qld1 rfl T3 (fun _ S => S) (i := 2) rfl rfl rfl rfl rfl ?_
    refine Ho.back ?_
    refine Ho.one (i := 14) (by kernel_rfl) rfl rfl ?_
    refine calg (vs := [_]) rfl ⟨⟨_, _, rfl, rfl⟩, trivial⟩ k96 rfl (fun hG => c96 _ _) ?_
    intro w7 B_; have S := S.call B_
    have SC := S.pick [true, true, true] rfl
    refine Ho.on SC ?_
    refine Ho.one (i := 17) (by kernel_rfl) rfl rfl ?_
    refine calg (vs := [_]) rfl ⟨⟨_, _, rfl, rfl⟩, trivial⟩ k96 rfl (fun hG => c96 _ _) ?_
    intro w8 B_; have S := S.call B_
    have SC := S.pick [true, true, true] rfl
    refine Ho.on SC ?_
    refine Ho.one (i := 25) (by kernel_rfl) rfl rfl ?_
    refine bsl e132 (qs := [(_, _), (_, _), (_, _), (_, _), (_, _), (_, _), (_, _), (_, _), (_, _), (_, _), (_, _), (_, _)]) ⟨⟨_, _, _, rfl, rfl, rfl, rfl, by simp [Value.cells]⟩, ⟨_, _, _, rfl, rfl, rfl, rfl, by simp [Value.cells]⟩, ⟨_, _, _, rfl, rfl, rfl, rfl, by simp [Value.cells]⟩, ⟨_, _, _, rfl, rfl, rfl, rfl, by simp [Value.cells]⟩, ⟨_, _, _, rfl, rfl, rfl, rfl, by simp [Value.cells]⟩, ⟨_, _, _, rfl, rfl, rfl, rfl, by simp [Value.cells]⟩, ⟨_, _, _, rfl, rfl, rfl, rfl, by simp [Value.cells]⟩, ⟨_, _, _, rfl, rfl, rfl, rfl, by simp [Value.cells]⟩, ⟨_, _, _, rfl, rfl, rfl, rfl, by simp [Value.cells]⟩, ⟨_, _, _, rfl, rfl, rfl, rfl, by simp [Value.cells]⟩, ⟨_, _, _, rfl, rfl, rfl, rfl, by simp [Value.cells]⟩, ⟨_, _, _, rfl, rfl, rfl, rfl, by simp [Value.cells]⟩, trivial⟩ rfl rfl rfl rfl S ?_
    intro u53 w9 S B_
    have SC := S.pick [false, true, true, true] rfl
    refine Ho.on SC ?_
    refine Ho.one (i := 26) (by kernel_rfl) rfl rfl ?_
    refine call (vs := [_, _]) ⟨⟨_, _, rfl, rfl⟩, ⟨_, _, rfl, rfl⟩, trivial⟩ k95 rfl (c95 _ _ W4 [4, (20 + ((putL h.opts).length : Int)) / 4, h.tos, 20 + ((putL h.opts).length : Int) + (h.data.length : Int), h.id, 0, bI h.df, bI h.mf, h.off / 8, h.ttl, h.proto, 0] _ (S.varSl (i := 1) (m := 12) (sz := 1) rfl rfl rfl (by decide)) (S.isI (l := [4, (20 + ((putL h.opts).length : Int)) / 4, h.tos, 20 + ((putL h.opts).length : Int) + (h.data.length : Int), h.id, 0, bI h.df, bI h.mf, h.off / 8, h.ttl, h.proto, 0]) (i := 0) rfl) (by decide) (by decide) (by decide) rfl (top10_pack hc2)) ?_
    rintro _ w10 ⟨u9, out, rfl, hF, hpk⟩
    have hout : out = top10 h := bits_of_eq hpk.1 hpk.2.1 hpk.2.2.2 rfl (top10_byt hc2) (top10_bits hc2)
    subst hout
    have S := S.fb hF
    have SC := S.pick [false, false, true, true, true] rfl
    refine Ho.on SC ?_
    refine Ho.take (i := 27) SC Pp.body rfl (by kernel_rfl) (by kernel_rfl) (by kernel_rfl) rfl rfl ?_
    refine qmv rfl rfl rfl rfl ?_
    refine Ho.back ?_
    refine Ho.take (i := 28) SC Pp.body rfl (by kernel_rfl) (by kernel_rfl) (by kernel_rfl) rfl rfl ?_
    refine qextr rfl rfl rfl rfl rfl ?_
    refine Ho.back ?_
    refine Ho.take (i := 29) SC Pp.body rfl (by kernel_rfl) (by kernel_rfl) (by kernel_rfl) rfl rfl ?_
    refine qextr rfl rfl rfl rfl rfl ?_
    refine Ho.back ?_
    refine Ho.take (i := 30) SC Pp.body rfl (by kernel_rfl) (by kernel_rfl) (by kernel_rfl) rfl rfl ?_
    refine qasg rfl rfl rfl rfl ?_
    refine Ho.back ?_
    refine Ho.take (i := 31) SC Pp.body rfl (by kernel_rfl) (by kernel_rfl) (by kernel_rfl) rfl rfl ?_
    refine qasg rfl rfl rfl rfl ?_
    refine Ho.back ?_
    refine Ho.done (by kernel_rfl) ?_
    refine Nrm.code ?_
    refine Run.seq ?_
    refine Run.seq ?_
    refine Run.region ?_
    refine mv1 rfl rfl ?_
    refine neq1 rfl rfl rfl ?_
    refine Ro.nil ?_
    refine Nrm.code ?_
    refine Run.cond rfl (fun hc8 => ?_) (fun hc8 => ?_)
    ·
      try simp only [Bool.or_eq_true, Bool.and_eq_true, Bool.or_eq_false_iff, Bool.and_eq_false_iff, decide_eq_true_eq, decide_eq_false_iff_not, Bool.not_eq_true', Bool.not_eq_false', Bool.not_eq_true, Bool.not_eq_false] at hc8
      exfalso; exact hc8 rfl
    ·
      try simp only [Bool.or_eq_true, Bool.and_eq_true, Bool.or_eq_false_iff, Bool.and_eq_false_iff, decide_eq_true_eq, decide_eq_false_iff_not, Bool.not_eq_true', Bool.not_eq_false', Bool.not_eq_true, Bool.not_eq_false] at hc8
      refine Run.skip ?_
      refine Nrm.code ?_
      refine Run.seq ?_
      refine Run.region ?_
      refine mv1 rfl rfl ?_
      refine fld (o' := 7) rfl fo28_7 rfl rfl rfl rfl ?_
      refine fld (o' := 8) rfl fo24_1 rfl rfl rfl rfl ?_
      refine slAT rfl Tryd.underlying22 T5 rfl rfl rfl (i2 := some 4) ⟨_, _, _, rfl, rfl⟩ rfl (by decide) (by decide) ?_
      refine apB rfl rfl e26 (b := four4 h.src) ⟨four4_byt hs, S.varSl (i := 4) (m := 4) (sz := 1) rfl rfl rfl (by decide)⟩ S (i := 0) rfl rfl (fun _ => rfl) (by first | omega | (simp only [List.length_nil, List.length_append, List.length_cons]; omega)) ?_
      intro v64 w11 S B_
      refine asg1 rfl rfl ?_
      refine Ro.nil ?_
      refine Nrm.code ?_
      refine Run.seq ?_
      refine Run.region ?_
      refine mv1 rfl rfl ?_
      refine fld (o' := 24) rfl fo28_8 rfl rfl rfl rfl ?_
      refine fld (o' := 25) rfl fo24_1 rfl rfl rfl rfl ?_
      refine slAT rfl Tryd.underlying22 T5 rfl rfl rfl (i2 := some 4) ⟨_, _, _, rfl, rfl⟩ rfl (by decide) (by decide) ?_
      refine apB rfl rfl e26 (b := four4 h.dst) ⟨four4_byt ht, S.varSl (i := 4) (m := 4) (sz := 1) rfl rfl rfl (by decide)⟩ S (i := 0) rfl rfl (fun _ => rfl) (by first | omega | (simp only [List.length_nil, List.length_append, List.length_cons]; omega)) ?_
      intro v69 w12 S B_
      refine asg1 rfl rfl ?_
      refine Ro.nil ?_
      refine Nrm.code ?_
      refine Run.seq ?_
      refine Run.region ?_
      refine mv1 rfl rfl ?_
      refine mv1 rfl rfl ?_
      refine apB rfl rfl e26 (S.bsI (i := 3) rfl hpb) S (i := 0) rfl rfl (fun _ => rfl) (by first | omega | (simp only [List.length_nil, List.length_append, List.length_cons]; omega)) ?_
      intro v72 w13 S B_
      refine asg1 rfl rfl ?_
      refine Ro.nil ?_
      refine Nrm.code ?_
      refine Run.seq ?_
      refine Run.region ?_
      refine mv1 rfl rfl ?_
      refine bsl e102 (qs := [(_, _)]) ⟨⟨_, _, _, rfl, rfl, cells1 (S.slI (i := 0) rfl).one, rfl, List.cons_ne_nil _ _⟩, trivial⟩ rfl rfl rfl rfl S ?_
      intro u74 w14 S B_
      have hck : CallsD Tryd.prog 97 #[u74] w14 (.int .i64 (sumC h)) := by
        have := c97 u74 [headB h] w14 ⟨[v72], S.slI (i := 0) rfl, S.bsI (i := 1) rfl hXb, trivial⟩ (by rw [flat1]; omega) (by simp)
        rw [flat1] at this
        exact this
      refine calg (vs := [_]) rfl ⟨⟨_, _, rfl, rfl⟩, trivial⟩ k97 rfl (fun hG => hck) ?_
      intro w15 B_; have S := S.call B_
      refine asg1 rfl rfl ?_
      refine Ro.nil ?_
      refine Nrm.code ?_
      refine Run.seq ?_
      refine Run.region ?_
      refine mv1 rfl rfl ?_
      refine mv1 rfl rfl ?_
      refine mv1 rfl rfl ?_
      refine shr rfl rfl rfl rfl rfl rfl (fun _ => by decide) (fun _ => sh8 _) ?_
      refine cvi1 rfl rfl Tryd.underlying3 Tryd.underlying5 (w8of (y := sumC h / 256) rfl (by omega)) ?_
      refine mv1 rfl rfl ?_
      refine cvi1 rfl rfl Tryd.underlying3 Tryd.underlying5 (w8m (sumC h)) ?_
      refine ixa rfl rfl (S.slI (i := 1) rfl) e26 rfl rfl rfl rfl (fun _ => by omega) ?_
      refine stB rfl rfl T5 S (i := 1) rfl (by omega) rfl ?_
      intro w16 S
      refine ixa rfl rfl (S.slI (i := 1) rfl) e26 rfl rfl rfl rfl (fun _ => by omega) ?_
      refine stB rfl rfl T5 S (i := 1) rfl (by omega) rfl ?_
      intro w17 S
      refine Ro.nil ?_
      refine Nrm.code ?_
      refine Run.seq ?_
      refine Run.region ?_
      refine mv1 rfl rfl ?_
      refine fld (o' := 42) rfl fo28_10 rfl rfl rfl rfl ?_
      refine ld1 rfl T26 S (i := 5) rfl rfl rfl rfl rfl ?_
      refine apB rfl rfl e26 (hd.now S) S (i := 1) rfl rfl (fun _ => rfl) (by first | omega | (simp only [List.length_nil, List.length_append, List.length_cons]; omega)) ?_
      intro v88 w18 S B_
      refine asg1 rfl rfl ?_
      refine asg1 rfl rfl ?_
      refine Ro.nil ?_
      refine Nrm.code ?_
      refine Run.ret ?_
      refine Rt.two rfl rfl rfl ?_
      exact ⟨_, by rw [hc2], by rw [serL, if_pos hc2]; exact S.toFB (i := 1) rfl⟩

end Go.Proofs.YtkahmepenjhcpaaDoor.W
