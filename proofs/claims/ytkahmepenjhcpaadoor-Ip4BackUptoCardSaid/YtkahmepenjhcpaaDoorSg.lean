/- Plain laws of datagrams: what is written is read as it was. No program walked here; no statement of the seat is proved here. -/
import Derived.Test.YtkahmepenjhcpaaDoorCr
namespace Go.Proofs.YtkahmepenjhcpaaDoor.W
open Go
set_option linter.unusedVariables false
set_option linter.unusedSimpArgs false

theorem optsG_zeros : ∀ m, optsG (List.replicate m 0) = some []
  | 0 => by rw [List.replicate_zero, optsG]
  | 1 => by show optsG [0] = _; rw [optsG]; simp
  | m + 2 => by show optsG (0 :: 0 :: List.replicate m 0) = _; rw [optsG]; simp
theorem optsG_put : ∀ (os : List Opt), os.all okO = true → ∀ m, optsG (optsB os ++ List.replicate m 0) = some os
  | [], _, m => by rw [optsB_nil, List.nil_append]; exact optsG_zeros m
  | o :: os, hk, m => by
    simp only [List.all_cons, Bool.and_eq_true] at hk
    have h1 := okO_iff.1 hk.1
    have ih := optsG_put os hk.2 m
    have e : optsB (o :: os) ++ List.replicate m 0 = o.kind :: (2 + (o.data.length : Int)) :: (o.data ++ (optsB os ++ List.replicate m 0)) := by simp [optsB, optB]
    rw [e, optsG]
    have e2 : (2 + (o.data.length : Int)).toNat - 2 = o.data.length := by omega
    rw [if_neg (by omega), if_neg (by omega), e2, if_neg (by rw [List.length_append]; omega), List.drop_left', List.take_left', ih]
    · simp
    · rfl
    · rfl
theorem putE_zero {os : List Opt} (h : putE os = 0) : putOk os = true := by
  unfold putE at h
  cases hp : putOk os with
  | true => rfl
  | false => rw [hp] at h; simp at h
theorem opt_back {os : List Opt} (h : putOk os = true) : optE (putL os) = 0 ∧ optL (putL os) = os := by
  have hl := putL_len os
  have e : optsG (putL os) = some os := by
    unfold putL
    rw [if_pos h]
    simp only [putOk, Bool.and_eq_true] at h
    exact optsG_put os h.1 _
  have : ¬ 40 < (putL os).length := by omega
  simp [optE, optL, this, e]

/-- a datagram's first twenty bytes, the sum in its place -/
def hd20 (h : Ip4) : List Int :=
  [4 * 16 + (20 + ((putL h.opts).length : Int)) / 4, h.tos, (20 + ((putL h.opts).length : Int) + (h.data.length : Int)) / 256, (20 + ((putL h.opts).length : Int) + (h.data.length : Int)) % 256, h.id / 256, h.id % 256,
   bI h.df * 64 + bI h.mf * 32 + h.off / 8 / 256, h.off / 8 % 256, h.ttl, h.proto, sumC h / 256, sumC h % 256, h.src.a 0, h.src.a 1, h.src.a 2, h.src.a 3, h.dst.a 0, h.dst.a 1, h.dst.a 2, h.dst.a 3]
theorem serB_eq (h : Ip4) : serB h = hd20 h ++ (putL h.opts ++ h.data) := by
  simp [serB, headB, top10, hdr12, four4, hd20]
theorem foldS_fix {w c : Int} (hw : 0 < w) (hc : c = 65535 - foldS w) : foldS (w + c) = 65535 := by
  subst hc; unfold foldS; (repeat' split) <;> omega
theorem sum_right {h : Ip4} (hb : byt (headB h)) (h0 : 0 < (20 + ((putL h.opts).length : Int)) / 4) : sumS (hd20 h ++ putL h.opts) = 65535 := by
  have e0 : headB h = [4 * 16 + (20 + ((putL h.opts).length : Int)) / 4, h.tos, (20 + ((putL h.opts).length : Int) + (h.data.length : Int)) / 256, (20 + ((putL h.opts).length : Int) + (h.data.length : Int)) % 256, h.id / 256, h.id % 256,
   bI h.df * 64 + bI h.mf * 32 + h.off / 8 / 256, h.off / 8 % 256, h.ttl, h.proto, 0, 0, h.src.a 0, h.src.a 1, h.src.a 2, h.src.a 3, h.dst.a 0, h.dst.a 1, h.dst.a 2, h.dst.a 3] ++ putL h.opts := by
    simp [headB, top10, hdr12, four4]
  have e1 : wsum true (hd20 h ++ putL h.opts) = wsum true (headB h) + sumC h := by
    rw [e0]
    simp only [hd20, List.cons_append, List.nil_append, wsum]
    omega
  have hw : 0 < wsum true (headB h) := by
    have hall := hb
    rw [e0] at hall ⊢
    have hp := (wsum_bd (putL h.opts) true (fun x hx => hall x (by simp [hx]))).1
    have g := fun x (hx : x ∈ _) => hall x (List.mem_append_left _ hx)
    simp only [List.mem_cons, List.not_mem_nil, or_false, forall_eq_or_imp, forall_eq] at g
    simp only [List.cons_append, List.nil_append, wsum]
    omega
  show foldS (wsum true _) = 65535
  rw [e1]
  exact foldS_fix hw rfl
/-- a datagram that may be one, its addresses' last twelve places told -/
def norm4 (x : IP) : IP := ip4of (x.a 0) (x.a 1) (x.a 2) (x.a 3)
def normH (h : Ip4) : Ip4 := { h with src := norm4 h.src, dst := norm4 h.dst }
theorem norm_same {x : IP} (h : fourB x = true) : sameB (norm4 x) x = true := by
  rw [sameB_iff]
  simp only [fourB, Bool.and_eq_true, decide_eq_true_eq, List.all_eq_true, List.mem_range, Bool.or_eq_true] at h
  refine ⟨h.1.symm, fun i hi => ?_⟩
  have h2 := h.2 i hi
  simp only [norm4, ip4of]
  by_cases h0 : i = 0
  · subst h0; rfl
  · by_cases h1 : i = 1
    · subst h1; rfl
    · by_cases h3 : i = 2
      · subst h3; rfl
      · by_cases h4 : i = 3
        · subst h4; rfl
        · rw [if_neg h0, if_neg h1, if_neg h3, if_neg h4]
          rcases h2 with h2 | h2
          · omega
          · exact h2.symm
theorem normH_same {h : Ip4} (hb : badF h = false) : sameH (normH h) h = true := by
  have g := badF_off hb
  have h1 := norm_same g.2.2.2.2.2.2.2.2.2.2.2.1
  have h2 := norm_same g.2.2.2.2.2.2.2.2.2.2.2.2
  have h3 : sameOs h.opts h.opts = true := sameOs_iff.2 rfl
  simp only [sameH, diffH, normH, h1, h2, h3]
  simp

theorem ser_back {h : Ip4} (hc : chkE h = 0) (h1 : h.src.ok) (h2 : h.dst.ok) (hd : ∀ o ∈ h.opts, W.byt o.data) : parE (serB h) = 0 ∧ parH (serB h) = normH h := by
  obtain ⟨c1, c2, c3, c4⟩ := chkE_zero hc
  have g := badF_off c1
  have hl := putL_len h.opts
  have hp := putE_zero c2
  have ho := opt_back hp
  have hdf := bI_bd h.df
  have hmf := bI_bd h.mf
  have hX := headB_byt hc h1 h2 hd
  have hs := sum_right hX (by omega)
  have hsc := sumC_bd hX
  have e := serB_eq h
  have hlen : (serB h).length = 20 + (putL h.opts).length + h.data.length := by rw [e]; simp [hd20]; omega
  have ht : (serB h).take (20 + (putL h.opts).length) = hd20 h ++ putL h.opts := by
    rw [e, ← List.append_assoc]
    exact List.take_left' (by simp [hd20]; omega)
  have hdr : (serB h).drop 20 = putL h.opts ++ h.data := by
    rw [e]; exact List.drop_left' (by simp [hd20])
  have hdd : (serB h).drop (20 + (putL h.opts).length) = h.data := by
    rw [e, ← List.append_assoc]
    exact List.drop_left' (by simp [hd20]; omega)
  have b0 : (serB h).getD 0 0 = 4 * 16 + (20 + ((putL h.opts).length : Int)) / 4 := by rw [e]; rfl
  have b1 : (serB h).getD 1 0 = h.tos := by rw [e]; rfl
  have b2 : (serB h).getD 2 0 = (20 + ((putL h.opts).length : Int) + (h.data.length : Int)) / 256 := by rw [e]; rfl
  have b3 : (serB h).getD 3 0 = (20 + ((putL h.opts).length : Int) + (h.data.length : Int)) % 256 := by rw [e]; rfl
  have b4 : (serB h).getD 4 0 = h.id / 256 := by rw [e]; rfl
  have b5 : (serB h).getD 5 0 = h.id % 256 := by rw [e]; rfl
  have b6 : (serB h).getD 6 0 = bI h.df * 64 + bI h.mf * 32 + h.off / 8 / 256 := by rw [e]; rfl
  have b7 : (serB h).getD 7 0 = h.off / 8 % 256 := by rw [e]; rfl
  have b8 : (serB h).getD 8 0 = h.ttl := by rw [e]; rfl
  have b9 : (serB h).getD 9 0 = h.proto := by rw [e]; rfl
  have i12 : ipOf (serB h) 12 = norm4 h.src := by rw [e]; rfl
  have i16 : ipOf (serB h) 16 = norm4 h.dst := by rw [e]; rfl
  have hh : hdN (serB h) = 20 + (putL h.opts).length := by unfold hdN; rw [b0]; omega
  have htt : totN (serB h) = 20 + (putL h.opts).length + h.data.length := by unfold totN totI; rw [b2, b3]; omega
  have hof : 8 * offW (serB h) = h.off := by unfold offW; rw [b6, b7]; omega
  have hb1 : bI true = 1 := rfl
  have hb0 : bI false = 0 := rfl
  have hm : decide ((serB h).getD 6 0 / 32 % 2 = 1) = h.mf := by
    rw [b6]
    cases hmm : h.mf with
    | true => rw [hb1]; exact decide_eq_true (by omega)
    | false => rw [hb0]; exact decide_eq_false (by omega)
  have hf : decide ((serB h).getD 6 0 / 64 % 2 = 1) = h.df := by
    rw [b6]
    cases hmm : h.df with
    | true => rw [hb1]; exact decide_eq_true (by omega)
    | false => rw [hb0]; exact decide_eq_false (by omega)
  have hop : optB4 (serB h) = putL h.opts := by
    unfold optB4
    rw [hh, hdr]
    exact List.take_left' (by omega)
  have hpe : parE (serB h) = 0 := by
    unfold parE
    rw [hop, ho.1, hh, htt, ht, hs, hlen, hm, hof, b0, if_neg (by omega), if_neg (by omega), if_neg (by omega), if_neg (by omega), if_neg (by omega), if_neg (by omega), if_neg (by omega)]
    have : (((20 + (putL h.opts).length + h.data.length : Nat) : Int) - ((20 + (putL h.opts).length : Nat) : Int)) = h.data.length := by omega
    rw [this]; exact c4
  refine ⟨hpe, ?_⟩
  unfold parH
  rw [if_pos hpe]
  unfold parG
  rw [hop, ho.2, hh, htt, hm, hof, hf, b1, b4, b5, b8, b9, i12, i16, hdd]
  have e3 : h.id / 256 * 256 + h.id % 256 = h.id := by omega
  have e4 : h.data.take (20 + (putL h.opts).length + h.data.length - (20 + (putL h.opts).length)) = h.data := List.take_of_length_le (by omega)
  rw [e3, e4]
  rfl
theorem norm_four (x : IP) : four4 (norm4 x) = four4 x := rfl
theorem norm_fourB (x : IP) : fourB (norm4 x) = true := by
  unfold fourB
  simp only [Bool.and_eq_true, decide_eq_true_eq, List.all_eq_true, List.mem_range, Bool.or_eq_true]
  refine ⟨rfl, fun i hi => ?_⟩
  by_cases h : i < 4
  · exact Or.inl h
  · refine Or.inr ?_
    simp only [norm4, ip4of]
    rw [if_neg (by omega), if_neg (by omega), if_neg (by omega), if_neg (by omega)]
theorem chk_norm {h : Ip4} (hc : chkE h = 0) : chkE (normH h) = 0 := by
  obtain ⟨c1, c2, c3, c4⟩ := chkE_zero hc
  have hb : badF (normH h) = false := by
    have g := c1
    simp only [badF, Bool.or_eq_false_iff] at g ⊢
    exact ⟨⟨g.1.1, by simp [normH, norm_fourB]⟩, by simp [normH, norm_fourB]⟩
  unfold chkE
  rw [hb]
  simp only [Bool.false_eq_true, if_false]
  show (if putE h.opts ≠ 0 then _ else _) = (0 : Int)
  rw [if_neg (by omega)]
  show (if 65535 < 20 + ((putL h.opts).length : Int) + h.data.length then _ else _) = (0 : Int)
  rw [if_neg (by omega)]
  exact c4
theorem ser_norm {h : Ip4} (hc : chkE h = 0) : serL (normH h) = serL h := by
  unfold serL
  rw [if_pos hc, if_pos (chk_norm hc)]
  rfl
theorem ser_canon {h : Ip4} (hc : chkE h = 0) (h1 : h.src.ok) (h2 : h.dst.ok) (hd : ∀ o ∈ h.opts, W.byt o.data) : canB (serL h) = true := by
  have e : serL h = serB h := by unfold serL; rw [if_pos hc]
  have hb := ser_back hc h1 h2 hd
  unfold canB
  rw [e, hb.1, hb.2, chk_norm hc, ser_norm hc, e]
  simp
end Go.Proofs.YtkahmepenjhcpaaDoor.W
