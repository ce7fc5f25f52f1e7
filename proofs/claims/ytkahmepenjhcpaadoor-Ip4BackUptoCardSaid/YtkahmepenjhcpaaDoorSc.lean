/- Plain facts on options: written and read. No program walked here; no statement of the seat is proved here. -/
import Derived.Test.YtkahmepenjhcpaaDoorFi
namespace Go.Proofs.YtkahmepenjhcpaaDoor.W
open Go
set_option linter.unusedVariables false

abbrev o0 : Opt := ⟨0, []⟩
def okO (o : Opt) : Bool := decide (2 ≤ o.kind) && decide (o.kind ≤ 255) && decide (o.data.length ≤ 38)
def optB (o : Opt) : List Int := o.kind :: (2 + (o.data.length : Int)) :: o.data
def optsB (l : List Opt) : List Int := (l.map optB).flatten
def putOk (l : List Opt) : Bool := l.all okO && decide ((optsB l).length ≤ 40)
def pad4 (b : List Int) : List Int := b ++ List.replicate ((4 - b.length % 4) % 4) 0
def putE (l : List Opt) : Int := if putOk l then 0 else 65
def putL (l : List Opt) : List Int := if putOk l then pad4 (optsB l) else []

theorem okO_iff {o : Opt} : okO o = true ↔ 2 ≤ o.kind ∧ o.kind ≤ 255 ∧ o.data.length ≤ 38 := by simp [okO, and_assoc]
theorem optsB_nil : optsB [] = [] := rfl
theorem optsB_app (a b : List Opt) : optsB (a ++ b) = optsB a ++ optsB b := by simp [optsB]
theorem optsB_one (o : Opt) : optsB [o] = optB o := by simp [optsB]
theorem optB_len (o : Opt) : (optB o).length = 2 + o.data.length := by simp [optB]; omega
theorem take_succ_getD {α : Type} {l : List α} {i : Nat} {d : α} (h : i < l.length) : l.take (i + 1) = l.take i ++ [l.getD i d] := by
  rw [List.take_succ_eq_append_getElem h, List.getD_eq_getElem?_getD, List.getElem?_eq_getElem h]; rfl
theorem optsB_take_succ {l : List Opt} {i : Nat} (h : i < l.length) : optsB (l.take (i + 1)) = optsB (l.take i) ++ optB (l.getD i o0) := by
  rw [take_succ_getD h, optsB_app, optsB_one]
theorem optsB_take_le (l : List Opt) (i : Nat) : (optsB (l.take i)).length ≤ (optsB l).length := by
  have : optsB l = optsB (l.take i) ++ optsB (l.drop i) := by rw [← optsB_app, List.take_append_drop]
  rw [this, List.length_append]; omega
theorem getD_mem' {α : Type} {l : List α} {i : Nat} {d : α} (h : i < l.length) : l.getD i d ∈ l := by
  rw [List.getD_eq_getElem?_getD, List.getElem?_eq_getElem h]; exact List.getElem_mem h
theorem putOk_no {l : List Opt} {i : Nat} (h : i < l.length) (hb : okO (l.getD i o0) = false ∨ 40 < (optsB (l.take i)).length + 2 + (l.getD i o0).data.length) : putOk l = false := by
  unfold putOk
  rcases hb with hb | hb
  · have : l.all okO = false := by rw [List.all_eq_false]; exact ⟨_, getD_mem' h, by rw [hb]; simp⟩
    rw [this]; rfl
  · have h1 := optsB_take_le l (i + 1)
    rw [optsB_take_succ h, List.length_append, optB_len] at h1
    have : ¬ (optsB l).length ≤ 40 := by omega
    simp [this]
theorem putOk_yes {l : List Opt} (h1 : l.all okO = true) (h2 : (optsB l).length ≤ 40) : putOk l = true := by simp [putOk, h1, h2]
theorem putOk_long {l : List Opt} (h2 : 40 < (optsB l).length) : putOk l = false := by
  have : ¬ (optsB l).length ≤ 40 := by omega
  simp [putOk, this]
theorem all_take_succ {l : List Opt} {i : Nat} (h : i < l.length) (h1 : (l.take i).all okO = true) (h2 : okO (l.getD i o0) = true) : (l.take (i + 1)).all okO = true := by
  rw [take_succ_getD h (d := o0), List.all_append, h1]
  simp only [List.all_cons, List.all_nil, h2]; rfl
theorem pad4_of {b out : List Int} {m : Nat} (h : out = b ++ List.replicate m 0) (hm : m ≤ (4 - b.length % 4) % 4) (h4 : out.length % 4 = 0) : out = pad4 b := by
  have hl : out.length = b.length + m := by rw [h]; simp
  have : m = (4 - b.length % 4) % 4 := by omega
  rw [h, this]; rfl
theorem pad4_len (b : List Int) : (pad4 b).length % 4 = 0 ∧ (pad4 b).length = b.length + (4 - b.length % 4) % 4 := by
  have h : (pad4 b).length = b.length + (4 - b.length % 4) % 4 := by simp [pad4]
  exact ⟨by omega, h⟩
theorem putL_len (l : List Opt) : (putL l).length ≤ 40 ∧ (putL l).length % 4 = 0 := by
  unfold putL
  split
  · rename_i h
    have h2 : (optsB l).length ≤ 40 := by simp [putOk] at h; exact h.2
    have := pad4_len (optsB l)
    omega
  · exact ⟨Nat.zero_le _, rfl⟩
theorem rep_succ (m : Nat) (b : List Int) : (b ++ List.replicate m 0) ++ [0] = b ++ List.replicate (m + 1) (0 : Int) := by
  rw [List.append_assoc, List.replicate_succ']

theorem OSs.len {N : List Nat} {w : World} {ds : List Value} {os : List Opt} (h : OSs N w ds os) : ds.length = os.length := by
  have := BSs.len h; simpa using this
theorem OSs.at {N : List Nat} {w : World} {ds : List Value} {os : List Opt} {i : Nat} (h : OSs N w ds os) (hi : i < os.length) : ∃ p, ds[i]? = some p ∧ BS N w p (os.getD i o0).data := by
  obtain ⟨p, h1, h2⟩ := BSs.at h (i := i) (by simpa using hi)
  refine ⟨p, h1, ?_⟩
  have e : (os.map Opt.data).getD i [] = (os.getD i o0).data := by
    simp [List.getD_eq_getElem?_getD, List.getElem?_eq_getElem hi]
  rwa [e] at h2
theorem OSs.lt {N : List Nat} {w : World} {ds : List Value} {os : List Opt} {i : Nat} (h : OSs N w ds os) (hi : i < os.length) : (i : Int).toNat * 2 < (optC os ds).length := by
  rw [optC_len h.len]; simp; omega
theorem OSs.k0 {N : List Nat} {w : World} {ds : List Value} {os : List Opt} {i : Nat} {p : Value} (h : OSs N w ds os) (hi : i < os.length) (hp : ds[i]? = some p) : (optC os ds)[(i : Int).toNat * 2 + 0]? = some (i64 (os.getD i o0).kind) := (optC_at hi hp).1
theorem OSs.k1 {N : List Nat} {w : World} {ds : List Value} {os : List Opt} {i : Nat} {p : Value} (h : OSs N w ds os) (hi : i < os.length) (hp : ds[i]? = some p) : (optC os ds)[(i : Int).toNat * 2 + 1]? = some p := (optC_at hi hp).2
theorem OSs.two {N : List Nat} {w : World} {ds : List Value} {os : List Opt} {i : Nat} {p : Value} (h : OSs N w ds os) (hi : i < os.length) (hp : ds[i]? = some p) :
    (i : Int).toNat * 2 + 2 ≤ (optC os ds).length ∧ ((optC os ds).drop ((i : Int).toNat * 2)).take 2 = [i64 (os.getD i o0).kind, p] := by
  have h1 := optC_len h.len
  obtain ⟨h2, h3⟩ := optC_at hi hp
  have e : (i : Int).toNat = i := rfl
  rw [e]
  refine ⟨by omega, ?_⟩
  have hl : i * 2 + 1 < (optC os ds).length := by omega
  rw [List.getElem?_eq_getElem (by omega)] at h2
  rw [List.getElem?_eq_getElem hl] at h3
  simp only [Option.some.injEq] at h2 h3
  rw [List.drop_eq_getElem_cons (by omega), List.drop_eq_getElem_cons hl, h2, h3]
  rfl
end Go.Proofs.YtkahmepenjhcpaaDoor.W
