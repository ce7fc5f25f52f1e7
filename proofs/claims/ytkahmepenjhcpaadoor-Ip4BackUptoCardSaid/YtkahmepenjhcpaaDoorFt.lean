/- The base of this seat's proofs, thirteenth part: what is new is apart from what was. No statement of the seat is proved here. -/
import Derived.Test.YtkahmepenjhcpaaDoorFs
namespace Go.Proofs.YtkahmepenjhcpaaDoor.W
open Go
set_option linter.unusedVariables false

section
variable {N0 N1 N : List Nat} {w0 w w' : World} {L : List Own}
theorem Rd.stN {A : Option Addr} {cs : List Value} (h : Rd N1 w0 A cs) (hN : ∀ i ∈ N0, i ∈ N1) (S : St N0 w0 L w) : Rd (idsL L ++ N1) w A cs := by
  intro i hi
  obtain ⟨a, h1, h2, h3, h4⟩ := h i hi
  have hlt := cell_lt h4
  have h3' : a.block ∉ N0 := fun hh => h3 (hN _ hh)
  exact ⟨a, h1, h2, fun hh => by
    rcases List.mem_append.1 hh with hh | hh
    · exact S.off _ hlt h3' hh
    · exact h3 hh, (cell_congr (S.keep _ hlt h3')).trans h4⟩
theorem Sl.stN {sz n : Nat} {v : Value} {cs : List Value} (h : Sl N1 w0 sz v n cs) (hN : ∀ i ∈ N0, i ∈ N1) (S : St N0 w0 L w) : Sl (idsL L ++ N1) w sz v n cs :=
  let ⟨h0, A, cap, h1, h2, h3, h4⟩ := h; ⟨h0, A, cap, h1, h2, h3, h4.stN hN S⟩
theorem BS.stN {v : Value} {l : List Int} (h : BS N1 w0 v l) (hN : ∀ i ∈ N0, i ∈ N1) (S : St N0 w0 L w) : BS (idsL L ++ N1) w v l := ⟨h.1, h.2.stN hN S⟩
theorem BSs.stN (hN : ∀ i ∈ N0, i ∈ N1) (S : St N0 w0 L w) : ∀ {vs : List Value} {ls : List (List Int)}, BSs N1 w0 vs ls → BSs (idsL L ++ N1) w vs ls
  | [], [], h => h
  | [], _ :: _, h => h.elim
  | _ :: _, [], h => h.elim
  | _ :: _, _ :: _, h => ⟨h.1.stN hN S, BSs.stN hN S h.2⟩
theorem OSs.stN (hN : ∀ i ∈ N0, i ∈ N1) (S : St N0 w0 L w) {vs : List Value} {os : List Opt} (h : OSs N1 w0 vs os) : OSs (idsL L ++ N1) w vs os := BSs.stN hN S h
theorem OSs.bl {vs : List Value} {os : List Opt} (h : OSs N w vs os) (B : Bl w w') : OSs N w' vs os := BSs.bl B h
theorem OSs.weak {vs : List Value} {os : List Opt} (h : OSs N1 w vs os) (hN : ∀ i ∈ N, i ∈ N1) : OSs N w vs os := BSs.weak hN h
theorem FB.bs {v : Value} {l : List Int} (h : FB w w' v l) (hb : byt l) (hN : ∀ i ∈ N, i < w.heap.size) : BS N w' v l :=
  ⟨hb, Own.sl h.2.1 N (fun i hi hn => by have h1 := h.2.2 i hi; have h2 := hN i hn; omega)⟩
/-- new options, to be read -/
def FOS (w w' : World) (v : Value) (os : List Opt) : Prop := Bl w w' ∧ ∀ N, (∀ i ∈ N, i < w.heap.size) → OS N w' v os
theorem below_app (S : St [] w0 L w) (hN : ∀ i ∈ N, i < w0.heap.size) : ∀ i ∈ idsL L ++ N, i < w.heap.size := by
  intro i hi
  rcases List.mem_append.1 hi with h | h
  · exact S.lt i h
  · have h1 := hN i h; have h2 := S.size; omega
theorem St.toFOS {v : Value} {os : List Opt} {ds : List Value} {i : Nat} (S : St [] w0 L w) (hk : getN L i = some (oO v os ds)) (h : ∀ N, (∀ i ∈ N, i < w0.heap.size) → OSs N w ds os) : FOS w0 w v os :=
  ⟨S.bl, fun N hN => ⟨ds, Own.sl (S.rowI hk) N (fun j hj hn => by have h1 := S.fresh hk j hj; have h2 := hN j hn; omega), h N hN⟩⟩
end
end Go.Proofs.YtkahmepenjhcpaaDoor.W
