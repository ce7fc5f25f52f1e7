/- Plain facts on headers: the bits and the bytes of a datagram's first twelve. No program walked here; no statement of the seat is proved here. -/
import Derived.Test.YtkahmepenjhcpaaDoorSb
namespace Go.Proofs.YtkahmepenjhcpaaDoor.W
set_option linter.unusedVariables false
set_option linter.unusedSimpArgs false

/-- all bits of bytes -/
def bitsB : List Int → List Int
  | [] => []
  | b :: r => bitsOf b 8 ++ bitsB r
theorem bitsB_app : ∀ a b : List Int, bitsB (a ++ b) = bitsB a ++ bitsB b
  | [], b => rfl
  | x :: a, b => by simp [bitsB, bitsB_app a b]
theorem bitsB_len : ∀ l : List Int, (bitsB l).length = 8 * l.length
  | [] => rfl
  | b :: r => by simp [bitsB, bitsB_len r, bitsOf_len]; omega
theorem bitsB_at : ∀ (l : List Int) (k : Nat), k < 8 * l.length → (bitsB l).getD k 0 = bitAt l k
  | [], k, h => by simp at h
  | b :: r, k, h => by
    unfold bitsB
    rcases Nat.lt_or_ge k 8 with h8 | h8
    · have e : (bitsOf b 8 ++ bitsB r).getD k 0 = (bitsOf b 8).getD k 0 := by
        rw [List.getD_eq_getElem?_getD, List.getElem?_append_left (by rw [bitsOf_len]; exact h8), List.getD_eq_getElem?_getD]
      rw [e, bitsOf_at b 8 k h8]
      unfold bitAt
      rw [Nat.div_eq_of_lt h8, Nat.mod_eq_of_lt h8]
      rfl
    · have e : (bitsOf b 8 ++ bitsB r).getD k 0 = (bitsB r).getD (k - 8) 0 := by
        rw [List.getD_eq_getElem?_getD, List.getElem?_append_right (by rw [bitsOf_len]; exact h8), bitsOf_len, List.getD_eq_getElem?_getD]
      rw [e, bitsB_at r (k - 8) (by simp only [List.length_cons] at h; omega)]
      unfold bitAt
      obtain ⟨q, rfl⟩ : ∃ q, k = q + 8 := ⟨k - 8, by omega⟩
      have e1 : (q + 8) / 8 = q / 8 + 1 := by omega
      have e2 : (q + 8) % 8 = q % 8 := by omega
      rw [Nat.add_sub_cancel, e1, e2]
      rfl
theorem bits_of_eq {out l P : List Int} {nb : Nat} (h1 : out.length = nb) (h2 : ∀ x ∈ out, 0 ≤ x ∧ x < 256) (h4 : ∀ k, k < 8 * nb → bitAt out k = P.getD k 0) (hl : l.length = nb) (hb : ∀ x ∈ l, 0 ≤ x ∧ x < 256) (hP : bitsB l = P) : out = l := by
  refine bits_ext (by omega) h2 hb (fun k hk => ?_)
  rw [h4 k (by omega), ← hP, bitsB_at l k (by omega)]

theorem bitsOf_16 {v : Int} (h : 0 ≤ v ∧ v < 65536) : bitsOf v 16 = bitsB [v / 256, v % 256] := by
  simp only [bitsB, bitsOf, List.append_nil, List.nil_append, List.cons_append, List.cons.injEq, and_true]
  refine ⟨?_, ?_, ?_, ?_, ?_, ?_, ?_, ?_, ?_, ?_, ?_, ?_, ?_, ?_, ?_, ?_⟩ <;> omega
theorem bitsOf_8 {v : Int} : bitsOf v 8 = bitsB [v] := by simp [bitsB]
theorem bitsOf_44 {a b : Int} (ha : 0 ≤ a ∧ a < 16) (hb : 0 ≤ b ∧ b < 16) : bitsOf a 4 ++ bitsOf b 4 = bitsB [a * 16 + b] := by
  simp only [bitsB, bitsOf, List.append_nil, List.nil_append, List.cons_append, List.cons.injEq, and_true]
  refine ⟨?_, ?_, ?_, ?_, ?_, ?_, ?_, ?_⟩ <;> omega
theorem bitsOf_flags {r a b c : Int} (hr : r = 0) (ha : 0 ≤ a ∧ a ≤ 1) (hb : 0 ≤ b ∧ b ≤ 1) (hc : 0 ≤ c ∧ c < 8192) : bitsOf r 1 ++ (bitsOf a 1 ++ (bitsOf b 1 ++ bitsOf c 13)) = bitsB [a * 64 + b * 32 + c / 256, c % 256] := by
  subst hr
  simp only [bitsB, bitsOf, List.append_nil, List.nil_append, List.cons_append, List.cons.injEq, and_true]
  refine ⟨?_, ?_, ?_, ?_, ?_, ?_, ?_, ?_, ?_, ?_, ?_, ?_, ?_, ?_, ?_, ?_⟩ <;> omega
/-- the first twelve bytes, the sum's place empty -/
def hdr12 (head tos total id : Int) (df mf : Int) (off ttl proto : Int) : List Int :=
  [4 * 16 + head, tos, total / 256, total % 256, id / 256, id % 256, df * 64 + mf * 32 + off / 256, off % 256, ttl, proto, 0, 0]
theorem hdr12_bits {head tos total id df mf off ttl proto : Int} (h1 : 0 ≤ head ∧ head < 16) (h3 : 0 ≤ total ∧ total < 65536) (h4 : 0 ≤ id ∧ id < 65536) (h5 : 0 ≤ df ∧ df ≤ 1) (h6 : 0 ≤ mf ∧ mf ≤ 1) (h7 : 0 ≤ off ∧ off < 8192) :
    bitsB (hdr12 head tos total id df mf off ttl proto) = strm [4, 4, 8, 16, 16, 1, 1, 1, 13, 8, 8, 16] [4, head, tos, total, id, 0, df, mf, off, ttl, proto, 0] := by
  have e : strm [4, 4, 8, 16, 16, 1, 1, 1, 13, 8, 8, 16] [4, head, tos, total, id, 0, df, mf, off, ttl, proto, 0] =
      (bitsOf 4 4 ++ bitsOf head 4) ++ (bitsOf tos 8 ++ (bitsOf total 16 ++ (bitsOf id 16 ++ ((bitsOf 0 1 ++ (bitsOf df 1 ++ (bitsOf mf 1 ++ bitsOf off 13))) ++ (bitsOf ttl 8 ++ (bitsOf proto 8 ++ bitsOf 0 16)))))) := by
    simp [strm, List.append_assoc]
  rw [e, bitsOf_44 (by omega) h1, bitsOf_8, bitsOf_16 h3, bitsOf_16 h4, bitsOf_flags rfl h5 h6 h7, bitsOf_8, bitsOf_8, bitsOf_16 (by omega)]
  simp only [← bitsB_app]
  rfl
end Go.Proofs.YtkahmepenjhcpaaDoor.W
