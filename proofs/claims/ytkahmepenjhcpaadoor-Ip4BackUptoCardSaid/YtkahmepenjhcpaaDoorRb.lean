/- What the reading of a datagram gives. No statement of the seat is proved here. -/
import Derived.Test.YtkahmepenjhcpaaDoorRa
namespace Go.Proofs.YtkahmepenjhcpaaDoor.W
open Go
set_option linter.unusedVariables false
set_option linter.unusedSimpArgs false

section
variable {H : Type} {enc : TypeId × Value → H} {W : World} {hd : Bool} {n : Nat} {cs : List Value} {x : DataW H × List MemPlace}

theorem cut_at {l : List Value} {a k : Nat} {p : List Value} (h : (l.drop a).take k = p) : l.drop a = p ++ l.drop (a + k) := by
  rw [← h, ← List.drop_drop, List.take_append_drop]

/-- a datagram, read -/
theorem rd_ip4 (h : DataW.trod enc Tryd.prog W 0 (fun _ => true) hd n 28 cs = some x) : ∃ (a : Ip4) (o d : Value), cs = encIp4 a o d ∧ OS [] W o a.opts ∧ BS [] W d a.data ∧ a.ok ∧ a.opts.length ≤ Rows.uptoBulk x.1 ∧ (∀ p ∈ a.opts, p.data.length ≤ Rows.uptoBulk x.1) ∧ a.data.length ≤ Rows.uptoBulk x.1 := by
  have hl := rd_len Tryd.underlying28 h
  rw [cells28] at hl
  obtain ⟨y0, k0, g0, b0⟩ := rd_field Tryd.underlying28 h 0 (ft := 3) (off := 0) rfl cells3
  obtain ⟨y1, k1, g1, b1⟩ := rd_field Tryd.underlying28 h 1 (ft := 3) (off := 1) rfl cells3
  obtain ⟨y2, k2, g2, b2⟩ := rd_field Tryd.underlying28 h 2 (ft := 4) (off := 2) rfl cells4
  obtain ⟨y3, k3, g3, b3⟩ := rd_field Tryd.underlying28 h 3 (ft := 4) (off := 3) rfl cells4
  obtain ⟨y4, k4, g4, b4⟩ := rd_field Tryd.underlying28 h 4 (ft := 3) (off := 4) rfl cells3
  obtain ⟨y5, k5, g5, b5⟩ := rd_field Tryd.underlying28 h 5 (ft := 3) (off := 5) rfl cells3
  obtain ⟨y6, k6, g6, b6⟩ := rd_field Tryd.underlying28 h 6 (ft := 3) (off := 6) rfl cells3
  obtain ⟨y7, k7, g7, b7⟩ := rd_field Tryd.underlying28 h 7 (ft := 24) (off := 7) rfl cells24
  obtain ⟨y8, k8, g8, b8⟩ := rd_field Tryd.underlying28 h 8 (ft := 24) (off := 24) rfl cells24
  obtain ⟨y9, k9, g9, b9⟩ := rd_field Tryd.underlying28 h 9 (ft := 25) (off := 41) rfl cells25
  obtain ⟨ya, ka, ga, ba⟩ := rd_field Tryd.underlying28 h 10 (ft := 26) (off := 42) rfl cells26
  obtain ⟨v0, e0, i0⟩ := rd_int g0
  obtain ⟨v1, e1, i1⟩ := rd_int g1
  obtain ⟨v2, e2⟩ := rd_bool g2
  obtain ⟨v3, e3⟩ := rd_bool g3
  obtain ⟨v4, e4, i4⟩ := rd_int g4
  obtain ⟨v5, e5, i5⟩ := rd_int g5
  obtain ⟨v6, e6, i6⟩ := rd_int g6
  obtain ⟨v7, e7, i7⟩ := rd_ip g7
  obtain ⟨v8, e8, i8⟩ := rd_ip g8
  have h9 : ∃ o, (cs.drop 41).take 1 = [o] := by
    rcases hc : cs.drop 41 with _ | ⟨o, r⟩
    · have := congrArg List.length hc; simp at this; omega
    · exact ⟨o, rfl⟩
  have ha : ∃ o, (cs.drop 42).take 1 = [o] := by
    rcases hc : cs.drop 42 with _ | ⟨o, r⟩
    · have := congrArg List.length hc; simp at this; omega
    · exact ⟨o, rfl⟩
  obtain ⟨o, e9⟩ := h9
  obtain ⟨d, ea⟩ := ha
  rw [e9] at g9
  rw [ea] at ga
  obtain ⟨os, hO, ho1, ho2⟩ := rd_opts g9
  obtain ⟨l, hB, hl2⟩ := rd_bytes ga
  refine ⟨⟨v0, v1, v2, v3, v4, v5, v6, v7, v8, os, l⟩, o, d, ?_, hO, hB, ⟨i0, i1, i4, i5, i6, i7, i8, fun p hp => (ho2 p hp).1⟩, by show os.length ≤ _; omega, fun p hp => by have := (ho2 p hp).2; omega, by show l.length ≤ _; omega⟩
  have c0 := cut_at e0
  rw [List.drop_zero] at c0
  rw [c0, cut_at e1, cut_at e2, cut_at e3, cut_at e4, cut_at e5, cut_at e6, cut_at e7, cut_at e8, cut_at e9, cut_at ea, List.drop_eq_nil_of_le (by omega)]
  simp [encIp4]
end
end Go.Proofs.YtkahmepenjhcpaaDoor.W
