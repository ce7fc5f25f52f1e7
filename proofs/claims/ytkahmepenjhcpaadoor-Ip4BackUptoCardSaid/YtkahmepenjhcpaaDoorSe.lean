/- Plain facts on headers: what the fields of a datagram's first twelve bytes are. No program walked here; no statement of the seat is proved here. -/
import Derived.Test.YtkahmepenjhcpaaDoorSd
namespace Go.Proofs.YtkahmepenjhcpaaDoor.W
set_option linter.unusedVariables false
set_option linter.unusedSimpArgs false

def totI (b : List Int) : Int := b.getD 2 0 * 256 + b.getD 3 0
def offW (b : List Int) : Int := b.getD 6 0 % 32 * 256 + b.getD 7 0
theorem fv16 {l : List Int} (j : Nat) (h : ∀ k, 0 ≤ l.getD k 0 ∧ l.getD k 0 < 256) : fv l (8 * j) 16 = l.getD j 0 * 256 + l.getD (j + 1) 0 := by
  have e := fv_add l (8 * j) 8 8
  rw [show (8 + 8 : Nat) = 16 from rfl, fv8 j (h j), show 8 * j + 8 = 8 * (j + 1) from by omega, fv8 (j + 1) (h (j + 1))] at e
  rw [e]; rfl
theorem fields_ip4 {b : List Int} (h : ∀ k, 0 ≤ b.getD k 0 ∧ b.getD k 0 < 256) : fieldsS b 0 [4, 4, 8, 16, 16, 1, 1, 1, 13, 8, 8, 16] =
    [b.getD 0 0 / 16, b.getD 0 0 % 16, b.getD 1 0, totI b, b.getD 4 0 * 256 + b.getD 5 0, b.getD 6 0 / 128, b.getD 6 0 / 64 % 2, b.getD 6 0 / 32 % 2, offW b, b.getD 8 0, b.getD 9 0, b.getD 10 0 * 256 + b.getD 11 0] := by
  have e0 := fvp (l := b) 0 0 4 (h 0) (by omega)
  have e1 := fvp (l := b) 0 4 4 (h 0) (by omega)
  have e2 := fv8 (l := b) 1 (h 1)
  have e3 := fv16 (l := b) 2 h
  have e4 := fv16 (l := b) 4 h
  have e5 := fvp (l := b) 6 0 1 (h 6) (by omega)
  have e6 := fvp (l := b) 6 1 1 (h 6) (by omega)
  have e7 := fvp (l := b) 6 2 1 (h 6) (by omega)
  have e8 := fv_add b 51 5 8
  have e8a := fvp (l := b) 6 3 5 (h 6) (by omega)
  have e8b := fv8 (l := b) 7 (h 7)
  have e9 := fv8 (l := b) 8 (h 8)
  have e10 := fv8 (l := b) 9 (h 9)
  have e11 := fv16 (l := b) 10 h
  have g0 := h 0
  have g6 := h 6
  simp only [Nat.mul_zero, Nat.add_zero, Nat.zero_add, Nat.reduceMul, Nat.reduceAdd, Nat.reduceSub, Int.reducePow] at e0 e1 e2 e3 e4 e5 e6 e7 e8 e8a e8b e9 e10 e11
  simp only [fieldsS, Int.reduceToNat, Int.toNat_one, Nat.zero_add, Nat.reduceAdd, e0, e1, e2, e3, e4, e5, e6, e7, e8, e8a, e8b, e9, e10, e11, Int.ediv_one, List.cons.injEq, and_true, totI, offW]
  refine ⟨?_, trivial, trivial, trivial, trivial, ?_⟩ <;> omega
end Go.Proofs.YtkahmepenjhcpaaDoor.W
