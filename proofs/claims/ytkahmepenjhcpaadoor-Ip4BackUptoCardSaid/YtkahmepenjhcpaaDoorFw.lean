/- The base of this seat's proofs, sixteenth part: a guard that is known. No statement of the seat is proved here. -/
import Derived.Test.YtkahmepenjhcpaaDoorFv
namespace Go.Proofs.YtkahmepenjhcpaaDoor.W
open Go
set_option linter.unusedVariables false

/-- an operation whose guard is met goes as if it had none -/
theorem Ro.gtrue {P : Program} {R : Qp} {ds : List Deferred} {n : Nat} {l : Env} {k : List KI} {w : World} {ops : Array Oper} {os : List Oper} {dst : Option Tmp} {op : Op} {ty : TypeId} {ps : String} {af : Array Edge} {gu : Option (Nat × Bool)} {G : Gs}
    (hG : gd ops l gu = some G) (hT : allT G) (h : Ro P R ds n ops l ({ dst := dst, op := op, type := ty, pos := ps, after := af, guard := none } :: os) k w) :
    Ro P R ds n ops l ({ dst := dst, op := op, type := ty, pos := ps, after := af, guard := gu } :: os) k w := by
  intro a ha
  have q := h a ha
  have hw : Region.wanted { dst := dst, op := op, type := ty, pos := ps, after := af, guard := gu } (yielded ops a.tmps) = true := by
    rw [gd_wanted ha (o := { dst := dst, op := op, type := ty, pos := ps, after := af, guard := gu }) hG]; exact (allB_iff G).2 hT
  simp only [wpList] at q ⊢
  rw [if_pos hw]
  rw [if_pos (by rfl)] at q
  exact q
/-- what was asked for under a guard that is met stands as if there were none -/
theorem Ro.strip {P : Program} {R : Qp} {ds : List Deferred} {n : Nat} {l : Env} {k : List KI} {w : World} {ops : Array Oper} {os : List Oper} {d : Nat} {G : Gs} {v : Value}
    (hT : allT G) (h : Ro P R ds n ops ((d, [], v) :: l) os k w) : Ro P R ds n ops ((d, G, v) :: l) os k w := by
  intro a ha
  refine h a ⟨ha.defers, ha.size, ?_⟩
  intro t g u ht
  simp only [lk] at ht
  cases hb : Nat.beq d t with
  | true =>
    rw [hb] at ht
    simp only [cond_true, Option.some.injEq, Prod.mk.injEq] at ht
    obtain ⟨rfl, rfl⟩ := ht
    have := ha.at_ t G v (by simp [lk, hb])
    rw [this, gval_true hT, gval_nil]
  | false =>
    rw [hb] at ht
    exact ha.at_ t g u (by simp only [lk, hb]; exact ht)
end Go.Proofs.YtkahmepenjhcpaaDoor.W
