/- The base of this seat's proofs, fourteenth part: the package's own tables. No statement of the seat is proved here. -/
import Derived.Test.YtkahmepenjhcpaaDoorFt
namespace Go.Proofs.YtkahmepenjhcpaaDoor.W
open Go
set_option linter.unusedVariables false
set_option linter.unusedSimpArgs false

/-- a package's table, as it was laid -/
def GV (N : List Nat) (w : World) (g : Nat) (T : TypeId) (c : List Value) : Prop := Rd N w (some ⟨g, 0, none⟩) c
theorem GV.st {N0 : List Nat} {w0 w : World} {L : List Own} {g : Nat} {T : TypeId} {c : List Value} (h : GV N0 w0 g T c) (S : St N0 w0 L w) : GV (idsL L) w g T c := Rd.st h S
theorem GV.now {N0 : List Nat} {w0 w : World} {L : List Own} {g : Nat} {T : TypeId} {c : List Value} (h : GV N0 w0 g T c) (S : St N0 w0 L w) : GV [] w g T c := Rd.now h S
theorem GV.bl {N : List Nat} {w w' : World} {g : Nat} {T : TypeId} {c : List Value} (h : GV N w g T c) (B : Bl w w') : GV N w' g T c := Rd.bl h B

theorem ldG {P : Program} {R : Qp} {ds : List Deferred} {n : Nat} {l : Env} {k : List KI} {w w0 : World} {ops : Array Oper} {os : List Oper} {d : Nat} {ty : TypeId} {ps : String} {af : Array Edge} {N0 : List Nat} {L : List Own}
    {T : TypeId} {sz : Nat} {zc : List Value} {g : Nat} {c : List Value} (hg : GV N0 w0 g T c) (S : St N0 w0 L w) (hT : TyI P T sz true zc) (hl : c.length = sz) (hn : Nat.blt d n = true)
    (h : Ro P R ds n ops ((d, [], .agg c.toArray) :: l) os k w) :
    Ro P R ds n ops l ({ dst := some d, op := .load T (.global g), type := ty, pos := ps, after := af, guard := none } :: os) k w := by
  obtain ⟨i, z, dd, h1, h2, h3, h4, h5, h6⟩ := hT.get
  refine opw rfl rfl hn ?_ h
  intro a ha
  subst hl
  have hv : Rd [] w (some ⟨g, 0, none⟩) c := hg.now S
  have hl := run_loadCells_list (P := P) (w := w) ⟨g, 0, none⟩ c (hv.cells)
  have he : a.eval (.global g) = .pointer (some ⟨g, 0, none⟩) := rfl
  simp only [execOp, he, Instr.loadAt, Instr.sureAddr, loadVar, isAgg]
  cases dd <;> simp [aggD] at h6 <;> simp [run_underlying h5, sizeOf, typeInfo, h1, h2, hl]
/-- an element of a row of one's own, in every world of a class -/
theorem qldR {P : Program} {R : Qp} {ds : List Deferred} {n : Nat} {l : Env} {k : List KI} {w0 : World} {C : World → Prop} {ops : Array Oper} {os : List Oper} {d : Nat} {G gx ex : Gs} {ty : TypeId} {ps : String} {af : Array Edge} {gu : Option (Nat × Bool)} {x : Operand} {N0 : List Nat} {L : List Own}
    {T T' : TypeId} {sz tsz m j i : Nat} {zc : List Value} {v u : Value} {cs : List Value} (hx : ev l x = some (gx, eP v j)) (S : ∀ w, C w → St N0 w0 L w) (hk : getN L i = some (.row v T' sz m cs)) (hT : TyI P T tsz false zc) (hG : gd ops l gu = some G) (hpx : G = gx ++ ex) (hn : Nat.blt d n = true)
    (hv : allT G → cs[j]? = some u) (h : Qo P R ds n ops C ((d, G, u) :: l) os k) :
    Qo P R ds n ops C l ({ dst := some d, op := .load T x, type := ty, pos := ps, after := af, guard := gu } :: os) k := by
  obtain ⟨i, z, dd, h1, h2, h3, h4, h5, h6⟩ := hT.get
  refine qopv hG rfl hn ?_ h
  intro hT' w hw a ha
  have hu := hv hT'
  have hj : j < cs.length := by
    rcases Nat.lt_or_ge j cs.length with h | h
    · exact h
    · rw [List.getElem?_eq_none h] at hu; cases hu
  obtain ⟨A, cap, rfl, hsp, he, hc, hb⟩ := ((S w hw).slI hk).some hj
  have hc' : w.cell? ⟨A.block, A.off + j, none⟩ = some u := by
    rw [hc, ← hu, List.getElem?_eq_getElem hj]
  simp only [execOp, ha.eval hx (pre_T hpx hT'), he, Instr.loadAt, Instr.sureAddr, loadVar, isAgg]
  cases dd <;> simp [aggD] at h6 <;> simp [run_underlying h5, hc']
end Go.Proofs.YtkahmepenjhcpaaDoor.W
