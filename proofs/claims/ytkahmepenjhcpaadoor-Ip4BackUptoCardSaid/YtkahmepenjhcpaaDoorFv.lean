/- The base of this seat's proofs, fifteenth part: bytes of a constant string. No statement of the seat is proved here. -/
import Derived.Test.YtkahmepenjhcpaaDoorFu
import Derived.Lib.SlBytesConst
namespace Go.Proofs.YtkahmepenjhcpaaDoor.W
open Go
set_option linter.unusedVariables false
set_option linter.unusedSimpArgs false

section op
variable {P : Program} {R : Qp} {ds : List Deferred} {n : Nat} {l : Env} {k : List KI} {w w0 : World} {ops : Array Oper} {os : List Oper}
variable {d d1 : Nat} {ty ty1 : TypeId} {ps ps1 : String} {af af1 : Array Edge} {N0 : List Nat} {L : List Own}

/-- given elements in a new row, the world told -/
theorem bslX {T E : TypeId} {sz by_ len : Nat} {zc c : List Value} {parts : List (Nat × Operand)} {qs : List (Nat × List Value)} (hE : ElT P T E sz by_ zc)
    (hp : Pts l [] (fun i => some (i * sz, sz)) parts qs) (hlen : Nat.ble (len * sz) 16777216 = true)
    (hf : fillN (List.replicate len zc).flatten qs = some c) (hn : Nat.blt d n = true)
    (h : Ro P R ds n ops ((d, [], .slice (some ⟨w.heap.size, 0, none⟩) len len) :: l) os k (w.alloc (.cells c.toArray E))) :
    Ro P R ds n ops l ({ dst := some d, op := .buildSlice T len parts.toArray, type := ty, pos := ps, after := af, guard := none } :: os) k w := by
  have hlen' : len * sz ≤ 16777216 := Nat.le_of_ble_eq_true hlen
  have hzl : ((List.replicate len zc).flatten).length = len * sz := by simp [hE.l]
  have hz : (Array.range (len * sz)).map (fun i => zc.toArray[i % zc.length]!) = ((List.replicate len zc).flatten).toArray := by
    have := range_rep zc (by rw [hE.l]; exact hE.p) len
    rwa [hE.l] at this ⊢
  generalize (List.replicate len zc).flatten = zs at hf hzl hz
  obtain ⟨i, z, g1, g2, g3, g4, g5⟩ := hE.get
  refine opw rfl rfl hn ?_ h
  intro a ha
  have hfr := fill_run _ qs zs c (Pts.get ha (show allT [] from trivial) hp) hf
  have e : (parts.toArray.map fun x => (x.1, a.eval x.2)).toList = parts.map fun p => (p.1, a.eval p.2) := by simp
  have hzc : z.cells = zc.toArray := by rw [← g5]
  have hbig : ¬ (16777216 < len * sz) := by omega
  simp only [execOp, Instr.buildSlice, Sem.run_bind, run_underlying hE.u, Result.andThen_ok, sizeOf, typeInfo, run_program, g1, Sem.run_pure, g2]
  by_cases h0 : len * sz = 0
  · have hzs : zs = [] := List.eq_nil_of_length_eq_zero (by omega)
    subst hzs
    simp [h0, newRow, Array.range_zero'] at *
    rw [hfr]
    simp
  · simp only [hbig, h0, if_false, Sem.run_ite, zeroValue, typeInfo, Sem.run_bind, run_program, Result.andThen_ok, g1, g4, Sem.run_pure, hzc]
    have e2 : (Array.range (len * sz)).map (fun x => zc.toArray[x % zc.toArray.size]!) = zs.toArray := by rw [← hz]; simp
    simp only [gt_iff_lt, Nat.reducePow, hbig, if_false, Sem.run_pure, Result.andThen_ok, e2]
    rw [e, hfr]
    simp [newRow]

/-- the bytes of a constant string: a new, marked row -/
theorem bsk {T : TypeId} {zc : List Value} {len : Nat} {b : List Int} {parts : List (Nat × Operand)} {qs : List (Nat × List Value)} (hE : ElT P T 5 1 1 zc) (h8 : P.underlying 5 = some (.int .u8)) (hb : byt b)
    (hp : Pts l [] (fun i => some (i * 1, 1)) parts qs) (hlen : Nat.ble (len * 1) 16777216 = true)
    (hf : fillN (List.replicate len zc).flatten qs = some (b.map u8)) (hl : b.length = len) (hn1 : Nat.blt d1 n = true) (hn : Nat.blt d n = true) (h0 : len ≠ 0) (S : St N0 w0 L w)
    (h : ∀ u v w', St N0 w0 L w' → Bl w w' → (∀ N, (∀ i ∈ N, i < w.heap.size) → BS N w' v b) → Ro P R ds n ops ((d, [], v) :: (d1, [], u) :: l) os k w') :
    Ro P R ds n ops l ({ dst := some d1, op := .buildSlice T len parts.toArray, type := ty1, pos := ps1, after := af1, guard := none } ::
      { dst := some d, op := .convert T T (.tmp d1), type := ty, pos := ps, after := af, guard := none } :: os) k w := by
  refine bslX hE hp hlen hf hn1 ?_
  have hB : Bl w (w.alloc (.cells (b.map u8).toArray 5 ((b.map u8).toArray.size, (b.map u8).toArray.size + 1))) := bl_alloc w _
  refine opw (v := .slice (some ⟨w.heap.size, 0, none⟩) len len) rfl rfl hn ?_ (h (.slice (some ⟨w.heap.size, 0, none⟩) len len) (.slice (some ⟨w.heap.size, 0, none⟩) len len) _ (S.call hB) hB ?_)
  · intro a ha
    have he : a.eval (.tmp d1) = .slice (some ⟨w.heap.size, 0, none⟩) len len := ha.eval (x := .tmp d1) (g := []) (by simp [ev, lk]) trivial
    simp only [execOp, he]
    rw [Sem.run_bind, Lib.run_convert_bytes_const w T 5 _ len len hE.u h8]
    rfl
  · intro N hN
    refine ⟨hb, by simp [hl], some ⟨w.heap.size, 0, none⟩, len, by rw [hl], by omega, (fun e => nomatch e), ?_⟩
    intro i hi
    refine ⟨_, rfl, rfl, fun hh => by have := hN _ hh; simp at this, ?_⟩
    have : (w.alloc (.cells (b.map u8).toArray 5 ((b.map u8).toArray.size, (b.map u8).toArray.size + 1))).heap[w.heap.size]? = some (.cells (b.map u8).toArray 5 ((b.map u8).toArray.size, (b.map u8).toArray.size + 1)) := by
      show (w.heap.push _)[w.heap.size]? = _
      simp
    simp only [Nat.zero_add]
    unfold World.cell?
    simp only [this]
    simp only [List.getElem?_toArray]
    rw [List.getElem?_eq_getElem hi]
    rfl
end op
end Go.Proofs.YtkahmepenjhcpaaDoor.W
