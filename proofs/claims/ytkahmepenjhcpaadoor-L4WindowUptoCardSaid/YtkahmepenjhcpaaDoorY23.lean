/- weirlaw9.L4Window: what is read of a window stays within it: for every input of bulk at most 1048576, the package variables that it reads being what the program lays. -/
import Derived.Test.YtkahmepenjhcpaaDoorMe
import Derived.Test.YtkahmepenjhcpaaDoorCards
import Derived.Test.YtkahmepenjhcpaaDoorTie
import Derived.Test.YtkahmepenjhcpaaDoorRj
import Derived.WalkKit
import Derived.ProofKit
import Derived.OpenShut
import Derived.Deep.DeepHandedRow
import Derived.Lib.LaidTab
namespace Go.Proofs.YtkahmepenjhcpaaDoor.l4Window
open Go Go.ChangeShapes Go.WideShapes Go.ChangeAt Go.RowKit W
set_option linter.unusedVariables false
set_option linter.unusedSimpArgs false
set_option maxRecDepth 100000

theorem own : ownKnob Tryd.prog.godebug = none := by kernel_rfl
theorem laidOf {W : World} (h : laidMetH Tryd.prog Rows.l4WindowRow.laid W) : laidMet Tryd.prog laid9 W := h

theorem contract (H : Type) (enc : TypeId × Value → H) (W : World) (base : Nat) (args : Array Value) (ds gs : List (DataW H)) (before : List MemPlace)
    (hval : ∀ (j : Nat) t v, Tryd.f23.params[j]? = some t → args[j]? = some v → Value.okWide Tryd.prog W .any base t v)
    (hW : DataW.Whole enc Tryd.prog Tryd.f23.params.toList Rows.l4WindowSpec.vars false W args.toList ds gs before) (hk : Rows.uptoSmall H (ds ++ gs) = true) (hL : laidMetH Tryd.prog Rows.l4WindowRow.laid W) :
    Calls Tryd.prog 23 args W fun e W' => ∃ v, e = .returned v ∧ Rows.l4WindowSpec.post enc Tryd.prog Tryd.f23 false true false false W args v W' := by
  have hW' := hW
  obtain ⟨p, q, hA0, hV, rfl, hfz, hnd⟩ := hW
  have hA : DataW.TrodAll enc Tryd.prog W 0 (fun _ => true) true Tryd.f23.params.toList args.toList ds p := hA0
  rw [Tryd.params23] at hA hval
  obtain ⟨v0, vs0, d0, ds0, p0, q0, hargs, rfl, rfl, h0, r0⟩ := trodAll_cons hA
  obtain ⟨v1, vs1, d1, ds1, p1, q1, e1, rfl, rfl, h1, r1⟩ := trodAll_cons r0
  obtain ⟨v2, vs2, d2, ds2, p2, q2, e2, rfl, rfl, h2, r2⟩ := trodAll_cons r1
  obtain ⟨v3, vs3, d3, ds3, p3, q3, e3, rfl, rfl, h3, r3⟩ := trodAll_cons r2
  obtain ⟨e4, rfl, rfl⟩ := trodAll_nil r3
  subst e1
  subst e2
  subst e3
  subst e4
  obtain rfl : args = #[v0, v1, v2, v3] := by cases args; simp_all
  obtain ⟨rfl, rfl⟩ := trodVars_none hV
  clear hA0
  simp only [List.append_nil] at hW' hk
  have hb : Rows.uptoBulkAll [d0, d1, d2, d3] ≤ 1048576 := of_decide_eq_true hk
  have hb0 : Rows.uptoBulk d0 ≤ 1048576 := Nat.le_trans (bulk_mem (by simp)) hb
  have hb1 : Rows.uptoBulk d1 ≤ 1048576 := Nat.le_trans (bulk_mem (by simp)) hb
  have hb2 : Rows.uptoBulk d2 ≤ 1048576 := Nat.le_trans (bulk_mem (by simp)) hb
  have hb3 : Rows.uptoBulk d3 ≤ 1048576 := Nat.le_trans (bulk_mem (by simp)) hb
  have hs0 := h0
  obtain ⟨n0, g0⟩ := h0
  have hs1 := h1
  obtain ⟨n1, g1⟩ := h1
  have hs2 := h2
  obtain ⟨n2, g2⟩ := h2
  have hs3 := h3
  obtain ⟨n3, g3⟩ := h3
  rw [cells_slice Tryd.underlying26 (hval 2 26 v2 rfl rfl)] at g2
  rw [cells_int Tryd.underlying5 (hval 3 5 v3 rfl rfl)] at g3
  obtain ⟨s, hc0, hsok⟩ := rd_ip g0
  have hv0 : v0 = .agg (encIP s).toArray := agg_of hc0 (by simp [encIP])
  subst hv0
  obtain ⟨d, hc1, hdok⟩ := rd_ip g1
  have hv1 : v1 = .agg (encIP d).toArray := agg_of hc1 (by simp [encIP])
  subst hv1
  obtain ⟨b, hB, hbl⟩ := rd_bytes g2
  simp only at hbl
  obtain ⟨k, hc3, hk0, hk1⟩ := rd_u8 g3
  have hv3 : v3 = .int .u8 k := by simpa using hc3
  subst hv3
  have walk : Go.Proofs.YtkahmepenjhcpaaDoor.W.CallsD Tryd.prog 23 #[.agg (encIP s).toArray, .agg (encIP d).toArray, v2, .int .u8 k] W (.bool true) := c23 s d v2 b W hsok hdok hB k ⟨hk0, hk1⟩ (by omega) (gv1_of (laidOf hL)) (gv2_of (laidOf hL)) (gv3_of (laidOf hL))
  refine Calls.mono (show Calls Tryd.prog 23 _ W _ from walk) fun e W' he => ?_
  cases e with
  | returned v =>
    obtain ⟨rfl, hg⟩ := he
    exact ⟨_, rfl, post_kept hW' (fun _ _ _ => trodAll_cons_mk (shut_bool Tryd.underlying4 _) trodAll_mk0)
      (fun sp hsp => trodAll_cons_mk (stays hg (by decide +kernel) hs0 sp (fun p hp => hsp p (by simp [hp]))) (trodAll_cons_mk (stays hg (by decide +kernel) hs1 sp (fun p hp => hsp p (by simp [hp]))) (trodAll_cons_mk (stays hg (by decide +kernel) hs2 sp (fun p hp => hsp p (by simp [hp]))) (trodAll_cons_mk (stays hg (by decide +kernel) hs3 sp (fun p hp => hsp p (by simp [hp]))) (trodAll_mk0))))) (fun _ => rfl) (by simp) hg (ok_one (by kernel_rfl) rfl (okWide_bool_mk Tryd.underlying4 _))⟩
  | panicked c => exact he.elim
  | outgrown => exact he.elim

noncomputable abbrev laidWorld (os : Os) : World := laidWorld9 os
def ip0D {H : Type} : DataW H := .agg [.lit (.int .i64 0), .agg (List.replicate 16 (.lit (.int .u8 0)))]
def w0 : Value := .agg (encIP ⟨0, fun _ => 0⟩).toArray
def x0 {H : Type} : DataW H := ip0D
def w1 : Value := .agg (encIP ⟨0, fun _ => 0⟩).toArray
def x1 {H : Type} : DataW H := ip0D
def w2 : Value := .slice none 0 0
def x2 {H : Type} : DataW H := .nil
def w3 : Value := .int .u8 0
def x3 {H : Type} : DataW H := .lit (.int .u8 0)
theorem laid_met (os : Os) : laidMet Tryd.prog Rows.l4WindowRow.laid ((laidWorld os).forCall (fun _ _ => 0) ⟨#[], #[w0, w1, w2, w3], []⟩).memory :=
  laidMet_of_run' 8 (by kernel_rfl) (by kernel_rfl)
theorem reads (os : Os) {H : Type} (enc : TypeId × Value → H) : ∃ places, DataW.whole enc Tryd.prog ((laidWorld os).forCall (fun _ _ => 0) ⟨#[], #[w0, w1, w2, w3], []⟩).memory Tryd.f23.params.toList Rows.l4WindowSpec.vars false (#[w0, w1, w2, w3] : Array Value).toList 8 = some ([x0, x1, x2, x3], [], places) :=
  ⟨[], by kernel_rfl⟩

theorem liftedUpto (os : Os) (started : os.Started) (H : Type) (enc : TypeId × Value → H) (F : Stop.Interp) :
    ReturnsInHanded {} Tryd.checked os 23 .any ((Rows.OpenSpec.upto Rows.l4WindowSpec).preRow enc Tryd.prog Tryd.f23 Rows.l4WindowUptoRow.domain false Rows.l4WindowUptoRow.laid) (((Rows.OpenSpec.upto Rows.l4WindowSpec).at F).post enc Tryd.prog Tryd.f23 false true false false) := by
  obtain ⟨places, hx⟩ := reads os enc
  refine returnsInHanded_of_row (C := Tryd.checked) (s := Rows.OpenSpec.upto Rows.l4WindowSpec) own started (by kernel_rfl) Tryd.func23
    (witness_row_at (enc := enc) (C := Tryd.checked) false (laidWorld os) #[w0, w1, w2, w3] rfl (by kernel_rfl) (by kernel_rfl) (by kernel_rfl)
      (OpenSpec.preRow_of_cond 8 hx (by kernel_rfl) (fun k hk => by cases hk; kernel_rfl) (by kernel_rfl) (laid_met os))) ?_
  intro W base args ds gs before hval hW _ hcond _ hL _ _
  exact contract H enc W base args ds gs before hval hW (hcond _ rfl) hL

theorem closed : joinedFacts Tryd.prog 23 Tryd.f23 (Rows.OpenSpec.upto Rows.l4WindowSpec).bare Rows.l4WindowUptoRow = true :=
  joined (by kernel_rfl) (by kernel_rfl) (by kernel_rfl) (by kernel_rfl) (by kernel_rfl) (by kernel_rfl) (by kernel_rfl) (by kernel_rfl) (by kernel_rfl) (by kernel_rfl) (by kernel_rfl) (by kernel_rfl) (by kernel_rfl)
    (by kernel_rfl) (by kernel_rfl) (by kernel_rfl) (by kernel_rfl) (by kernel_rfl) (by kernel_rfl) (by kernel_rfl) (by kernel_rfl) (by kernel_rfl) (by kernel_rfl) (by kernel_rfl) (by kernel_rfl) (by kernel_rfl) (by kernel_rfl)
theorem instOf : Tryd.f23.isInstance Tryd.prog Rows.l4WindowUptoRow.origin Rows.l4WindowUptoRow.targs := of_decide_eq_true (by kernel_rfl)
theorem wrapOf : Tryd.f23.isWrapper Tryd.prog Rows.l4WindowUptoRow.wrapper Rows.l4WindowUptoRow.mainSum := by
  unfold Func.isWrapper; first | (rw [if_pos (by decide +kernel)]; kernel_rfl) | (rw [if_neg (by decide +kernel)]; exact ⟨rfl, rfl⟩)
theorem saidUpto : Rows.L4WindowUptoSaid :=
  OpenClaim.holds_of_cond 23 Tryd.f23 rfl rfl rfl rfl rfl rfl rfl ⟨rfl, rfl, rfl, rfl, rfl⟩ rfl rfl rfl rfl rfl (by kernel_rfl) Tryd.func23 closed instOf wrapOf
    (fun os started H enc _ F => by rw [OpenClaim.pre_eq_preRow]; exact liftedUpto os started H enc F)

theorem plain (f : FuncId) (fn : Func) (hf : Tryd.pinned.checked.prog.funcNamed "weir/weirlaw9.L4Window" = some f) (hfn : Tryd.pinned.checked.prog.funcs[f]? = some fn) :
    false = Tryd.pinned.checked.prog.looks [] ∧ ∀ (j : Nat) t, fn.params[j]? = some t → Tryd.pinned.checked.prog.wantsStandIn t = false := by
  obtain rfl : f = 23 := Option.some.inj ((show Tryd.prog.funcNamed "weir/weirlaw9.L4Window" = some 23 by kernel_rfl).symm.trans hf) |>.symm
  obtain rfl : fn = Tryd.f23 := (Option.some.inj (Tryd.func23.symm.trans hfn)).symm
  refine ⟨by kernel_rfl, fun j t ht => ?_⟩
  rw [Tryd.params23] at ht
  have hm := Array.mem_of_getElem? ht
  simp only [List.mem_toArray, List.mem_cons, List.not_mem_nil, or_false] at hm
  rcases hm with rfl | rfl | rfl | rfl
  · exact (show Tryd.prog.wantsStandIn 24 = false by kernel_rfl)
  · exact (show Tryd.prog.wantsStandIn 24 = false by kernel_rfl)
  · exact (show Tryd.prog.wantsStandIn 26 = false by kernel_rfl)
  · exact (show Tryd.prog.wantsStandIn 5 = false by kernel_rfl)

/-- THE CARD -/
theorem cardUpto : Rows.L4WindowUptoCardSaid :=
  Claim7.holds_tied_plain_at .later [] _ _ _ _ saidUpto (fun _ h => by cases h) (by kernel_rfl) (fun _ h => by cases h) l4WindowUpto_row_tie rfl ⟨rfl, rfl⟩ (by kernel_rfl) rfl plain (by kernel_rfl)
end Go.Proofs.YtkahmepenjhcpaaDoor.l4Window
