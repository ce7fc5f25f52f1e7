/- weirlaw9.L4Clamped: what Clamp leaves tells no more than it may: for every input of bulk at most 1048576, the package variables that it reads being what the program lays. -/
import Derived.Test.YtkahmepenjhcpaaDoorIe
import Derived.Test.YtkahmepenjhcpaaDoorCards
import Derived.Test.YtkahmepenjhcpaaDoorTie
import Derived.Test.YtkahmepenjhcpaaDoorRj
import Derived.WalkKit
import Derived.ProofKit
import Derived.OpenShut
import Derived.Deep.DeepHandedRow
import Derived.Lib.LaidTab
namespace Go.Proofs.YtkahmepenjhcpaaDoor.l4Clamped
open Go Go.ChangeShapes Go.WideShapes Go.ChangeAt Go.RowKit W
set_option linter.unusedVariables false
set_option linter.unusedSimpArgs false
set_option maxRecDepth 100000

theorem own : ownKnob Tryd.prog.godebug = none := by kernel_rfl
theorem laidOf {W : World} (h : laidMetH Tryd.prog Rows.l4ClampedRow.laid W) : laidMet Tryd.prog laid9 W := h

theorem contract (H : Type) (enc : TypeId × Value → H) (W : World) (base : Nat) (args : Array Value) (ds gs : List (DataW H)) (before : List MemPlace)
    (hval : ∀ (j : Nat) t v, Tryd.f24.params[j]? = some t → args[j]? = some v → Value.okWide Tryd.prog W .any base t v)
    (hW : DataW.Whole enc Tryd.prog Tryd.f24.params.toList Rows.l4ClampedSpec.vars false W args.toList ds gs before) (hk : Rows.uptoSmall H (ds ++ gs) = true) (hL : laidMetH Tryd.prog Rows.l4ClampedRow.laid W) :
    Calls Tryd.prog 24 args W fun e W' => ∃ v, e = .returned v ∧ Rows.l4ClampedSpec.post enc Tryd.prog Tryd.f24 false true false false W args v W' := by
  have hW' := hW
  obtain ⟨p, q, hA0, hV, rfl, hfz, hnd⟩ := hW
  have hA : DataW.TrodAll enc Tryd.prog W 0 (fun _ => true) true Tryd.f24.params.toList args.toList ds p := hA0
  rw [Tryd.params24] at hA hval
  obtain ⟨v0, vs0, d0, ds0, p0, q0, hargs, rfl, rfl, h0, r0⟩ := trodAll_cons hA
  obtain ⟨v1, vs1, d1, ds1, p1, q1, e1, rfl, rfl, h1, r1⟩ := trodAll_cons r0
  obtain ⟨e2, rfl, rfl⟩ := trodAll_nil r1
  subst e1
  subst e2
  obtain rfl : args = #[v0, v1] := by cases args; simp_all
  obtain ⟨rfl, rfl⟩ := trodVars_none hV
  clear hA0
  simp only [List.append_nil] at hW' hk
  have hb : Rows.uptoBulkAll [d0, d1] ≤ 1048576 := of_decide_eq_true hk
  have hb0 : Rows.uptoBulk d0 ≤ 1048576 := Nat.le_trans (bulk_mem (by simp)) hb
  have hb1 : Rows.uptoBulk d1 ≤ 1048576 := Nat.le_trans (bulk_mem (by simp)) hb
  have hs0 := h0
  obtain ⟨n0, g0⟩ := h0
  have hs1 := h1
  obtain ⟨n1, g1⟩ := h1
  rw [cells_int Tryd.underlying3 (hval 1 3 v1 rfl rfl)] at g1
  obtain ⟨t, to_, td, hc0, hto, htd, htok, htl1, htl2, htl3⟩ := rd_tcp g0
  have hv0 : v0 = .agg (encTcp t to_ td).toArray := agg_of hc0 (by simp [encTcp])
  subst hv0
  simp only at htl1 htl2 htl3
  obtain ⟨k, hc1, hk⟩ := rd_int g1
  have hv1 : v1 = .int .i64 k := by simpa using hc1
  subst hv1
  have walk : Go.Proofs.YtkahmepenjhcpaaDoor.W.CallsD Tryd.prog 24 #[.agg (encTcp t to_ td).toArray, .int .i64 k] W (.bool true) := c24 t k to_ td W hto htd (by omega) (fun p hp => by have := htl2 p hp; omega) (by omega) (gv1_of (laidOf hL)) (gv2_of (laidOf hL)) (gv3_of (laidOf hL))
  refine Calls.mono (show Calls Tryd.prog 24 _ W _ from walk) fun e W' he => ?_
  cases e with
  | returned v =>
    obtain ⟨rfl, hg⟩ := he
    exact ⟨_, rfl, post_kept hW' (fun _ _ _ => trodAll_cons_mk (shut_bool Tryd.underlying4 _) trodAll_mk0)
      (fun sp hsp => trodAll_cons_mk (stays hg (by decide +kernel) hs0 sp (fun p hp => hsp p (by simp [hp]))) (trodAll_cons_mk (stays hg (by decide +kernel) hs1 sp (fun p hp => hsp p (by simp [hp]))) (trodAll_mk0))) (fun _ => rfl) (by simp) hg (ok_one (by kernel_rfl) rfl (okWide_bool_mk Tryd.underlying4 _))⟩
  | panicked c => exact he.elim
  | outgrown => exact he.elim

noncomputable abbrev laidWorld (os : Os) : World := laidWorld9 os
def ip0D {H : Type} : DataW H := .agg [.lit (.int .i64 0), .agg (List.replicate 16 (.lit (.int .u8 0)))]
def w0 : Value := .agg (encTcp ⟨0, 0, 0, 0, 0, 0, 0, [], []⟩ (.slice none 0 0) (.slice none 0 0)).toArray
def x0 {H : Type} : DataW H := .agg [.lit (.int .i64 0), .lit (.int .i64 0), .lit (.int .i64 0), .lit (.int .i64 0), .lit (.int .i64 0), .lit (.int .i64 0), .lit (.int .i64 0), .nil, .nil]
def w1 : Value := .int .i64 0
def x1 {H : Type} : DataW H := .lit (.int .i64 0)
theorem laid_met (os : Os) : laidMet Tryd.prog Rows.l4ClampedRow.laid ((laidWorld os).forCall (fun _ _ => 0) ⟨#[], #[w0, w1], []⟩).memory :=
  laidMet_of_run' 8 (by kernel_rfl) (by kernel_rfl)
theorem reads (os : Os) {H : Type} (enc : TypeId × Value → H) : ∃ places, DataW.whole enc Tryd.prog ((laidWorld os).forCall (fun _ _ => 0) ⟨#[], #[w0, w1], []⟩).memory Tryd.f24.params.toList Rows.l4ClampedSpec.vars false (#[w0, w1] : Array Value).toList 8 = some ([x0, x1], [], places) :=
  ⟨[], by kernel_rfl⟩

theorem liftedUpto (os : Os) (started : os.Started) (H : Type) (enc : TypeId × Value → H) (F : Stop.Interp) :
    ReturnsInHanded {} Tryd.checked os 24 .any ((Rows.OpenSpec.upto Rows.l4ClampedSpec).preRow enc Tryd.prog Tryd.f24 Rows.l4ClampedUptoRow.domain false Rows.l4ClampedUptoRow.laid) (((Rows.OpenSpec.upto Rows.l4ClampedSpec).at F).post enc Tryd.prog Tryd.f24 false true false false) := by
  obtain ⟨places, hx⟩ := reads os enc
  refine returnsInHanded_of_row (C := Tryd.checked) (s := Rows.OpenSpec.upto Rows.l4ClampedSpec) own started (by kernel_rfl) Tryd.func24
    (witness_row_at (enc := enc) (C := Tryd.checked) false (laidWorld os) #[w0, w1] rfl (by kernel_rfl) (by kernel_rfl) (by kernel_rfl)
      (OpenSpec.preRow_of_cond 8 hx (by kernel_rfl) (fun k hk => by cases hk; kernel_rfl) (by kernel_rfl) (laid_met os))) ?_
  intro W base args ds gs before hval hW _ hcond _ hL _ _
  exact contract H enc W base args ds gs before hval hW (hcond _ rfl) hL

theorem closed : joinedFacts Tryd.prog 24 Tryd.f24 (Rows.OpenSpec.upto Rows.l4ClampedSpec).bare Rows.l4ClampedUptoRow = true :=
  joined (by kernel_rfl) (by kernel_rfl) (by kernel_rfl) (by kernel_rfl) (by kernel_rfl) (by kernel_rfl) (by kernel_rfl) (by kernel_rfl) (by kernel_rfl) (by kernel_rfl) (by kernel_rfl) (by kernel_rfl) (by kernel_rfl)
    (by kernel_rfl) (by kernel_rfl) (by kernel_rfl) (by kernel_rfl) (by kernel_rfl) (by kernel_rfl) (by kernel_rfl) (by kernel_rfl) (by kernel_rfl) (by kernel_rfl) (by kernel_rfl) (by kernel_rfl) (by kernel_rfl) (by kernel_rfl)
theorem instOf : Tryd.f24.isInstance Tryd.prog Rows.l4ClampedUptoRow.origin Rows.l4ClampedUptoRow.targs := of_decide_eq_true (by kernel_rfl)
theorem wrapOf : Tryd.f24.isWrapper Tryd.prog Rows.l4ClampedUptoRow.wrapper Rows.l4ClampedUptoRow.mainSum := by
  unfold Func.isWrapper; first | (rw [if_pos (by decide +kernel)]; kernel_rfl) | (rw [if_neg (by decide +kernel)]; exact ⟨rfl, rfl⟩)
theorem saidUpto : Rows.L4ClampedUptoSaid :=
  OpenClaim.holds_of_cond 24 Tryd.f24 rfl rfl rfl rfl rfl rfl rfl ⟨rfl, rfl, rfl, rfl, rfl⟩ rfl rfl rfl rfl rfl (by kernel_rfl) Tryd.func24 closed instOf wrapOf
    (fun os started H enc _ F => by rw [OpenClaim.pre_eq_preRow]; exact liftedUpto os started H enc F)

theorem plain (f : FuncId) (fn : Func) (hf : Tryd.pinned.checked.prog.funcNamed "weir/weirlaw9.L4Clamped" = some f) (hfn : Tryd.pinned.checked.prog.funcs[f]? = some fn) :
    false = Tryd.pinned.checked.prog.looks [] ∧ ∀ (j : Nat) t, fn.params[j]? = some t → Tryd.pinned.checked.prog.wantsStandIn t = false := by
  obtain rfl : f = 24 := Option.some.inj ((show Tryd.prog.funcNamed "weir/weirlaw9.L4Clamped" = some 24 by kernel_rfl).symm.trans hf) |>.symm
  obtain rfl : fn = Tryd.f24 := (Option.some.inj (Tryd.func24.symm.trans hfn)).symm
  refine ⟨by kernel_rfl, fun j t ht => ?_⟩
  rw [Tryd.params24] at ht
  have hm := Array.mem_of_getElem? ht
  simp only [List.mem_toArray, List.mem_cons, List.not_mem_nil, or_false] at hm
  rcases hm with rfl | rfl
  · exact (show Tryd.prog.wantsStandIn 82 = false by kernel_rfl)
  · exact (show Tryd.prog.wantsStandIn 3 = false by kernel_rfl)

/-- THE CARD -/
theorem cardUpto : Rows.L4ClampedUptoCardSaid :=
  Claim7.holds_tied_plain_at .later [] _ _ _ _ saidUpto (fun _ h => by cases h) (by kernel_rfl) (fun _ h => by cases h) l4ClampedUpto_row_tie rfl ⟨rfl, rfl⟩ (by kernel_rfl) rfl plain (by kernel_rfl)
end Go.Proofs.YtkahmepenjhcpaaDoor.l4Clamped
