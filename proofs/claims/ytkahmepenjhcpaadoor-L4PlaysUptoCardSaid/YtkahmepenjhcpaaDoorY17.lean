/- weirlaw9.L4Plays: of all calls, in every order; what is handed in stays: for every input of bulk at most 1048576, the package variables that it reads being what the program lays. -/
import Derived.Test.YtkahmepenjhcpaaDoorKf
import Derived.Test.YtkahmepenjhcpaaDoorCards
import Derived.Test.YtkahmepenjhcpaaDoorTie
import Derived.Test.YtkahmepenjhcpaaDoorRj
import Derived.WalkKit
import Derived.ProofKit
import Derived.OpenShut
import Derived.Deep.DeepHandedRow
import Derived.Lib.LaidTab
namespace Go.Proofs.YtkahmepenjhcpaaDoor.l4Plays
open Go Go.ChangeShapes Go.WideShapes Go.ChangeAt Go.RowKit W
set_option linter.unusedVariables false
set_option linter.unusedSimpArgs false
set_option maxRecDepth 100000

theorem own : ownKnob Tryd.prog.godebug = none := by kernel_rfl
theorem laidOf {W : World} (h : laidMetH Tryd.prog Rows.l4PlaysRow.laid W) : laidMet Tryd.prog laid9 W := h

theorem contract (H : Type) (enc : TypeId × Value → H) (W : World) (base : Nat) (args : Array Value) (ds gs : List (DataW H)) (before : List MemPlace)
    (hval : ∀ (j : Nat) t v, Tryd.f17.params[j]? = some t → args[j]? = some v → Value.okWide Tryd.prog W .any base t v)
    (hW : DataW.Whole enc Tryd.prog Tryd.f17.params.toList Rows.l4PlaysSpec.vars false W args.toList ds gs before) (hk : Rows.uptoSmall H (ds ++ gs) = true) (hL : laidMetH Tryd.prog Rows.l4PlaysRow.laid W) :
    Calls Tryd.prog 17 args W fun e W' => ∃ v, e = .returned v ∧ Rows.l4PlaysSpec.post enc Tryd.prog Tryd.f17 false true false false W args v W' := by
  have hW' := hW
  obtain ⟨p, q, hA0, hV, rfl, hfz, hnd⟩ := hW
  have hA : DataW.TrodAll enc Tryd.prog W 0 (fun _ => true) true Tryd.f17.params.toList args.toList ds p := hA0
  rw [Tryd.params17] at hA hval
  obtain ⟨v0, vs0, d0, ds0, p0, q0, hargs, rfl, rfl, h0, r0⟩ := trodAll_cons hA
  obtain ⟨rfl, rfl, rfl⟩ := trodAll_nil r0
  obtain rfl : args = #[v0] := by cases args; simp_all
  obtain ⟨rfl, rfl⟩ := trodVars_none hV
  clear hA0
  simp only [List.append_nil] at hW' hk
  have hb : Rows.uptoBulkAll [d0] ≤ 1048576 := of_decide_eq_true hk
  have hb0 : Rows.uptoBulk d0 ≤ 1048576 := Nat.le_trans (bulk_mem (by simp)) hb
  have hs0 := h0
  obtain ⟨n0, g0⟩ := h0
  rw [cells_slice Tryd.underlying69 (hval 0 69 v0 rfl rfl)] at g0
  obtain ⟨ps, hP, hok, hl⟩ := rd_ops9 (x := (d0, p0)) g0 hb0
  have walk : Go.Proofs.YtkahmepenjhcpaaDoor.W.CallsD Tryd.prog 17 #[v0] W (.bool true) := c17 _ ps W hP hok (by omega) (gv1_of (laidOf hL)) (gv2_of (laidOf hL)) (gv3_of (laidOf hL))
  refine Calls.mono (show Calls Tryd.prog 17 _ W _ from walk) fun e W' he => ?_
  cases e with
  | returned v =>
    obtain ⟨rfl, hg⟩ := he
    exact ⟨_, rfl, post_kept hW' (fun _ _ _ => trodAll_cons_mk (shut_bool Tryd.underlying4 _) trodAll_mk0)
      (fun sp hsp => trodAll_mk1 (stays hg (by decide +kernel) hs0 sp hsp)) (fun _ => rfl) rfl hg (ok_one (by kernel_rfl) rfl (okWide_bool_mk Tryd.underlying4 _))⟩
  | panicked c => exact he.elim
  | outgrown => exact he.elim

noncomputable abbrev laidWorld (os : Os) : World := laidWorld9 os
def ip0D {H : Type} : DataW H := .agg [.lit (.int .i64 0), .agg (List.replicate 16 (.lit (.int .u8 0)))]
def w0 : Value := .slice none 0 0
def x0 {H : Type} : DataW H := .nil
theorem laid_met (os : Os) : laidMet Tryd.prog Rows.l4PlaysRow.laid ((laidWorld os).forCall (fun _ _ => 0) ⟨#[], #[w0], []⟩).memory :=
  laidMet_of_run' 8 (by kernel_rfl) (by kernel_rfl)
theorem reads (os : Os) {H : Type} (enc : TypeId × Value → H) : ∃ places, DataW.whole enc Tryd.prog ((laidWorld os).forCall (fun _ _ => 0) ⟨#[], #[w0], []⟩).memory Tryd.f17.params.toList Rows.l4PlaysSpec.vars false (#[w0] : Array Value).toList 8 = some ([x0], [], places) :=
  ⟨[], by kernel_rfl⟩

theorem liftedUpto (os : Os) (started : os.Started) (H : Type) (enc : TypeId × Value → H) (F : Stop.Interp) :
    ReturnsInHanded {} Tryd.checked os 17 .any ((Rows.OpenSpec.upto Rows.l4PlaysSpec).preRow enc Tryd.prog Tryd.f17 Rows.l4PlaysUptoRow.domain false Rows.l4PlaysUptoRow.laid) (((Rows.OpenSpec.upto Rows.l4PlaysSpec).at F).post enc Tryd.prog Tryd.f17 false true false false) := by
  obtain ⟨places, hx⟩ := reads os enc
  refine returnsInHanded_of_row (C := Tryd.checked) (s := Rows.OpenSpec.upto Rows.l4PlaysSpec) own started (by kernel_rfl) Tryd.func17
    (witness_row_at (enc := enc) (C := Tryd.checked) false (laidWorld os) #[w0] rfl (by kernel_rfl) (by kernel_rfl) (by kernel_rfl)
      (OpenSpec.preRow_of_cond 8 hx (by kernel_rfl) (fun k hk => by cases hk; kernel_rfl) (by kernel_rfl) (laid_met os))) ?_
  intro W base args ds gs before hval hW _ hcond _ hL _ _
  exact contract H enc W base args ds gs before hval hW (hcond _ rfl) hL

theorem closed : joinedFacts Tryd.prog 17 Tryd.f17 (Rows.OpenSpec.upto Rows.l4PlaysSpec).bare Rows.l4PlaysUptoRow = true :=
  joined (by kernel_rfl) (by kernel_rfl) (by kernel_rfl) (by kernel_rfl) (by kernel_rfl) (by kernel_rfl) (by kernel_rfl) (by kernel_rfl) (by kernel_rfl) (by kernel_rfl) (by kernel_rfl) (by kernel_rfl) (by kernel_rfl)
    (by kernel_rfl) (by kernel_rfl) (by kernel_rfl) (by kernel_rfl) (by kernel_rfl) (by kernel_rfl) (by kernel_rfl) (by kernel_rfl) (by kernel_rfl) (by kernel_rfl) (by kernel_rfl) (by kernel_rfl) (by kernel_rfl) (by kernel_rfl)
theorem instOf : Tryd.f17.isInstance Tryd.prog Rows.l4PlaysUptoRow.origin Rows.l4PlaysUptoRow.targs := of_decide_eq_true (by kernel_rfl)
theorem wrapOf : Tryd.f17.isWrapper Tryd.prog Rows.l4PlaysUptoRow.wrapper Rows.l4PlaysUptoRow.mainSum := by
  unfold Func.isWrapper; first | (rw [if_pos (by decide +kernel)]; kernel_rfl) | (rw [if_neg (by decide +kernel)]; exact ⟨rfl, rfl⟩)
theorem saidUpto : Rows.L4PlaysUptoSaid :=
  OpenClaim.holds_of_cond 17 Tryd.f17 rfl rfl rfl rfl rfl rfl rfl ⟨rfl, rfl, rfl, rfl, rfl⟩ rfl rfl rfl rfl rfl (by kernel_rfl) Tryd.func17 closed instOf wrapOf
    (fun os started H enc _ F => by rw [OpenClaim.pre_eq_preRow]; exact liftedUpto os started H enc F)

theorem plain (f : FuncId) (fn : Func) (hf : Tryd.pinned.checked.prog.funcNamed "weir/weirlaw9.L4Plays" = some f) (hfn : Tryd.pinned.checked.prog.funcs[f]? = some fn) :
    false = Tryd.pinned.checked.prog.looks [] ∧ ∀ (j : Nat) t, fn.params[j]? = some t → Tryd.pinned.checked.prog.wantsStandIn t = false := by
  obtain rfl : f = 17 := Option.some.inj ((show Tryd.prog.funcNamed "weir/weirlaw9.L4Plays" = some 17 by kernel_rfl).symm.trans hf) |>.symm
  obtain rfl : fn = Tryd.f17 := (Option.some.inj (Tryd.func17.symm.trans hfn)).symm
  refine ⟨by kernel_rfl, fun j t ht => ?_⟩
  rw [Tryd.params17] at ht
  have hm := Array.mem_of_getElem? ht
  simp only [List.mem_toArray, List.mem_cons, List.not_mem_nil, or_false] at hm
  subst hm
  exact (show Tryd.prog.wantsStandIn 69 = false by kernel_rfl)

/-- THE CARD -/
theorem cardUpto : Rows.L4PlaysUptoCardSaid :=
  Claim7.holds_tied_plain_at .later [] _ _ _ _ saidUpto (fun _ h => by cases h) (by kernel_rfl) (fun _ h => by cases h) l4PlaysUpto_row_tie rfl ⟨rfl, rfl⟩ (by kernel_rfl) rfl plain (by kernel_rfl)
end Go.Proofs.YtkahmepenjhcpaaDoor.l4Plays
