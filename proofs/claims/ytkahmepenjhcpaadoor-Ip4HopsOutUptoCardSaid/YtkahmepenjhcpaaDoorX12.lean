/- weirlaw6.Ip4HopsOut: just TTL less one hops go: for every input of bulk at most 1048576, the package variables that it reads being what the program lays. -/
import Derived.Test.YtkahmepenjhcpaaDoorGd
import Derived.Test.YtkahmepenjhcpaaDoorCards
import Derived.Test.YtkahmepenjhcpaaDoorTie
import Derived.Test.YtkahmepenjhcpaaDoorRj
import Derived.WalkKit
import Derived.ProofKit
import Derived.OpenShut
import Derived.Deep.DeepHandedRow
import Derived.Lib.LaidTab
namespace Go.Proofs.YtkahmepenjhcpaaDoor.ip4HopsOut
open Go Go.ChangeShapes Go.WideShapes Go.ChangeAt Go.RowKit W
set_option linter.unusedVariables false
set_option linter.unusedSimpArgs false
set_option maxRecDepth 100000

theorem own : ownKnob Tryd.prog.godebug = none := by kernel_rfl
theorem gTab : Tryd.prog.globalNamed "weir/ip4.widths" = some 0 := by kernel_rfl
theorem gTabType : (Tryd.prog.globals[0]?).map (·.type) = some 130 := by kernel_rfl
theorem cells130 : Tryd.prog.cellsOf 130 = 12 := by kernel_rfl
theorem table {W : World} (h : laidMetH Tryd.prog Rows.ip4HopsOutRow.laid W) : Lib.TabIs Tryd.prog W "weir/ip4.widths" .i64 [4, 4, 8, 16, 16, 1, 1, 1, 13, 8, 8, 16] :=
  Lib.tabIs_of_head (rest := []) gTab gTabType Tryd.underlying130 Tryd.underlying3 cells3 cells130 h
theorem gv {W : World} (h : laidMetH Tryd.prog Rows.ip4HopsOutRow.laid W) : GV [] W 0 130 (W4.map i64) := by
  intro i hi
  have hi' : i < 12 := by simpa using hi
  refine ⟨⟨0, 0, none⟩, rfl, rfl, by simp, ?_⟩
  have := (table h).cell gTab i (by simpa using hi')
  rw [Nat.zero_add, this, List.getElem_map, List.getD_eq_getElem?_getD, List.getElem?_eq_getElem (by simpa using hi')]
  rfl

theorem contract (H : Type) (enc : TypeId × Value → H) (W : World) (base : Nat) (args : Array Value) (ds gs : List (DataW H)) (before : List MemPlace)
    (hval : ∀ (j : Nat) t v, Tryd.f12.params[j]? = some t → args[j]? = some v → Value.okWide Tryd.prog W .any base t v)
    (hW : DataW.Whole enc Tryd.prog Tryd.f12.params.toList Rows.ip4HopsOutSpec.vars false W args.toList ds gs before) (hk : Rows.uptoSmall H (ds ++ gs) = true) (hL : laidMetH Tryd.prog Rows.ip4HopsOutRow.laid W) :
    Calls Tryd.prog 12 args W fun e W' => ∃ v, e = .returned v ∧ Rows.ip4HopsOutSpec.post enc Tryd.prog Tryd.f12 false true false false W args v W' := by
  have hW' := hW
  obtain ⟨p, q, hA0, hV, rfl, hfz, hnd⟩ := hW
  have hA : DataW.TrodAll enc Tryd.prog W 0 (fun _ => true) true Tryd.f12.params.toList args.toList ds p := hA0
  rw [Tryd.params12] at hA hval
  obtain ⟨v0, vs0, d0, ds0, p0, q0, hargs, rfl, rfl, h0, r0⟩ := trodAll_cons hA
  obtain ⟨rfl, rfl, rfl⟩ := trodAll_nil r0
  obtain rfl : args = #[v0] := by cases args; simp_all
  obtain ⟨rfl, rfl⟩ := trodVars_none hV
  clear hA0
  simp only [List.append_nil] at hW' hk
  have hb : Rows.uptoBulkAll [d0] ≤ 1048576 := of_decide_eq_true hk
  have hb0 : Rows.uptoBulk d0 ≤ 1048576 := Nat.le_trans (bulk_mem (by simp)) hb
  have hs0 := h0
  obtain ⟨n0, g0⟩ := h0
  obtain ⟨a, o, d, hc, hO, hd, hok, hl1, hl2, hl3⟩ := rd_ip4 g0
  have hv : v0 = .agg (encIp4 a o d).toArray := agg_of hc (by simp [encIp4, encIP])
  subst hv
  simp only at hl1 hl3
  have walk : Go.Proofs.YtkahmepenjhcpaaDoor.W.CallsD Tryd.prog 12 #[.agg (encIp4 a o d).toArray] W (.bool true) := c12 a o d W hO hd (by omega) (by omega) hok.2.2.2.2.2.1 hok.2.2.2.2.2.2.1 (gv hL)
  refine Calls.mono (show Calls Tryd.prog 12 _ W _ from walk) fun e W' he => ?_
  cases e with
  | returned v =>
    obtain ⟨rfl, hg⟩ := he
    exact ⟨_, rfl, post_kept hW' (fun _ _ _ => trodAll_cons_mk (shut_bool Tryd.underlying4 _) trodAll_mk0)
      (fun sp hsp => trodAll_mk1 (stays hg (by decide +kernel) hs0 sp hsp)) (fun _ => rfl) rfl hg (ok_one (by kernel_rfl) rfl (okWide_bool_mk Tryd.underlying4 _))⟩
  | panicked c => exact he.elim
  | outgrown => exact he.elim

noncomputable def laidWorld (os : Os) : World :=
  { World.holding Tryd.prog os ⟨#[], #[], []⟩ with heap := (World.holding Tryd.prog os ⟨#[], #[], []⟩).heap.modify 0 fun
      | .cells _ t frozen => .cells #[.int .i64 4, .int .i64 4, .int .i64 8, .int .i64 16, .int .i64 16, .int .i64 1, .int .i64 1, .int .i64 1, .int .i64 13, .int .i64 8, .int .i64 8, .int .i64 16] t frozen
      | o => o }
def ip0D {H : Type} : DataW H := .agg [.lit (.int .i64 0), .agg (List.replicate 16 (.lit (.int .u8 0)))]
def w0 : Value := .agg (encIp4 ⟨0, 0, false, false, 0, 0, 0, ⟨0, fun _ => 0⟩, ⟨0, fun _ => 0⟩, [], []⟩ (.slice none 0 0) (.slice none 0 0)).toArray
def x0 {H : Type} : DataW H := .agg [.lit (.int .i64 0), .lit (.int .i64 0), .lit (.bool false), .lit (.bool false), .lit (.int .i64 0), .lit (.int .i64 0), .lit (.int .i64 0), ip0D, ip0D, .nil, .nil]
theorem laid_met (os : Os) : laidMet Tryd.prog Rows.ip4HopsOutRow.laid ((laidWorld os).forCall (fun _ _ => 0) ⟨#[], #[w0], []⟩).memory :=
  laidMet_of_run' 8 (by kernel_rfl) (by kernel_rfl)
theorem reads (os : Os) {H : Type} (enc : TypeId × Value → H) : ∃ places, DataW.whole enc Tryd.prog ((laidWorld os).forCall (fun _ _ => 0) ⟨#[], #[w0], []⟩).memory Tryd.f12.params.toList Rows.ip4HopsOutSpec.vars false (#[w0] : Array Value).toList 8 = some ([x0], [], places) :=
  ⟨[], by kernel_rfl⟩

theorem liftedUpto (os : Os) (started : os.Started) (H : Type) (enc : TypeId × Value → H) (F : Stop.Interp) :
    ReturnsInHanded {} Tryd.checked os 12 .any ((Rows.OpenSpec.upto Rows.ip4HopsOutSpec).preRow enc Tryd.prog Tryd.f12 Rows.ip4HopsOutUptoRow.domain false Rows.ip4HopsOutUptoRow.laid) (((Rows.OpenSpec.upto Rows.ip4HopsOutSpec).at F).post enc Tryd.prog Tryd.f12 false true false false) := by
  obtain ⟨places, hx⟩ := reads os enc
  refine returnsInHanded_of_row (C := Tryd.checked) (s := Rows.OpenSpec.upto Rows.ip4HopsOutSpec) own started (by kernel_rfl) Tryd.func12
    (witness_row_at (enc := enc) (C := Tryd.checked) false (laidWorld os) #[w0] rfl (by kernel_rfl) (by kernel_rfl) (by kernel_rfl)
      (OpenSpec.preRow_of_cond 8 hx (by kernel_rfl) (fun k hk => by cases hk; kernel_rfl) (by kernel_rfl) (laid_met os))) ?_
  intro W base args ds gs before hval hW _ hcond _ hL _ _
  exact contract H enc W base args ds gs before hval hW (hcond _ rfl) hL

theorem closed : joinedFacts Tryd.prog 12 Tryd.f12 (Rows.OpenSpec.upto Rows.ip4HopsOutSpec).bare Rows.ip4HopsOutUptoRow = true :=
  joined (by kernel_rfl) (by kernel_rfl) (by kernel_rfl) (by kernel_rfl) (by kernel_rfl) (by kernel_rfl) (by kernel_rfl) (by kernel_rfl) (by kernel_rfl) (by kernel_rfl) (by kernel_rfl) (by kernel_rfl) (by kernel_rfl)
    (by kernel_rfl) (by kernel_rfl) (by kernel_rfl) (by kernel_rfl) (by kernel_rfl) (by kernel_rfl) (by kernel_rfl) (by kernel_rfl) (by kernel_rfl) (by kernel_rfl) (by kernel_rfl) (by kernel_rfl) (by kernel_rfl) (by kernel_rfl)
theorem instOf : Tryd.f12.isInstance Tryd.prog Rows.ip4HopsOutUptoRow.origin Rows.ip4HopsOutUptoRow.targs := of_decide_eq_true (by kernel_rfl)
theorem wrapOf : Tryd.f12.isWrapper Tryd.prog Rows.ip4HopsOutUptoRow.wrapper Rows.ip4HopsOutUptoRow.mainSum := by
  unfold Func.isWrapper; first | (rw [if_pos (by decide +kernel)]; kernel_rfl) | (rw [if_neg (by decide +kernel)]; exact ⟨rfl, rfl⟩)
theorem saidUpto : Rows.Ip4HopsOutUptoSaid :=
  OpenClaim.holds_of_cond 12 Tryd.f12 rfl rfl rfl rfl rfl rfl rfl ⟨rfl, rfl, rfl, rfl, rfl⟩ rfl rfl rfl rfl rfl (by kernel_rfl) Tryd.func12 closed instOf wrapOf
    (fun os started H enc _ F => by rw [OpenClaim.pre_eq_preRow]; exact liftedUpto os started H enc F)

theorem plain (f : FuncId) (fn : Func) (hf : Tryd.pinned.checked.prog.funcNamed "weir/weirlaw6.Ip4HopsOut" = some f) (hfn : Tryd.pinned.checked.prog.funcs[f]? = some fn) :
    false = Tryd.pinned.checked.prog.looks [] ∧ ∀ (j : Nat) t, fn.params[j]? = some t → Tryd.pinned.checked.prog.wantsStandIn t = false := by
  obtain rfl : f = 12 := Option.some.inj ((show Tryd.prog.funcNamed "weir/weirlaw6.Ip4HopsOut" = some 12 by kernel_rfl).symm.trans hf) |>.symm
  obtain rfl : fn = Tryd.f12 := (Option.some.inj (Tryd.func12.symm.trans hfn)).symm
  refine ⟨by kernel_rfl, fun j t ht => ?_⟩
  rw [Tryd.params12] at ht
  have hm := Array.mem_of_getElem? ht
  simp only [List.mem_toArray, List.mem_cons, List.not_mem_nil, or_false] at hm
  subst hm
  exact (show Tryd.prog.wantsStandIn 28 = false by kernel_rfl)

/-- THE CARD -/
theorem cardUpto : Rows.Ip4HopsOutUptoCardSaid :=
  Claim7.holds_tied_plain_at .later [] _ _ _ _ saidUpto (fun _ h => by cases h) (by kernel_rfl) (fun _ h => by cases h) ip4HopsOutUpto_row_tie rfl ⟨rfl, rfl⟩ (by kernel_rfl) rfl plain (by kernel_rfl)
end Go.Proofs.YtkahmepenjhcpaaDoor.ip4HopsOut
