/- weirlaw9.L4Ends: one bit of an endpoint turned is found: for every input of bulk at most 1048576, the package variables that it reads being what the program lays. -/
import Derived.Test.YtkahmepenjhcpaaDoorIe
import Derived.Test.YtkahmepenjhcpaaDoorCards
import Derived.Test.YtkahmepenjhcpaaDoorTie
import Derived.Test.YtkahmepenjhcpaaDoorRj
import Derived.WalkKit
import Derived.ProofKit
import Derived.OpenShut
import Derived.Deep.DeepHandedRow
import Derived.Lib.LaidTab
namespace Go.Proofs.YtkahmepenjhcpaaDoor.l4Ends
open Go Go.ChangeShapes Go.WideShapes Go.ChangeAt Go.RowKit W
set_option linter.unusedVariables false
set_option linter.unusedSimpArgs false
set_option maxRecDepth 100000

theorem own : ownKnob Tryd.prog.godebug = none := by kernel_rfl
theorem laidOf {W : World} (h : laidMetH Tryd.prog Rows.l4EndsRow.laid W) : laidMet Tryd.prog laid9 W := h

theorem contract (H : Type) (enc : TypeId × Value → H) (W : World) (base : Nat) (args : Array Value) (ds gs : List (DataW H)) (before : List MemPlace)
    (hval : ∀ (j : Nat) t v, Tryd.f22.params[j]? = some t → args[j]? = some v → Value.okWide Tryd.prog W .any base t v)
    (hW : DataW.Whole enc Tryd.prog Tryd.f22.params.toList Rows.l4EndsSpec.vars false W args.toList ds gs before) (hk : Rows.uptoSmall H (ds ++ gs) = true) (hL : laidMetH Tryd.prog Rows.l4EndsRow.laid W) :
    Calls Tryd.prog 22 args W fun e W' => ∃ v, e = .returned v ∧ Rows.l4EndsSpec.post enc Tryd.prog Tryd.f22 false true false false W args v W' := by
  have hW' := hW
  obtain ⟨p, q, hA0, hV, rfl, hfz, hnd⟩ := hW
  have hA : DataW.TrodAll enc Tryd.prog W 0 (fun _ => true) true Tryd.f22.params.toList args.toList ds p := hA0
  rw [Tryd.params22] at hA hval
  obtain ⟨v0, vs0, d0, ds0, p0, q0, hargs, rfl, rfl, h0, r0⟩ := trodAll_cons hA
  obtain ⟨v1, vs1, d1, ds1, p1, q1, e1, rfl, rfl, h1, r1⟩ := trodAll_cons r0
  obtain ⟨v2, vs2, d2, ds2, p2, q2, e2, rfl, rfl, h2, r2⟩ := trodAll_cons r1
  obtain ⟨v3, vs3, d3, ds3, p3, q3, e3, rfl, rfl, h3, r3⟩ := trodAll_cons r2
  obtain ⟨v4, vs4, d4, ds4, p4, q4, e4, rfl, rfl, h4, r4⟩ := trodAll_cons r3
  obtain ⟨e5, rfl, rfl⟩ := trodAll_nil r4
  subst e1
  subst e2
  subst e3
  subst e4
  subst e5
  obtain rfl : args = #[v0, v1, v2, v3, v4] := by cases args; simp_all
  obtain ⟨rfl, rfl⟩ := trodVars_none hV
  clear hA0
  simp only [List.append_nil] at hW' hk
  have hb : Rows.uptoBulkAll [d0, d1, d2, d3, d4] ≤ 1048576 := of_decide_eq_true hk
  have hb0 : Rows.uptoBulk d0 ≤ 1048576 := Nat.le_trans (bulk_mem (by simp)) hb
  have hb1 : Rows.uptoBulk d1 ≤ 1048576 := Nat.le_trans (bulk_mem (by simp)) hb
  have hb2 : Rows.uptoBulk d2 ≤ 1048576 := Nat.le_trans (bulk_mem (by simp)) hb
  have hb3 : Rows.uptoBulk d3 ≤ 1048576 := Nat.le_trans (bulk_mem (by simp)) hb
  have hb4 : Rows.uptoBulk d4 ≤ 1048576 := Nat.le_trans (bulk_mem (by simp)) hb
  have hs0 := h0
  obtain ⟨n0, g0⟩ := h0
  have hs1 := h1
  obtain ⟨n1, g1⟩ := h1
  have hs2 := h2
  obtain ⟨n2, g2⟩ := h2
  have hs3 := h3
  obtain ⟨n3, g3⟩ := h3
  have hs4 := h4
  obtain ⟨n4, g4⟩ := h4
  rw [cells_int Tryd.underlying3 (hval 4 3 v4 rfl rfl)] at g4
  obtain ⟨s, hc0, hsok⟩ := rd_ip g0
  have hv0 : v0 = .agg (encIP s).toArray := agg_of hc0 (by simp [encIP])
  subst hv0
  obtain ⟨d, hc1, hdok⟩ := rd_ip g1
  have hv1 : v1 = .agg (encIP d).toArray := agg_of hc1 (by simp [encIP])
  subst hv1
  obtain ⟨u, ud, hc2, hud, huok, hul⟩ := rd_udp g2
  have hv2 : v2 = .agg (encUdp u ud).toArray := agg_of hc2 (by simp [encUdp])
  subst hv2
  simp only at hul
  obtain ⟨t, to_, td, hc3, hto, htd, htok, htl1, htl2, htl3⟩ := rd_tcp g3
  have hv3 : v3 = .agg (encTcp t to_ td).toArray := agg_of hc3 (by simp [encTcp])
  subst hv3
  simp only at htl1 htl2 htl3
  obtain ⟨k, hc4, hk⟩ := rd_int g4
  have hv4 : v4 = .int .i64 k := by simpa using hc4
  subst hv4
  have walk : Go.Proofs.YtkahmepenjhcpaaDoor.W.CallsD Tryd.prog 22 #[.agg (encIP s).toArray, .agg (encIP d).toArray, .agg (encUdp u ud).toArray, .agg (encTcp t to_ td).toArray, .int .i64 k] W (.bool true) := c22 s d u ud t to_ td k W hsok hdok hud (by omega) hto htd (by omega) (fun p hp => by have := htl2 p hp; omega) (by omega) (gv1_of (laidOf hL)) (gv2_of (laidOf hL)) (gv3_of (laidOf hL))
  refine Calls.mono (show Calls Tryd.prog 22 _ W _ from walk) fun e W' he => ?_
  cases e with
  | returned v =>
    obtain ⟨rfl, hg⟩ := he
    exact ⟨_, rfl, post_kept hW' (fun _ _ _ => trodAll_cons_mk (shut_bool Tryd.underlying4 _) trodAll_mk0)
      (fun sp hsp => trodAll_cons_mk (stays hg (by decide +kernel) hs0 sp (fun p hp => hsp p (by simp [hp]))) (trodAll_cons_mk (stays hg (by decide +kernel) hs1 sp (fun p hp => hsp p (by simp [hp]))) (trodAll_cons_mk (stays hg (by decide +kernel) hs2 sp (fun p hp => hsp p (by simp [hp]))) (trodAll_cons_mk (stays hg (by decide +kernel) hs3 sp (fun p hp => hsp p (by simp [hp]))) (trodAll_cons_mk (stays hg (by decide +kernel) hs4 sp (fun p hp => hsp p (by simp [hp]))) (trodAll_mk0)))))) (fun _ => rfl) (by simp) hg (ok_one (by kernel_rfl) rfl (okWide_bool_mk Tryd.underlying4 _))⟩
  | panicked c => exact he.elim
  | outgrown => exact he.elim

noncomputable abbrev laidWorld (os : Os) : World := laidWorld9 os
def ip0D {H : Type} : DataW H := .agg [.lit (.int .i64 0), .agg (List.replicate 16 (.lit (.int .u8 0)))]
def w0 : Value := .agg (encIP ⟨0, fun _ => 0⟩).toArray
def x0 {H : Type} : DataW H := ip0D
def w1 : Value := .agg (encIP ⟨0, fun _ => 0⟩).toArray
def x1 {H : Type} : DataW H := ip0D
def w2 : Value := .agg (encUdp ⟨0, 0, false, []⟩ (.slice none 0 0)).toArray
def x2 {H : Type} : DataW H := .agg [.lit (.int .i64 0), .lit (.int .i64 0), .lit (.bool false), .nil]
def w3 : Value := .agg (encTcp ⟨0, 0, 0, 0, 0, 0, 0, [], []⟩ (.slice none 0 0) (.slice none 0 0)).toArray
def x3 {H : Type} : DataW H := .agg [.lit (.int .i64 0), .lit (.int .i64 0), .lit (.int .i64 0), .lit (.int .i64 0), .lit (.int .i64 0), .lit (.int .i64 0), .lit (.int .i64 0), .nil, .nil]
def w4 : Value := .int .i64 0
def x4 {H : Type} : DataW H := .lit (.int .i64 0)
theorem laid_met (os : Os) : laidMet Tryd.prog Rows.l4EndsRow.laid ((laidWorld os).forCall (fun _ _ => 0) ⟨#[], #[w0, w1, w2, w3, w4], []⟩).memory :=
  laidMet_of_run' 8 (by kernel_rfl) (by kernel_rfl)
theorem reads (os : Os) {H : Type} (enc : TypeId × Value → H) : ∃ places, DataW.whole enc Tryd.prog ((laidWorld os).forCall (fun _ _ => 0) ⟨#[], #[w0, w1, w2, w3, w4], []⟩).memory Tryd.f22.params.toList Rows.l4EndsSpec.vars false (#[w0, w1, w2, w3, w4] : Array Value).toList 8 = some ([x0, x1, x2, x3, x4], [], places) :=
  ⟨[], by kernel_rfl⟩

theorem liftedUpto (os : Os) (started : os.Started) (H : Type) (enc : TypeId × Value → H) (F : Stop.Interp) :
    ReturnsInHanded {} Tryd.checked os 22 .any ((Rows.OpenSpec.upto Rows.l4EndsSpec).preRow enc Tryd.prog Tryd.f22 Rows.l4EndsUptoRow.domain false Rows.l4EndsUptoRow.laid) (((Rows.OpenSpec.upto Rows.l4EndsSpec).at F).post enc Tryd.prog Tryd.f22 false true false false) := by
  obtain ⟨places, hx⟩ := reads os enc
  refine returnsInHanded_of_row (C := Tryd.checked) (s := Rows.OpenSpec.upto Rows.l4EndsSpec) own started (by kernel_rfl) Tryd.func22
    (witness_row_at (enc := enc) (C := Tryd.checked) false (laidWorld os) #[w0, w1, w2, w3, w4] rfl (by kernel_rfl) (by kernel_rfl) (by kernel_rfl)
      (OpenSpec.preRow_of_cond 8 hx (by kernel_rfl) (fun k hk => by cases hk; kernel_rfl) (by kernel_rfl) (laid_met os))) ?_
  intro W base args ds gs before hval hW _ hcond _ hL _ _
  exact contract H enc W base args ds gs before hval hW (hcond _ rfl) hL

theorem closed : joinedFacts Tryd.prog 22 Tryd.f22 (Rows.OpenSpec.upto Rows.l4EndsSpec).bare Rows.l4EndsUptoRow = true :=
  joined (by kernel_rfl) (by kernel_rfl) (by kernel_rfl) (by kernel_rfl) (by kernel_rfl) (by kernel_rfl) (by kernel_rfl) (by kernel_rfl) (by kernel_rfl) (by kernel_rfl) (by kernel_rfl) (by kernel_rfl) (by kernel_rfl)
    (by kernel_rfl) (by kernel_rfl) (by kernel_rfl) (by kernel_rfl) (by kernel_rfl) (by kernel_rfl) (by kernel_rfl) (by kernel_rfl) (by kernel_rfl) (by kernel_rfl) (by kernel_rfl) (by kernel_rfl) (by kernel_rfl) (by kernel_rfl)
theorem instOf : Tryd.f22.isInstance Tryd.prog Rows.l4EndsUptoRow.origin Rows.l4EndsUptoRow.targs := of_decide_eq_true (by kernel_rfl)
theorem wrapOf : Tryd.f22.isWrapper Tryd.prog Rows.l4EndsUptoRow.wrapper Rows.l4EndsUptoRow.mainSum := by
  unfold Func.isWrapper; first | (rw [if_pos (by decide +kernel)]; kernel_rfl) | (rw [if_neg (by decide +kernel)]; exact ⟨rfl, rfl⟩)
theorem saidUpto : Rows.L4EndsUptoSaid :=
  OpenClaim.holds_of_cond 22 Tryd.f22 rfl rfl rfl rfl rfl rfl rfl ⟨rfl, rfl, rfl, rfl, rfl⟩ rfl rfl rfl rfl rfl (by kernel_rfl) Tryd.func22 closed instOf wrapOf
    (fun os started H enc _ F => by rw [OpenClaim.pre_eq_preRow]; exact liftedUpto os started H enc F)

theorem plain (f : FuncId) (fn : Func) (hf : Tryd.pinned.checked.prog.funcNamed "weir/weirlaw9.L4Ends" = some f) (hfn : Tryd.pinned.checked.prog.funcs[f]? = some fn) :
    false = Tryd.pinned.checked.prog.looks [] ∧ ∀ (j : Nat) t, fn.params[j]? = some t → Tryd.pinned.checked.prog.wantsStandIn t = false := by
  obtain rfl : f = 22 := Option.some.inj ((show Tryd.prog.funcNamed "weir/weirlaw9.L4Ends" = some 22 by kernel_rfl).symm.trans hf) |>.symm
  obtain rfl : fn = Tryd.f22 := (Option.some.inj (Tryd.func22.symm.trans hfn)).symm
  refine ⟨by kernel_rfl, fun j t ht => ?_⟩
  rw [Tryd.params22] at ht
  have hm := Array.mem_of_getElem? ht
  simp only [List.mem_toArray, List.mem_cons, List.not_mem_nil, or_false] at hm
  rcases hm with rfl | rfl | rfl | rfl | rfl
  · exact (show Tryd.prog.wantsStandIn 24 = false by kernel_rfl)
  · exact (show Tryd.prog.wantsStandIn 24 = false by kernel_rfl)
  · exact (show Tryd.prog.wantsStandIn 73 = false by kernel_rfl)
  · exact (show Tryd.prog.wantsStandIn 82 = false by kernel_rfl)
  · exact (show Tryd.prog.wantsStandIn 3 = false by kernel_rfl)

/-- THE CARD -/
theorem cardUpto : Rows.L4EndsUptoCardSaid :=
  Claim7.holds_tied_plain_at .later [] _ _ _ _ saidUpto (fun _ h => by cases h) (by kernel_rfl) (fun _ h => by cases h) l4EndsUpto_row_tie rfl ⟨rfl, rfl⟩ (by kernel_rfl) rfl plain (by kernel_rfl)
end Go.Proofs.YtkahmepenjhcpaaDoor.l4Ends
