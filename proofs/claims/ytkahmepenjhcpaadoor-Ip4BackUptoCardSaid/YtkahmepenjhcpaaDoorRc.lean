/- weirlaw6.Ip4Back: what is written is read as it was, is canonical, its sum right: for every datagram of bulk at most 1048576, the package's table being what the program lays. -/
import Derived.Test.YtkahmepenjhcpaaDoorCs
import Derived.Test.YtkahmepenjhcpaaDoorRk
import Derived.Test.YtkahmepenjhcpaaDoorCards
import Derived.Test.YtkahmepenjhcpaaDoorTie
import Derived.WalkKit
import Derived.ProofKit
import Derived.OpenShut
import Derived.Deep.DeepHandedRow
import Derived.Lib.LaidTab
namespace Go.Proofs.YtkahmepenjhcpaaDoor.ip4Back
open Go Go.ChangeShapes Go.WideShapes Go.ChangeAt Go.RowKit W
set_option linter.unusedVariables false
set_option maxRecDepth 100000

theorem own : ownKnob Tryd.prog.godebug = none := by kernel_rfl
theorem gTab : Tryd.prog.globalNamed "weir/ip4.widths" = some 0 := by kernel_rfl
theorem gTabType : (Tryd.prog.globals[0]?).map (·.type) = some 130 := by kernel_rfl
theorem cells130 : Tryd.prog.cellsOf 130 = 12 := by kernel_rfl

theorem table {W : World} (h : laidMetH Tryd.prog Rows.ip4BackRow.laid W) : Lib.TabIs Tryd.prog W "weir/ip4.widths" .i64 [4, 4, 8, 16, 16, 1, 1, 1, 13, 8, 8, 16] :=
  Lib.tabIs_of_head (rest := []) gTab gTabType Tryd.underlying130 Tryd.underlying3 cells3 cells130 h
theorem gv {W : World} (h : laidMetH Tryd.prog Rows.ip4BackRow.laid W) : GV [] W 0 130 (W4.map i64) := by
  intro i hi
  have hi' : i < 12 := by simpa using hi
  refine ⟨⟨0, 0, none⟩, rfl, rfl, by simp, ?_⟩
  have := (table h).cell gTab i (by simpa using hi')
  rw [Nat.zero_add, this, List.getElem_map, List.getD_eq_getElem?_getD, List.getElem?_eq_getElem (by simpa using hi')]
  rfl

theorem contract (H : Type) (enc : TypeId × Value → H) (W : World) (base : Nat) (args : Array Value) (ds gs : List (DataW H)) (before : List MemPlace)
    (hW : DataW.Whole enc Tryd.prog Tryd.f3.params.toList Rows.ip4BackSpec.vars false W args.toList ds gs before) (hk : Rows.uptoSmall H (ds ++ gs) = true) (hL : laidMetH Tryd.prog Rows.ip4BackRow.laid W) :
    Calls Tryd.prog 3 args W fun e W' => ∃ v, e = .returned v ∧ Rows.ip4BackSpec.post enc Tryd.prog Tryd.f3 false true false false W args v W' := by
  have hW' := hW
  obtain ⟨p, q, hA0, hV, rfl, hfz, hnd⟩ := hW
  have hA : DataW.TrodAll enc Tryd.prog W 0 (fun _ => true) true Tryd.f3.params.toList args.toList ds p := hA0
  rw [Tryd.params3] at hA
  obtain ⟨v0, vs0, d0, ds0, p0, q0, hargs, rfl, rfl, h0, r0⟩ := trodAll_cons hA
  obtain ⟨rfl, rfl, rfl⟩ := trodAll_nil r0
  obtain rfl : args = #[v0] := by cases args; simp_all
  obtain ⟨rfl, rfl⟩ := trodVars_none hV
  clear hA0
  simp only [List.append_nil] at hW' hk
  have hb : Rows.uptoBulkAll [d0] ≤ 1048576 := of_decide_eq_true hk
  have hb0 : Rows.uptoBulk d0 ≤ 1048576 := Nat.le_trans (bulk_mem (by simp)) hb
  obtain ⟨n0, h1⟩ := id h0
  obtain ⟨a, o, d, hc, hO, hd, hok, hl1, hl2, hl3⟩ := rd_ip4 h1
  have hv : v0 = .agg (encIp4 a o d).toArray := by
    cases v0 <;> first
      | (exfalso; have := congrArg List.length hc; simp [encIp4, encIP, Value.cells] at this; done)
      | (simp only [Value.cells] at hc; rw [← hc])
  subst hv
  have hl2' : ∀ x ∈ a.opts, x.data.length ≤ 140737488355328 := fun x hx => by have := hl2 x hx; simp only at this; omega
  have walk := c3 a o d W hO hd (by simp only at hl1; omega) (by simp only at hl3; omega) hok.2.2.2.2.2.1 hok.2.2.2.2.2.2.1 hl2' (gv hL)
  refine Calls.mono (show Calls Tryd.prog 3 _ W _ from walk) fun e W' he => ?_
  cases e with
  | returned v =>
    obtain ⟨rfl, hg⟩ := he
    exact ⟨_, rfl, post_kept hW' (fun _ _ _ => trodAll_cons_mk (shut_bool Tryd.underlying4 _) trodAll_mk0)
      (fun sp hsp => trodAll_mk1 (stays hg (by decide +kernel) h0 sp hsp)) (fun _ => rfl) rfl hg (ok_one (by kernel_rfl) rfl (okWide_bool_mk Tryd.underlying4 _))⟩
  | panicked c => exact he.elim
  | outgrown => exact he.elim

end Go.Proofs.YtkahmepenjhcpaaDoor.ip4Back
