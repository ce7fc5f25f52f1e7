/- The closed facts of the rows, one by one. No statement of the seat is proved here. -/
import Derived.Test.YtkahmepenjhcpaaDoorRows
import Derived.JoinedOf
import Derived.KernelRfl
namespace Go.Proofs.YtkahmepenjhcpaaDoor.W
open Go
set_option maxRecDepth 100000
theorem j_laid : laidOutB Tryd.prog = true := by kernel_rfl
theorem j_maps : mapsRowed Tryd.prog = true := by kernel_rfl
theorem j_stops : (Tryd.prog.stops == []) = true := by kernel_rfl
theorem j_knobs : (Tryd.prog.stopKnobs == []) = true := by kernel_rfl
theorem j_plain : (true == Tryd.prog.plainKeys) = true := by kernel_rfl
theorem j_heard : Tryd.prog.stopsHeard = true := by kernel_rfl
theorem j_enter : Tryd.prog.mayEnter = true := by kernel_rfl
theorem j_lifts : (false == Tryd.prog.liftsFinal) = true := by kernel_rfl
theorem j_make : (Tryd.prog.make == some (Rows.ip4BackUptoRow.make)) = true := by kernel_rfl
/-- all of them, from those of the program and those of the row -/
theorem joined {f : FuncId} {fn : Func} {s : ChangeSpec} {c : OpenClaim}
    (h1 : c.wf (OpenSpec.ofChange s) = true) (h2 : fn.params.all (Tryd.prog.readableRec ·) = true) (h3 : namedTie Tryd.prog c.named s.vars = true) (h4 : (c.stops == []) = true) (h5 : (c.knobs == []) = true)
    (h6 : (c.inPlace == Tryd.prog.inPlace f) = true) (h7 : (c.unfollowed == Tryd.prog.unfollowed f) = true) (h8 : (c.recurses == Tryd.prog.recurses f) = true) (h9 : (c.named == Tryd.prog.varsNamed f) = true)
    (h10 : (c.maps == (fn.params.toList ++ s.plain.varTypes Tryd.prog).any (Tryd.prog.mapsRec ·)) = true) (h11 : (c.ifaces == (fn.params.toList ++ s.plain.varTypes Tryd.prog).any (Tryd.prog.ifacesRec ·)) = true) (h12 : (c.mapsOut == Tryd.prog.mapsAmong fn.resultTypes.toList) = true)
    (h13 : (c.loops == (fn.params.toList ++ s.plain.varTypes Tryd.prog).any (Tryd.prog.loopsFrom ·)) = true) (h14 : (c.wideKeys == (fn.params.toList ++ s.plain.varTypes Tryd.prog ++ fn.resultTypes.toList).any (Tryd.prog.wideKeysFrom ·)) = true)
    (h15 : s.vars.all (Tryd.prog.varReadable ·) = true) (h16 : fn.resultTypes.all (fun t => Tryd.prog.readableRec t && decide (t < Tryd.prog.types.size)) = true) (h17 : (c.ifacesOut == fn.resultTypes.toList.any (Tryd.prog.ifacesRec ·)) = true) (h18 : (c.loopsOut == fn.resultTypes.toList.any (Tryd.prog.loopsFrom ·)) = true)
    (h19 : (c.plainKeys == true) = true) (h20 : c.shortTexts.isNone = true) (h21 : (c.lifted == false) = true) (h22 : (c.make == Rows.ip4BackUptoRow.make) = true)
    (h23 : c.domain.isEmpty = true) (hkd : (c.kinds == []) = true) (h24 : (c.pinned == c.pinnedBy) = true)
    (h25 : (c.veiled == (fn.params.toList ++ s.plain.varTypes Tryd.prog ++ fn.resultTypes.toList).any (Tryd.prog.veiledRec ·)) = true) (h26 : c.veiledFits Tryd.prog fn.params.toList (fn.params.toList ++ s.plain.varTypes Tryd.prog ++ fn.resultTypes.toList) = true) :
    joinedFacts Tryd.prog f fn s c = true := by
  have e1 : c.plainKeys = true := by simpa using h19
  have e2 : c.lifted = false := by simpa using h21
  have e3 : c.make = Rows.ip4BackUptoRow.make := by simpa using h22
  unfold joinedFacts
  rw [h1, j_laid, j_maps, h2, h3, h4, j_stops, h5, j_knobs, h6, h7, h8, h9, h10, h11, h12, h13, h14, h15, h16, h17, h18, e1, j_plain, h20, j_heard, j_enter, e2, j_lifts, e3, j_make, if_pos h23, hkd, h24, h25, h26]
  rfl
end Go.Proofs.YtkahmepenjhcpaaDoor.W
