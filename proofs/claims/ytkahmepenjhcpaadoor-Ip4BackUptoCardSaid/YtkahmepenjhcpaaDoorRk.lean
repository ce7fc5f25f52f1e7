/- A reading of the arguments stands behind a call that leaves what was there. No statement of the seat is proved here. -/
import Derived.Test.YtkahmepenjhcpaaDoorRb
import Derived.Below
import Derived.ChangeSame
import Derived.ProofKit
namespace Go.Proofs.YtkahmepenjhcpaaDoor.W
open Go
set_option linter.unusedVariables false

theorem laidOut : laidOutB Tryd.prog = true := by kernel_rfl
theorem mapsR : mapsRowed Tryd.prog = true := by kernel_rfl
def sizedB (P : Program) : Bool := (List.range P.types.size).all fun t => match P.underlying t with
  | some (.slice e) => decide (0 < P.cellsOf e)
  | _ => true
theorem sizedAll : sizedB Tryd.prog = true := by kernel_rfl
theorem sized {t e : TypeId} (ht : t < Tryd.prog.types.size) (hu : Tryd.prog.underlying t = some (.slice e)) : 0 < Tryd.prog.cellsOf e := by
  have h := sizedAll
  unfold sizedB at h
  rw [List.all_eq_true] at h
  have := h t (List.mem_range.2 ht)
  rw [hu] at this
  simpa using this

theorem stays {H : Type} {enc : TypeId × Value → H} {W W' : World} {t : TypeId} {v : Value} {d : DataW H} {p : List MemPlace} (B : Bl W W') (ht : t < Tryd.prog.types.size)
    (h : DataW.Trod enc Tryd.prog W 0 (fun _ => true) true t v d p) (sp : Nat → Bool) (hs : ∀ q ∈ p, sp q.block = true) : DataW.Trod enc Tryd.prog W' 0 sp true t v d p := by
  obtain ⟨n, h⟩ := h
  exact ⟨n, DataW.trod_stays (T := (· < Tryd.prog.types.size)) (kids_rows laidOut mapsR) (fun ht hu => sized ht hu) (fun h => by cases h) ht h
    (fun q hq => Go.RowKit.Below.same B (DataW.trod_lt n t _ _ h q hq)) hs⟩
/-- what a call that only reads leaves: the row's own answer -/
theorem post_kept {H : Type} {enc : TypeId × Value → H} {P : Program} {s : ChangeSpec} {f : Func} {apart fresh handsOn again : Bool} {W W' : World} {args : Array Value} {v : Value} {ds gs : List (DataW H)} {before pa : List MemPlace}
    (hW : DataW.Whole enc P f.params.toList s.vars apart W args.toList ds gs before)
    (hres : ∀ (b : Nat) (sp : Nat → Bool) (hd : Bool), DataW.TrodAll enc P W' b sp hd f.resultTypes.toList (v.resultList f.resultTypes.size) (s.fn H (ds ++ gs)).results [])
    (hargs : ∀ sp : Nat → Bool, (∀ p ∈ before, sp p.block = true) → DataW.TrodAll enc P W' 0 sp true f.params.toList args.toList (s.fn H (ds ++ gs)).args pa)
    (hvars : ∀ sp : Nat → Bool, DataW.TrodVars enc P W' sp s.vars (s.fn H (ds ++ gs)).vars [])
    (hps : before = pa) (B : Bl W W')
    (hok : ∀ (j : Nat) (t : TypeId) (r : Value), f.resultTypes[j]? = some t → (v.resultList f.resultTypes.size)[j]? = some r → Value.okWide P W' .any 0 t r) :
    s.post enc P f apart fresh handsOn again W args v W' := by
  have hlt := fun p hp => hW.lt p hp
  have hold : ∀ p ∈ before, (fun b => decide (b < W.heap.size)) p.block = true := fun p hp => by simpa using hlt p hp
  subst hps
  refine ⟨ds, gs, before, [], before, [], hW, hres _ _ _, hargs _ hold, hvars _, Go.RowKit.Below.frame B _, fun _ => ?_⟩
  obtain ⟨_, _, _, _, _, hz, hn⟩ := hW
  refine ⟨hok, _, _, ([] ++ before) ++ [], ⟨[] ++ before, [], Go.ChangeShapes.trodAll_append (hargs _ (fun _ _ => rfl)) (hres _ _ _), hvars _, rfl, ?_, ?_⟩, ?_⟩
  · intro b off hp
    have hp' : MemPlace.cell b off ∈ before := by simpa using hp
    rw [Go.RowKit.Below.frozen B (hlt _ hp')]
    exact hz b off hp'
  · intro ha
    have := hn ha
    simpa using this
  · intro p hp _
    simpa using hp
end Go.Proofs.YtkahmepenjhcpaaDoor.W
