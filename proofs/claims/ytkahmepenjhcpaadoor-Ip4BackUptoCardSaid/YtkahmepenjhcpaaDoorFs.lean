/- The base of this seat's proofs, twelfth part: lists of options of one's own. No statement of the seat is proved here. -/
import Derived.Test.YtkahmepenjhcpaaDoorSc
import Derived.Test.YtkahmepenjhcpaaDoorFr
namespace Go.Proofs.YtkahmepenjhcpaaDoor.W
open Go
set_option linter.unusedVariables false

section op
variable {P : Program} {R : Qp} {ds : List Deferred} {n : Nat} {l : Env} {k : List KI} {w w0 : World} {ops : Array Oper} {os : List Oper}
variable {d d1 d2 : Nat} {ty ty1 ty2 : TypeId} {ps ps1 ps2 : String} {af af1 af2 : Array Edge} {x y z : Operand} {N0 : List Nat} {L L' : List Own}

/-- append of one option that stands in a slice of its own -/
theorem apO {T : TypeId} {zc : List Value} {i : Nat} {v q q0 : Value} {kd : Int} (dt : List Int) {ol : List Opt} {vs : List Value} {L' : Value → List Own} (hx : ev l x = some ([], v)) (hy : ev l y = some ([], q0)) (hE : ElT P T 93 2 32 zc)
    (hq : Sl [] w 2 q0 1 [i64 kd, q]) (h1 : q.oneCell' = true) (hl : vs.length = ol.length) (S : St N0 w0 L w) (hk : getN L i = some (oO v ol vs)) (hn : Nat.blt d n = true)
    (hL : ∀ v', setN L i (oO v' (ol ++ [⟨kd, dt⟩]) (vs ++ [q])) = some (L' v')) (hroom : (ol.length + 1) * 32 ≤ 140737488355328)
    (h : ∀ v' w', St N0 w0 (L' v') w' → w.heap.size ≤ w'.heap.size → Ro P R ds n ops ((d, [], v') :: l) os k w') :
    Ro P R ds n ops l ({ dst := some d, op := .call { callee := .builtin .append, args := #[x, y], argTypes := #[T, T] }, type := ty, pos := ps, after := af, guard := none } :: os) k w :=
  ap hx hy hE hq (one_cons rfl (one_cons h1 one_nil)) S hk hn (fun v' => by
    have := hL v'
    rw [oO, optC_app hl] at this
    simpa [optC] using this) (by omega) (by simp only [maxLen]; omega) h
end op

/-- what is made new for the caller: options -/
def FO (w w' : World) (v : Value) (os : List Opt) (ds : List Value) : Prop := Bl w w' ∧ (oO v os ds).holds w' ∧ ∀ i ∈ (oO v os ds).ids, w.heap.size ≤ i
theorem St.fo {N0 : List Nat} {w0 w w' : World} {L : List Own} {v : Value} {os : List Opt} {ds : List Value} (S : St N0 w0 L w) (h : FO w w' v os ds) : St N0 w0 (oO v os ds :: L) w' :=
  S.new h.1 h.2.1 h.2.2 (Own.ids_nodup _)
theorem St.toFO {w0 w : World} {L : List Own} {v : Value} {os : List Opt} {ds : List Value} {i : Nat} (S : St [] w0 L w) (hk : getN L i = some (oO v os ds)) : FO w0 w v os ds := ⟨S.bl, S.rowI hk, S.fresh hk⟩
theorem BSs.snoc {N : List Nat} {w : World} : ∀ {vs : List Value} {ls : List (List Int)} {q : Value} {l : List Int}, BSs N w vs ls → BS N w q l → BSs N w (vs ++ [q]) (ls ++ [l])
  | [], [], q, l, _, h2 => ⟨h2, trivial⟩
  | [], _ :: _, _, _, h, _ => h.elim
  | _ :: _, [], _, _, h, _ => h.elim
  | _ :: _, _ :: _, _, _, h, h2 => ⟨h.1, BSs.snoc h.2 h2⟩
theorem OSs.snoc {N : List Nat} {w : World} {vs : List Value} {os : List Opt} {q : Value} {o : Opt} (h : OSs N w vs os) (h2 : BS N w q o.data) : OSs N w (vs ++ [q]) (os ++ [o]) := by
  have := BSs.snoc h h2
  unfold OSs; simpa using this
/-- a list of options of one's own, read -/
theorem St.osI {N0 : List Nat} {w0 w : World} {L : List Own} {v : Value} {os : List Opt} {ds : List Value} {i : Nat} (S : St N0 w0 L w) (hk : getN L i = some (oO v os ds)) (h : OSs [] w ds os) : OS [] w v os := ⟨ds, S.slI hk, h⟩

/-! ### reading options: the plain answer -/
def optsG : List Int → Option (List Opt)
  | [] => some []
  | [k] => if k = 0 ∨ k = 1 then some [] else none
  | k :: n :: r => if k = 0 then some [] else if k = 1 then optsG (n :: r) else if n < 2 ∨ r.length < n.toNat - 2 then none else (optsG (r.drop (n.toNat - 2))).map (⟨k, r.take (n.toNat - 2)⟩ :: ·)
termination_by l => l.length
decreasing_by all_goals simp; try omega
def optE (b : List Int) : Int := if 40 < b.length then 65 else if (optsG b).isSome then 0 else 65
def optL (b : List Int) : List Opt := if 40 < b.length then [] else (optsG b).getD []

theorem drop_cons {b : List Int} {i : Nat} (h : i < b.length) : b.drop i = b.getD i 0 :: b.drop (i + 1) := by
  rw [List.drop_eq_getElem_cons h, List.getD_eq_getElem?_getD, List.getElem?_eq_getElem h]; rfl
theorem optsG_zero {b : List Int} {i : Nat} (h : i < b.length) (h0 : b.getD i 0 = 0) : optsG (b.drop i) = some [] := by
  rw [drop_cons h, h0]
  cases b.drop (i + 1) <;> rw [optsG] <;> simp
theorem optsG_one {b : List Int} {i : Nat} (h : i < b.length) (h0 : b.getD i 0 = 1) : optsG (b.drop i) = optsG (b.drop (i + 1)) := by
  rw [drop_cons h, h0]
  cases b.drop (i + 1) <;> rw [optsG] <;> simp [optsG]
theorem optsG_end {b : List Int} {i : Nat} (h : i + 1 = b.length) (h0 : b.getD i 0 ≠ 0) (h1 : b.getD i 0 ≠ 1) : optsG (b.drop i) = none := by
  rw [drop_cons (by omega), List.drop_eq_nil_of_le (by omega), optsG]
  simp only [h0, h1, or_self, if_false]
theorem optsG_bad {b : List Int} {i : Nat} (h : i + 1 < b.length) (h0 : b.getD i 0 ≠ 0) (h1 : b.getD i 0 ≠ 1) (hn : b.getD (i + 1) 0 < 2 ∨ (b.length : Int) < i + b.getD (i + 1) 0) : optsG (b.drop i) = none := by
  rw [drop_cons (by omega), drop_cons h, optsG]
  have : b.getD (i + 1) 0 < 2 ∨ (b.drop (i + 1 + 1)).length < (b.getD (i + 1) 0).toNat - 2 := by
    rw [List.length_drop]; omega
  rw [if_neg h0, if_neg h1, if_pos this]
theorem optsG_go {b : List Int} {i m : Nat} (h0 : b.getD i 0 ≠ 0) (h1 : b.getD i 0 ≠ 1) (hm : b.getD (i + 1) 0 = m) (h2 : 2 ≤ m) (h3 : i + m ≤ b.length) :
    optsG (b.drop i) = (optsG (b.drop (i + m))).map (⟨b.getD i 0, (b.drop (i + 2)).take (i + m - (i + 2))⟩ :: ·) := by
  rw [drop_cons (show i < b.length by omega), drop_cons (show i + 1 < b.length by omega), optsG, hm]
  have : ¬ ((m : Int) < 2 ∨ (b.drop (i + 1 + 1)).length < (m : Int).toNat - 2) := by
    rw [List.length_drop]; omega
  rw [if_neg h0, if_neg h1, if_neg this, List.drop_drop]
  have e1 : i + 1 + 1 + ((m : Int).toNat - 2) = i + m := by omega
  have e2 : (m : Int).toNat - 2 = i + m - (i + 2) := by omega
  rw [e1, e2]
/-- what has been read, and what follows -/
def optAcc (b : List Int) (acc : List Opt) (i : Nat) : Prop := optsG b = (optsG (b.drop i)).map (acc ++ ·)
theorem optAcc.zero (b : List Int) : optAcc b [] 0 := by
  unfold optAcc; simp
theorem optAcc.step {b : List Int} {acc : List Opt} {i j : Nat} {o : Opt} (h : optAcc b acc i) (hs : optsG (b.drop i) = (optsG (b.drop j)).map (o :: ·)) : optAcc b (acc ++ [o]) j := by
  unfold optAcc at *
  rw [h, hs]
  cases optsG (b.drop j) <;> simp
theorem optAcc.skip {b : List Int} {acc : List Opt} {i j : Nat} (h : optAcc b acc i) (hs : optsG (b.drop i) = optsG (b.drop j)) : optAcc b acc j := by
  unfold optAcc at *; rw [h, hs]
theorem optAcc.bad {b : List Int} {acc : List Opt} {i : Nat} (h : optAcc b acc i) (h4 : b.length ≤ 40) (hs : optsG (b.drop i) = none) : optE b = 65 ∧ optL b = [] := by
  unfold optAcc at h
  rw [hs] at h
  have : ¬ 40 < b.length := by omega
  simp only [optE, optL, this, if_false, h]; simp
theorem optAcc.good {b : List Int} {acc : List Opt} {i : Nat} (h : optAcc b acc i) (h4 : b.length ≤ 40) (hs : optsG (b.drop i) = some []) : optE b = 0 ∧ optL b = acc := by
  unfold optAcc at h
  rw [hs] at h
  have : ¬ 40 < b.length := by omega
  simp only [optE, optL, this, if_false, h]; simp
theorem optsG_nil {b : List Int} {i : Nat} (h : b.length ≤ i) : optsG (b.drop i) = some [] := by rw [List.drop_eq_nil_of_le h, optsG]
theorem opt_long {b : List Int} (h : 40 < b.length) : optE b = 65 ∧ optL b = [] := by simp [optE, optL, h]
theorem acc_len {acc : List Opt} {i : Nat} (h : acc.length ≤ i) (o : Opt) {j : Nat} (hj : i + 2 ≤ j) : (acc ++ [o]).length ≤ j := by simp; omega
end Go.Proofs.YtkahmepenjhcpaaDoor.W
