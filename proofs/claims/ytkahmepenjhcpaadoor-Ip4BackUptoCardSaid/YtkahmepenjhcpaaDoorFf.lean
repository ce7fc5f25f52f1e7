/- The base of this seat's proofs, sixth part: making, copying, texts, arrays, results that lie in memory. No statement of the seat is proved here. -/
import Derived.Test.YtkahmepenjhcpaaDoorFe
import Derived.Laws.BytesString
import Derived.ChangeKeysEq
import Derived.Laws.StructEq
namespace Go.Proofs.YtkahmepenjhcpaaDoor.W
open Go
set_option linter.unusedVariables false
set_option linter.unusedSimpArgs false

section op
variable {P : Program} {R : Qp} {ds : List Deferred} {n : Nat} {l : Env} {k : List KI} {w w0 : World} {ops : Array Oper} {os : List Oper}
variable {d : Nat} {G gx gy ex ey : Gs} {ty : TypeId} {ps : String} {af : Array Edge} {gu : Option (Nat × Bool)} {x y z : Operand} {N0 : List Nat} {L L' : List Own}

/-- make of a slice of m elements -/
theorem mk {T E : TypeId} {sz by_ : Nat} {zc xs : List Value} {k1 k2 : IntKind} {m : Nat} (hx : ev l x = some ([], .int k1 (m : Int))) (hy : ev l y = some ([], .int k2 (m : Int))) (hE : ElT P T E sz by_ zc)
    (S : St N0 w0 L w) (hn : Nat.blt d n = true) (hroom : m * by_ ≤ 281474976710656) (hmax : m ≤ maxLen)
    (hxs : (madeCells zc.toArray (m * sz)).toList = xs)
    (h : ∀ v w', St N0 w0 (.row v E sz m xs :: L) w' → Bl w w' → Ro P R ds n ops ((d, [], v) :: l) os k w') :
    Ro P R ds n ops l ({ dst := some d, op := .makeSlice T x y, type := ty, pos := ps, after := af, guard := none } :: os) k w := by
  obtain ⟨i, z, g1, g2, g3, g4, g5⟩ := hE.get
  have hby : (i.bytes : Int) * (m : Int) ≤ 281474976710656 := by
    rw [g3]
    have : ((m * by_ : Nat) : Int) = (by_ : Int) * (m : Int) := by rw [Nat.mul_comm]; simp
    omega
  have hr := run_make (P := P) w T E i z hE.u g1 g4 k1 k2 m m (by omega) (by omega) hby (by simp only [maxLen] at hmax; omega)
  have hzc : z.cells = zc.toArray := by rw [← g5]
  rw [hzc, g2] at hr
  simp only [Int.toNat_natCast] at hr
  have hxl : xs.length = m * sz := by rw [← hxs]; simp [madeCells]
  have e : madeCells zc.toArray (m * sz) = xs.toArray := by rw [← hxs]
  rw [e] at hr
  refine opw (w' := w.alloc (.cells xs.toArray E)) rfl rfl hn ?_ (h _ _ (S.newRow hxl hmax) (bl_alloc w _))
  intro a ha
  simp [execOp, ha.eval hx trivial, ha.eval hy trivial, hr]

theorem made_one (v : Value) (m : Nat) : (madeCells [v].toArray (m * 1)).toList = List.replicate m v := by
  apply List.ext_getElem
  · simp [madeCells]
  · intro i h1 h2
    simp [madeCells, Nat.mod_one]

theorem made_two (u v : Value) (m : Nat) : (madeCells [u, v].toArray (m * 2)).toList = (List.replicate m [u, v]).flatten := by
  apply List.ext_getElem?
  intro i
  have hl : (List.replicate m [u, v]).flatten.length = m * 2 := by simp
  rcases Nat.lt_or_ge i (m * 2) with h | h
  case inr => rw [List.getElem?_eq_none (by simp [madeCells]; omega), List.getElem?_eq_none (by omega)]
  have e : ∀ (m i : Nat), i < m * 2 → (List.replicate m [u, v]).flatten[i]? = [u, v][i % 2]? := by
    intro m
    induction m with
    | zero => intro i h; omega
    | succ m ih =>
      intro i h
      simp only [List.replicate_succ, List.flatten_cons]
      rcases i with _ | _ | i
      · rfl
      · rfl
      · have := ih i (by omega)
        rw [List.cons_append, List.cons_append, List.nil_append, List.getElem?_cons_succ, List.getElem?_cons_succ, this]
        congr 1
        omega
  rw [e m i h]
  have hi2 : i % 2 = 0 ∨ i % 2 = 1 := by omega
  simp only [madeCells]
  rw [Array.toList_map, List.getElem?_map]
  have : (Array.range (m * 2)).toList[i]? = some i := by simp [h]
  rw [this]
  rcases hi2 with e | e <;> simp [e]

/-- an array's cells, cut from their begin -/
theorem slA {T E : TypeId} {m hi b off : Nat} {o2 : Option Operand} {i2 : Option Nat} {ei : TypeInfo} (hx : ev l x = some (gx, .pointer (some ⟨b, off, none⟩))) (hu : P.underlying T = some (.array m E)) (hi' : P.info? E = some ei)
    (hG : gd ops l gu = some G) (hpx : G = gx ++ ex) (hn : Nat.blt d n = true) (h2 : bnd l G o2 i2) (e2 : i2.getD m = hi) (hb : Nat.ble hi m = true) (h0 : m ≠ 0)
    (h : Ro P R ds n ops ((d, G, .slice (some ⟨b, off, none⟩) hi m) :: l) os k w) :
    Ro P R ds n ops l ({ dst := some d, op := .slice T x none o2 none, type := ty, pos := ps, after := af, guard := gu } :: os) k w := by
  have hb' : hi ≤ m := Nat.le_of_ble_eq_true hb
  refine opv hG rfl hn ?_ h
  intro hT a ha
  obtain ⟨k2, q2⟩ := bnd_eval ha hT h2
  simp only [execOp, ha.eval hx (pre_T hpx hT), Option.map_none, q2]
  cases i2 with
  | none =>
    simp only [Option.getD_none] at e2; subst e2
    simp [Instr.sliceAt, run_underlying hu, Instr.sureAddr, Instr.sliceBounds, sizeOf, typeInfo, hi', h0, add_new]
  | some i2 =>
    simp only [Option.getD_some] at e2; subst e2
    simp [Instr.sliceAt, run_underlying hu, Instr.sureAddr, Instr.sliceBounds, sizeOf, typeInfo, hi', h0, sb_run (P := P) hb', add_new]

/-- a part of a variable, read as a slice -/
theorem St.varSl {b off i sz m cap : Nat} {T : TypeId} {c cs : List Value} (S : St N0 w0 L w) (hk : getN L i = some (.var b T c)) (hc : subN c off (m * sz) = some cs) (hl : cs.length = m * sz) (hm : m ≤ cap) :
    Sl [] w sz (.slice (some ⟨b, off, none⟩) m cap) m cs := by
  refine ⟨hl, some ⟨b, off, none⟩, cap, rfl, hm, (fun e => absurd e (by simp)), ?_⟩
  intro j hj
  refine ⟨_, rfl, rfl, by simp, ?_⟩
  have := cellsLoad (S.var hk) (by rw [hl]; exact hc) (by omega) j cs[j] (List.getElem?_eq_getElem hj)
  rw [add_new] at this
  exact this

/-- copy into a variable's cells -/
theorem cpV {T T2 E : TypeId} {by_ : Nat} {zc : List Value} {b off dl dc i : Nat} {T' : TypeId} {c c' ys : List Value} {q : Value} (hx : ev l x = some ([], .slice (some ⟨b, off, none⟩) dl dc)) (hy : ev l y = some ([], q)) (hE : ElT P T E 1 by_ zc)
    (hq : Sl [] w 1 q dl ys) (h1 : ∀ e ∈ ys, e.oneCell' = true) (h0 : dl ≠ 0) (S : St N0 w0 L w) (hk : getN L i = some (.var b T' c)) (hc : putN c off ys = some c') (hL : setN L i (.var b T' c') = some L') (hn : Nat.blt d n = true)
    (h : ∀ w', St N0 w0 L' w' → Ro P R ds n ops ((d, [], .int .i64 dl) :: l) os k w') :
    Ro P R ds n ops l ({ dst := some d, op := .call { callee := .builtin .copy, args := #[x, y], argTypes := #[T, T2] }, type := ty, pos := ps, after := af, guard := none } :: os) k w := by
  obtain ⟨hlen, A, cap, rfl, hcap, hA, hR⟩ := hq
  obtain ⟨a, rfl⟩ : ∃ a, A = some a := by
    obtain ⟨a, ha, _⟩ := hR 0 (by omega); exact ⟨a, ha⟩
  have hne : ys ≠ [] := by intro e; subst e; simp at hlen; omega
  obtain ⟨h2, h3⟩ := putN_spec _ _ _ _ hc hne
  have hi : (P.info? E).map (·.size) = some 1 := by
    obtain ⟨i, z, g1, g2, _⟩ := hE.get
    simp [g1, g2]
  have hl1 : ys.length = dl := by omega
  have hr := run_copy_row (P := P) w T T2 ty E b off dl dc a dl cap c.toArray T' ys hE.u hi (S.var hk) (by simp [hl1, Nat.min_def]) hR.cells (by simpa using h2) h1
  refine opw (w' := w.setRow b c'.toArray) rfl rfl hn ?_ (h _ (S.put hk hL))
  intro A ha
  have : (Builtin.copy_ #[T, T2] ty #[.slice (some ⟨b, off, none⟩) dl dc, .slice (some a) dl cap]).run P w = .ok (.int .i64 dl) (w.setRow b c'.toArray) := by
    rw [hr, h3, hl1]; simp [goInt]
  simp [execOp, resolve, invoke, builtin, ha.eval hx trivial, ha.eval hy trivial, this]

/-! ### texts -/
def strB (bs : List Int) : ByteArray := bs.foldl (fun r n => r.push (UInt8.ofNat n.toNat)) ByteArray.empty

theorem strB_toList (bs : List Int) : (strB bs).toList = bs.map fun n => UInt8.ofNat n.toNat := by
  have key : ∀ (bs : List Int) (s : ByteArray), (bs.foldl (fun r n => r.push (UInt8.ofNat n.toNat)) s).toList = s.toList ++ bs.map fun n => UInt8.ofNat n.toNat := by
    intro bs
    induction bs with
    | nil => intro s; simp
    | cons b r ih =>
      intro s
      simp only [List.foldl_cons, ih, List.map_cons]
      have : (s.push (UInt8.ofNat b.toNat)).toList = s.toList ++ [UInt8.ofNat b.toNat] := by
        rw [ByteArray.toList_eq, ByteArray.toList_eq]
        simp [ByteArray.push]
      rw [this]; simp
  have := key bs ByteArray.empty
  simpa [strB] using this

theorem strB_inj {a b : List Int} (ha : byt a) (hb : byt b) : (strB a).toList = (strB b).toList ↔ a = b := by
  rw [strB_toList, strB_toList]
  constructor
  · intro h
    induction a generalizing b with
    | nil => cases b with
      | nil => rfl
      | cons y s => simp at h
    | cons x r ih => cases b with
      | nil => simp at h
      | cons y s =>
        simp only [List.map_cons, List.cons.injEq] at h
        have hx := ha x (by simp)
        have hy := hb y (by simp)
        have he : x = y := by
          have := congrArg UInt8.toNat h.1
          simp only [UInt8.toNat_ofNat'] at this
          omega
        subst he
        rw [ih (fun z hz => ha z (by simp [hz])) (fun z hz => hb z (by simp [hz])) h.2]
  · rintro rfl; rfl

/-- bytes as a text -/
theorem cvS {src dst E : TypeId} {by_ : Nat} {zc : List Value} {v : Value} {bs : List Int} (hx : ev l x = some (gx, v)) (hB : BS N0 w0 v bs) (S : St N0 w0 L w) (hE : ElT P src E 1 by_ zc) (hu8 : P.underlying E = some (.int .u8)) (hd : P.underlying dst = some .string)
    (hG : gd ops l gu = some G) (hpx : G = gx ++ ex) (hn : Nat.blt d n = true) (h : Ro P R ds n ops ((d, G, .string (strB bs)) :: l) os k w) :
    Ro P R ds n ops l ({ dst := some d, op := .convert src dst x, type := ty, pos := ps, after := af, guard := gu } :: os) k w := by
  refine opv hG rfl hn ?_ h
  intro hT a ha
  have hB' := hB.now S
  obtain ⟨hlen, A, cap, rfl, hcap, hA, hR⟩ := hB'.2
  simp only [execOp, ha.eval hx (pre_T hpx hT), Sem.run_bind]
  rw [run_convert_bytes_string w src dst E A _ _ hE.u hu8 hd]
  cases A with
  | none =>
    have hc := hA rfl
    have : bs = [] := List.eq_nil_of_length_eq_zero (by omega)
    subst this
    simp [Conv.bytesToString, strB]
  | some a =>
    have hl := run_loadCells_list (P := P) (w := w) a (bs.map u8) hR.cells
    rw [List.length_map] at hl
    rw [run_bytesToString w a bs.length cap bs (by rw [hl])]
    rfl

theorem eqS {t yt : TypeId} {a b : List Int} (hx : ev l x = some (gx, .string (strB a))) (hy : ev l y = some (gy, .string (strB b))) (ha : byt a) (hb : byt b) (hG : gd ops l gu = some G) (hpx : G = gx ++ ex) (hpy : G = gy ++ ey) (hn : Nat.blt d n = true)
    (h : Ro P R ds n ops ((d, G, .bool (decide (a = b))) :: l) os k w) :
    Ro P R ds n ops l ({ dst := some d, op := .binOp .eql t x y yt, type := ty, pos := ps, after := af, guard := gu } :: os) k w :=
  bin hx hy hG hpx hpy hn (fun _ => by
    have h2 : eqGuard .eql t x y (.string (strB a)) (.string (strB b)) = pure () := by unfold eqGuard; rfl
    rw [h2]
    have h3 : ((strB a).toList == (strB b).toList) = decide (a = b) := by
      rw [Bool.eq_iff_iff]; simp [strB_inj ha hb]
    simp [binOp, Op.stringOp, h3]) h

/-! ### truth values compared -/
theorem eqB {t yt : TypeId} {a b : Bool} (hx : ev l x = some (gx, .bool a)) (hy : ev l y = some (gy, .bool b)) (ht : P.underlying t = some .bool) (hG : gd ops l gu = some G) (hpx : G = gx ++ ex) (hpy : G = gy ++ ey) (hn : Nat.blt d n = true)
    (h : Ro P R ds n ops ((d, G, .bool (a == b)) :: l) os k w) :
    Ro P R ds n ops l ({ dst := some d, op := .binOp .eql t x y yt, type := ty, pos := ps, after := af, guard := gu } :: os) k w :=
  bin hx hy hG hpx hpy hn (fun _ => by
    have h2 : eqGuard .eql t x y (.bool a) (.bool b) = pure () := by unfold eqGuard; rfl
    rw [h2]
    simp [binOp, run_equal_bool w t a b ht]) h
theorem neB {t yt : TypeId} {a b : Bool} (hx : ev l x = some (gx, .bool a)) (hy : ev l y = some (gy, .bool b)) (ht : P.underlying t = some .bool) (hG : gd ops l gu = some G) (hpx : G = gx ++ ex) (hpy : G = gy ++ ey) (hn : Nat.blt d n = true)
    (h : Ro P R ds n ops ((d, G, .bool (!(a == b))) :: l) os k w) :
    Ro P R ds n ops l ({ dst := some d, op := .binOp .neq t x y yt, type := ty, pos := ps, after := af, guard := gu } :: os) k w :=
  bin hx hy hG hpx hpy hn (fun _ => by
    have h2 : eqGuard .neq t x y (.bool a) (.bool b) = pure () := by unfold eqGuard; rfl
    rw [h2]
    simp [binOp, run_equal_bool w t a b ht]) h

/-! ### results that lie in memory -/
theorem loadVarRun {T : TypeId} {sz b i : Nat} {T' : TypeId} {c zc : List Value} (hT : TyI P T sz true zc) (S : St N0 w0 L w) (hk : getN L i = some (.var b T' c)) (hl : c.length = sz) :
    (loadVar T ⟨b, 0, none⟩).run P w = .ok (.agg c.toArray) w := by
  obtain ⟨i, z, dd, h1, h2, h3, h4, h5, h6⟩ := hT.get
  subst hl
  have hl := run_loadCells_list (P := P) (w := w) ⟨b, 0, none⟩ c (fun j v hj => by
    rw [add_new, cell_of_row w b (0 + j) _ _ _ (S.var hk), ← hj]; simp)
  simp only [loadVar, isAgg]
  cases dd <;> simp [aggD] at h6 <;> simp [run_underlying h5, sizeOf, typeInfo, h1, h2, hl]

theorem Rt.cell2 {fn : Func} {Rr : Value → World → Prop} {t u : Nat} {v : Value} {T : TypeId} {sz b i : Nat} {T' : TypeId} {c zc : List Value} (hr : fn.results = #[.cell t T, .tmp u]) (ht : lk l t = some ([], .pointer (some ⟨b, 0, none⟩))) (hu : lk l u = some ([], v))
    (hT : TyI P T sz true zc) (S : St N0 w0 L w) (hk : getN L i = some (.var b T' c)) (hl : c.length = sz) (h : Rr (.tuple #[.agg c.toArray, v]) w) :
    Rt P (bodyPost P fn (RV Rr)) [] n l k w :=
  Rt.top (R := bodyPost P fn (RV Rr)) (fun a ha => show bodyPost P fn (RV Rr) .ret a w from bodyPost_ret (v := .tuple #[.agg c.toArray, v]) (by
    have h1 := ha.getD ht
    have h2 := ha.getD hu
    simp only [Array.getD_eq_getD_getElem?] at h1 h2
    simp [results, hr, h1, h2, asAddr, loadVarRun hT S hk hl]) ha.defers h) k

theorem Rt.cell1 {fn : Func} {Rr : Value → World → Prop} {t : Nat} {T : TypeId} {sz b i : Nat} {T' : TypeId} {c zc : List Value} (hr : fn.results = #[.cell t T]) (ht : lk l t = some ([], .pointer (some ⟨b, 0, none⟩)))
    (hT : TyI P T sz true zc) (S : St N0 w0 L w) (hk : getN L i = some (.var b T' c)) (hl : c.length = sz) (h : Rr (.agg c.toArray) w) :
    Rt P (bodyPost P fn (RV Rr)) [] n l k w :=
  Rt.top (R := bodyPost P fn (RV Rr)) (fun a ha => show bodyPost P fn (RV Rr) .ret a w from bodyPost_ret (v := .agg c.toArray) (by
    have h1 := ha.getD ht
    simp only [Array.getD_eq_getD_getElem?] at h1
    simp [results, hr, h1, asAddr, loadVarRun hT S hk hl]) ha.defers h) k

end op
end Go.Proofs.YtkahmepenjhcpaaDoor.W
