/- What the reading of an argument gives: numbers, bytes, options, addresses, datagrams. No statement of the seat is proved here. -/
import Derived.Test.YtkahmepenjhcpaaDoorFt
import Derived.Test.YtkahmepenjhcpaaDoorRows
import Derived.OpenShut
import Derived.ChangeStays
import Derived.ChangeBears
import Derived.Deep.Slices
namespace Go.Proofs.YtkahmepenjhcpaaDoor.W
open Go
set_option linter.unusedVariables false
set_option linter.unusedSimpArgs false

section
variable {H : Type} {enc : TypeId × Value → H} {W : World} {hd : Bool} {n : Nat} {cs : List Value} {x : DataW H × List MemPlace}

theorem wf_i64 {k : Int} (h : (Lit.int .i64 k).wf = true) : inI k := by
  have := h
  simp [Lit.wf, IntKind.min, IntKind.max, IntKind.signed, IntKind.bits] at this
  unfold inI; omega
theorem wf_u8 {k : Int} (h : (Lit.int .u8 k).wf = true) : 0 ≤ k ∧ k < 256 := by
  have := h
  simp [Lit.wf, IntKind.min, IntKind.max, IntKind.signed, IntKind.bits] at this
  omega

theorem rd_int (h : DataW.trod enc Tryd.prog W 0 (fun _ => true) hd n 3 cs = some x) : ∃ k, cs = [i64 k] ∧ inI k := by
  obtain ⟨k, h1, _, h2⟩ := DataW.trod_int Tryd.underlying3 h
  exact ⟨k, h1, wf_i64 h2⟩
theorem rd_u8 (h : DataW.trod enc Tryd.prog W 0 (fun _ => true) hd n 5 cs = some x) : ∃ k, cs = [u8 k] ∧ 0 ≤ k ∧ k < 256 := by
  obtain ⟨k, h1, _, h2⟩ := DataW.trod_int Tryd.underlying5 h
  exact ⟨k, h1, wf_u8 h2⟩
theorem rd_bool (h : DataW.trod enc Tryd.prog W 0 (fun _ => true) hd n 4 cs = some x) : ∃ b, cs = [.bool b] := by
  obtain ⟨b, h1, _⟩ := DataW.trod_bool Tryd.underlying4 h
  exact ⟨b, h1⟩

theorem cell_spot {w : World} {a : Addr} {v : Value} (h : w.cell? a = some v) : a.spot = none := by
  cases hs : a.spot with
  | none => rfl
  | some s =>
    obtain ⟨b, o, sp⟩ := a
    simp only at hs
    subst hs
    simp only [World.cell?] at h
    split at h <;> simp at h

theorem cells_get {w : World} {a : Addr} {m : Nat} {cs : List Value} (h : w.cells? 0 a m = some cs) : cs.length = m ∧ ∀ i, i < m → w.cell? (a.add i) = cs[i]? := by
  unfold World.cells? at h
  rw [if_pos (Nat.zero_le _)] at h
  refine ⟨by simpa using mapM_some_length h, fun i hi => ?_⟩
  exact mapM_some_get h i i (by simp [hi])

theorem bulk1 (d : DataW H) : 1 ≤ Rows.uptoBulk d := by
  cases d with
  | lit l => cases l <;> simp [Rows.uptoBulk]
  | _ => simp [Rows.uptoBulk]
theorem bulk_len : ∀ l : List (DataW H), l.length ≤ Rows.uptoBulkAll l
  | [] => by simp [Rows.uptoBulkAll]
  | d :: l => by have := bulk1 d; have := bulk_len l; simp only [Rows.uptoBulkAll, List.length_cons]; omega
theorem bulk_mem {d : DataW H} : ∀ {l : List (DataW H)}, d ∈ l → Rows.uptoBulk d ≤ Rows.uptoBulkAll l
  | [], h => by simp at h
  | x :: l, h => by
    simp only [Rows.uptoBulkAll]
    rcases List.mem_cons.1 h with e | e
    · rw [e]; omega
    · have := bulk_mem e; omega
theorem bulk_slice (a b : List (DataW H)) : Rows.uptoBulkAll a + 1 ≤ Rows.uptoBulk (.slice a b) := by simp only [Rows.uptoBulk]; omega
theorem bulk_agg (a : List (DataW H)) : Rows.uptoBulkAll a ≤ Rows.uptoBulk (.agg a) := by simp only [Rows.uptoBulk]; omega

/-- bytes, read -/
theorem rd_bytes {v : Value} (h : DataW.trod enc Tryd.prog W 0 (fun _ => true) hd n 26 [v] = some x) : ∃ l, BS [] W v l ∧ l.length ≤ Rows.uptoBulk x.1 := by
  rcases Go.Deep.open_slice Tryd.underlying26 h with ⟨h1, _⟩ | ⟨a, len, cap, m, k, D, Pl, h1, _, hlc, hcm, hm, hxe, hel⟩
  · simp only [List.cons.injEq, and_true] at h1
    subst h1
    exact ⟨[], BS.nil _ _, by simp⟩
  · simp only [List.cons.injEq, and_true] at h1
    subst h1
    simp only [if_true] at hm
    subst hm
    have hx : ∀ i, ∃ b, i < m → W.cell? (a.add i) = some (u8 b) ∧ 0 ≤ b ∧ b < 256 := by
      intro i
      by_cases hi : i < m
      · obtain ⟨cs', g1, g2⟩ := hel i hi
        rw [cells5, Nat.mul_one] at g1
        obtain ⟨b, rfl, hb⟩ := rd_u8 g2
        have h0 := (cells_get g1).2 0 (by omega)
        have hz : (a.add i).add 0 = a.add i := by simp [Addr.add]
        rw [hz] at h0
        exact ⟨b, fun _ => ⟨h0, hb⟩⟩
      · exact ⟨0, fun h => absurd h hi⟩
    obtain ⟨f, hf⟩ := Classical.axiomOfChoice hx
    refine ⟨(List.range len).map f, ⟨?_, by simp, some a, m, by simp, by simpa using hlc, (fun e => nomatch e), ?_⟩, by rw [hxe]; have h1 := bulk_slice ((List.range len).map D) ((List.range (m - len)).map fun j => D (len + j)); have h2 := bulk_len ((List.range len).map D); simp only [List.length_map, List.length_range] at h2 ⊢; omega⟩
    · intro b hb
      obtain ⟨i, hi, rfl⟩ := List.mem_map.1 hb
      have := (hf i (by have := List.mem_range.1 hi; omega)).2
      exact this
    · intro i hi
      simp only [List.length_map, List.length_range] at hi
      have h1 := (hf i (by omega)).1
      have hs2 : a.spot = none := by
        have h0 := (hf 0 (by omega)).1
        rw [show a.add 0 = a from by simp [Addr.add]] at h0
        exact cell_spot h0
      refine ⟨a, rfl, hs2, by simp, ?_⟩
      have e : (⟨a.block, a.off + i, none⟩ : Addr) = a.add i := by
        obtain ⟨b, o, sp⟩ := a
        simp only at hs2
        subst hs2; exact (add_new b o i).symm
      rw [e, h1]
      simp

theorem rd_field {t : TypeId} {fs : Array Field} (ht : Tryd.prog.underlying t = some (.struct fs)) (h : DataW.trod enc Tryd.prog W 0 (fun _ => true) hd n t cs = some x) (i : Nat) {ft : TypeId} {off sz : Nat}
    (hf : (fs[i]?).map (fun f => (f.type, f.offset)) = some (ft, off)) (hc : Tryd.prog.cellsOf ft = sz) :
    ∃ y k, DataW.trod enc Tryd.prog W 0 (fun _ => true) hd k ft ((cs.drop off).take sz) = some y ∧ Rows.uptoBulk y.1 ≤ Rows.uptoBulk x.1 := by
  obtain ⟨xs, k, _, hx, _, hl, hg⟩ := DataW.trod_struct ht h
  cases hff : fs[i]? with
  | none => rw [hff] at hf; simp at hf
  | some f =>
    rw [hff] at hf
    simp only [Option.map_some, Option.some.injEq, Prod.mk.injEq] at hf
    obtain ⟨rfl, rfl⟩ := hf
    subst hc
    have hi : i < xs.length := by rw [hl]; exact (Array.getElem?_eq_some_iff.1 hff).1
    have h1 := hg i f hff
    rw [List.getElem?_eq_getElem hi] at h1
    refine ⟨xs[i], k, h1, ?_⟩
    rw [hx]
    have h2 := bulk_agg (xs.map (·.1))
    have h3 := bulk_mem (d := xs[i].1) (l := xs.map (·.1)) (List.mem_map_of_mem (List.getElem_mem hi))
    exact Nat.le_trans h3 h2
theorem rd_len {t : TypeId} {fs : Array Field} (ht : Tryd.prog.underlying t = some (.struct fs)) (h : DataW.trod enc Tryd.prog W 0 (fun _ => true) hd n t cs = some x) : cs.length = Tryd.prog.cellsOf t := by
  obtain ⟨xs, k, _, hx, hl, _⟩ := DataW.trod_struct ht h; exact hl

theorem cells93 : Tryd.prog.cellsOf 93 = 2 := by kernel_rfl
theorem cells22 : Tryd.prog.cellsOf 22 = 16 := by kernel_rfl
theorem cells24 : Tryd.prog.cellsOf 24 = 17 := by kernel_rfl
theorem cells28 : Tryd.prog.cellsOf 28 = 43 := by kernel_rfl
theorem cells3 : Tryd.prog.cellsOf 3 = 1 := by kernel_rfl
theorem cells4 : Tryd.prog.cellsOf 4 = 1 := by kernel_rfl
theorem cells26 : Tryd.prog.cellsOf 26 = 1 := by kernel_rfl
theorem cells25 : Tryd.prog.cellsOf 25 = 1 := by kernel_rfl

theorem take1 {l : List Value} {i : Nat} {v : Value} (h : (l.drop i).take 1 = [v]) : l[i]? = some v := by
  have := congrArg (fun l : List Value => l[0]?) h
  simpa [List.getElem?_take, List.getElem?_drop] using this

/-- an address, read -/
theorem rd_ip (h : DataW.trod enc Tryd.prog W 0 (fun _ => true) hd n 24 cs = some x) : ∃ X : IP, cs = encIP X ∧ X.ok := by
  have hl := rd_len Tryd.underlying24 h
  rw [cells24] at hl
  obtain ⟨y0, k0, g0, _⟩ := rd_field Tryd.underlying24 h 0 (ft := 3) (off := 0) rfl cells3
  obtain ⟨y1, k1, g1, _⟩ := rd_field Tryd.underlying24 h 1 (ft := 22) (off := 1) rfl cells22
  obtain ⟨v, e0, hv⟩ := rd_int g0
  obtain ⟨xs, m, _, _, hl1, hl2, hg⟩ := DataW.trod_array Tryd.underlying22 g1
  have hx : ∀ i, ∃ b, i < 16 → cs[1 + i]? = some (u8 b) ∧ 0 ≤ b ∧ b < 256 := by
    intro i
    by_cases hi : i < 16
    · have g := hg i hi
      rw [List.getElem?_eq_getElem (by omega), cells5, Nat.mul_one] at g
      obtain ⟨b, e, hb⟩ := rd_u8 g
      refine ⟨b, fun _ => ⟨?_, hb⟩⟩
      have e2 := take1 e
      rw [List.getElem?_take_of_lt hi, List.getElem?_drop] at e2
      exact e2
    · exact ⟨0, fun h => absurd h hi⟩
  obtain ⟨f, hf⟩ := Classical.axiomOfChoice hx
  refine ⟨⟨v, f⟩, ?_, fun i hi => (hf i hi).2, hv⟩
  apply List.ext_getElem?
  intro i
  rcases Nat.lt_or_ge i 17 with hi | hi
  · cases i with
    | zero => rw [take1 e0]; rfl
    | succ i =>
      have h1 := encIP_at ⟨v, f⟩ i (by omega)
      rw [show i + 1 = 1 + i from by omega, h1]
      exact (hf i (by omega)).1
  · rw [List.getElem?_eq_none (by omega), List.getElem?_eq_none (by simp [encIP]; omega)]

/-- an option, read -/
theorem rd_opt (h : DataW.trod enc Tryd.prog W 0 (fun _ => true) hd n 93 cs = some x) : ∃ k v l, cs = [i64 k, v] ∧ BS [] W v l ∧ inI k ∧ l.length ≤ Rows.uptoBulk x.1 := by
  have hl := rd_len Tryd.underlying93 h
  rw [cells93] at hl
  obtain ⟨y0, k0, g0, _⟩ := rd_field Tryd.underlying93 h 0 (ft := 3) (off := 0) rfl cells3
  obtain ⟨y1, k1, g1, hb⟩ := rd_field Tryd.underlying93 h 1 (ft := 26) (off := 1) rfl cells26
  rcases cs with _ | ⟨a, _ | ⟨b, _ | ⟨c, cs⟩⟩⟩ <;> simp at hl
  obtain ⟨k, e0, hk⟩ := rd_int g0
  simp only [List.drop_zero, List.take_succ_cons, List.take_zero, List.cons.injEq, and_true] at e0
  simp only [List.drop_succ_cons, List.drop_zero, List.take_succ_cons, List.take_zero] at g1
  obtain ⟨l, hB, hl2⟩ := rd_bytes g1
  exact ⟨k, b, l, by rw [e0], hB, hk, by omega⟩

theorem BSs.mk {N : List Nat} {w : World} (F : Nat → Value) (G : Nat → List Int) : ∀ (l : List Nat), (∀ i ∈ l, BS N w (F i) (G i)) → BSs N w (l.map F) (l.map G)
  | [], _ => trivial
  | i :: l, h => ⟨h i (by simp), BSs.mk F G l (fun j hj => h j (by simp [hj]))⟩

/-- options, read -/
theorem rd_opts {v : Value} (h : DataW.trod enc Tryd.prog W 0 (fun _ => true) hd n 25 [v] = some x) : ∃ os, OS [] W v os ∧ os.length ≤ Rows.uptoBulk x.1 ∧ ∀ o ∈ os, inI o.kind ∧ o.data.length ≤ Rows.uptoBulk x.1 := by
  rcases Go.Deep.open_slice Tryd.underlying25 h with ⟨h1, _⟩ | ⟨a, len, cap, m, k, D, Pl, h1, _, hlc, hcm, hm, hxe, hel⟩
  · simp only [List.cons.injEq, and_true] at h1
    subst h1
    exact ⟨[], OS.nil _ _, by simp, by simp⟩
  · simp only [List.cons.injEq, and_true] at h1
    subst h1
    simp only [if_true] at hm
    subst hm
    have hx : ∀ i, ∃ q : Int × Value × List Int, i < m → W.cell? (a.add (i * 2)) = some (i64 q.1) ∧ W.cell? (a.add (i * 2 + 1)) = some q.2.1 ∧ BS [] W q.2.1 q.2.2 ∧ inI q.1 ∧ q.2.2.length ≤ Rows.uptoBulk (D i) := by
      intro i
      by_cases hi : i < m
      · obtain ⟨cs', g1, g2⟩ := hel i hi
        rw [cells93] at g1
        obtain ⟨k, v, l, rfl, hB, hk, hl⟩ := rd_opt g2
        have h0 := (cells_get g1).2 0 (by omega)
        have h1 := (cells_get g1).2 1 (by omega)
        have e0 : (a.add (i * 2)).add 0 = a.add (i * 2) := by simp [Addr.add]
        have e1 : (a.add (i * 2)).add 1 = a.add (i * 2 + 1) := by
          unfold Addr.add
          by_cases hz : i * 2 = 0
          · simp [hz]
          · simp [hz]; omega
        rw [e0] at h0
        rw [e1] at h1
        exact ⟨(k, v, l), fun _ => ⟨h0, h1, hB, hk, hl⟩⟩
      · exact ⟨(0, undef, []), fun h => absurd h hi⟩
    obtain ⟨f, hf⟩ := Classical.axiomOfChoice hx
    have hbulk : ∀ i, i < len → Rows.uptoBulk (D i) ≤ Rows.uptoBulk x.1 := by
      intro i hi
      rw [hxe]
      have h1 := bulk_slice ((List.range len).map D) ((List.range (m - len)).map fun j => D (len + j))
      have h2 := bulk_mem (d := D i) (l := (List.range len).map D) (List.mem_map_of_mem (List.mem_range.2 hi))
      exact Nat.le_trans h2 (Nat.le_trans (Nat.le_succ _) h1)
    have hC : ∀ (r : List Nat), optC (r.map fun i => (⟨(f i).1, (f i).2.2⟩ : Opt)) (r.map fun i => (f i).2.1) = (r.map fun i => [i64 (f i).1, (f i).2.1]).flatten := by
      intro r
      induction r with
      | nil => rfl
      | cons i r ih => simp only [List.map_cons, optC, List.flatten_cons, ih]; rfl
    have hlenC : ∀ (r : List Nat), ((r.map fun i => [i64 (f i).1, (f i).2.1]).flatten).length = r.length * 2 := by
      intro r
      induction r with
      | nil => rfl
      | cons i r ih => simp only [List.map_cons, List.flatten_cons, List.length_append, ih, List.length_cons, List.length_nil]; omega
    refine ⟨(List.range len).map fun i => ⟨(f i).1, (f i).2.2⟩, ⟨(List.range len).map fun i => (f i).2.1, ?_, ?_⟩, ?_, ?_⟩
    · rw [hC]
      refine ⟨by rw [hlenC]; simp, some a, m, by simp, by simpa using hlc, (fun e => nomatch e), ?_⟩
      intro j hj
      rw [hlenC, List.length_range] at hj
      have hs2 : a.spot = none := by
        have h0 := (hf 0 (by omega)).1
        rw [show a.add (0 * 2) = a from by simp [Addr.add]] at h0
        exact cell_spot h0
      refine ⟨a, rfl, hs2, by simp, ?_⟩
      have e : (⟨a.block, a.off + j, none⟩ : Addr) = a.add j := by
        obtain ⟨b, o, sp⟩ := a
        simp only at hs2
        subst hs2; exact (add_new b o j).symm
      have hget : ∀ (r : List Nat) (j : Nat), j < r.length * 2 → ((r.map fun i => [i64 (f i).1, (f i).2.1]).flatten)[j]? = if j % 2 = 0 then (r[j / 2]?).map (fun i => i64 (f i).1) else (r[j / 2]?).map (fun i => (f i).2.1) := by
        intro r
        induction r with
        | nil => intro j hj; simp at hj
        | cons i r ih =>
          intro j hj
          match j with
          | 0 => simp
          | 1 => simp
          | j + 2 =>
            have e1 : (j + 2) % 2 = j % 2 := by omega
            have e2 : (j + 2) / 2 = j / 2 + 1 := by omega
            simp only [List.map_cons, List.flatten_cons, List.cons_append, List.nil_append, List.getElem?_cons_succ, e1, e2]
            exact ih j (by simp only [List.length_cons] at hj; omega)
      have hg := hget (List.range len) j (by simpa using hj)
      have hr : (List.range len)[j / 2]? = some (j / 2) := by rw [List.getElem?_range (by omega)]
      rw [hr] at hg
      rw [e, ← List.getElem?_eq_getElem, hg]
      have hq := hf (j / 2) (by omega)
      rcases Nat.mod_two_eq_zero_or_one j with h0 | h0
      · rw [if_pos h0, show j = j / 2 * 2 from by omega, hq.1]
        simp
      · rw [if_neg (by omega)]
        have : a.add j = a.add (j / 2 * 2 + 1) := by congr 1; omega
        rw [this, hq.2.1]
        rfl
    · unfold OSs
      rw [List.map_map]
      exact BSs.mk _ _ _ (fun i hi => (hf i (by have := List.mem_range.1 hi; omega)).2.2.1)
    · rw [hxe]
      have h1 := bulk_slice ((List.range len).map D) ((List.range (m - len)).map fun j => D (len + j))
      have h2 := bulk_len ((List.range len).map D)
      simp only [List.length_map, List.length_range] at h2 ⊢; omega
    · intro o ho
      obtain ⟨i, hi, rfl⟩ := List.mem_map.1 ho
      have hi' := List.mem_range.1 hi
      have hq := hf i (by omega)
      exact ⟨hq.2.2.2.1, Nat.le_trans hq.2.2.2.2 (hbulk i hi')⟩
end
end Go.Proofs.YtkahmepenjhcpaaDoor.W
