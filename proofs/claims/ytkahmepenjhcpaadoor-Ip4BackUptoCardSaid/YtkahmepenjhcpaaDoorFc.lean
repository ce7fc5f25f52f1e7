/- The base of this seat's proofs, third part: what is in memory: blocks of one's own, slices that are read. No statement of the seat is proved here. -/
import Derived.Test.YtkahmepenjhcpaaDoorFb
namespace Go.Proofs.YtkahmepenjhcpaaDoor.W
open Go
set_option linter.unusedSimpArgs false

/-- what a function has for itself: a variable's block; a slice's -/
inductive Own where
  | var (b : Nat) (T : TypeId) (c : List Value)
  | row (v : Value) (T : TypeId) (sz n : Nat) (xs : List Value)

def Own.ids : Own → List Nat
  | .var b _ _ => [b]
  | .row (.slice (some a) _ _) _ _ _ _ => [a.block]
  | .row _ _ _ _ _ => []

def Own.holds (w : World) : Own → Prop
  | .var b T c => w.heap[b]? = some (.cells c.toArray T (0, 0))
  | .row v T sz n xs => w.ownsRow 0 T sz v n xs

abbrev idsL (L : List Own) : List Nat := L.flatMap Own.ids

structure St (N0 : List Nat) (w0 : World) (L : List Own) (w : World) : Prop where
  os : w.os = w0.os
  tape : w.tape = w0.tape
  output : w.output = w0.output
  size : w0.heap.size ≤ w.heap.size
  keep : ∀ i, i < w0.heap.size → i ∉ N0 → w.heap[i]? = w0.heap[i]?
  off : ∀ i, i < w0.heap.size → i ∉ N0 → i ∉ idsL L
  hold : ∀ o ∈ L, o.holds w
  nodup : (idsL L).Nodup

theorem lt_of_some {w : World} {i : Nat} {o : Obj} (h : w.heap[i]? = some o) : i < w.heap.size := by
  rcases Nat.lt_or_ge i w.heap.size with h' | h'
  · exact h'
  · rw [Array.getElem?_eq_none h'] at h; cases h

theorem Own.lt {w : World} {o : Own} (h : o.holds w) : ∀ i ∈ o.ids, i < w.heap.size := by
  cases o with
  | var b T c => intro i hi; simp only [Own.ids, List.mem_singleton] at hi; subst hi; exact lt_of_some h
  | row v T sz n xs =>
    obtain ⟨_, h⟩ := h
    rcases h with ⟨rfl, _⟩ | ⟨b, cap, c, rfl, _, hh, _⟩
    · intro i hi; simp [Own.ids] at hi
    · intro i hi; simp only [Own.ids, List.mem_singleton] at hi; subst hi; exact lt_of_some hh

/-- it holds on where its own blocks are as they were -/
theorem Own.keep {w w' : World} {o : Own} (h : o.holds w) (hk : ∀ i ∈ o.ids, w'.heap[i]? = w.heap[i]?) : o.holds w' := by
  cases o with
  | var b T c => show w'.heap[b]? = _; rw [hk b (by simp [Own.ids])]; exact h
  | row v T sz n xs =>
    obtain ⟨h0, h⟩ := h
    refine ⟨h0, ?_⟩
    rcases h with h | ⟨b, cap, c, rfl, hb, hh, r⟩
    · exact .inl h
    · exact .inr ⟨b, cap, c, rfl, hb, by rw [hk b (by simp [Own.ids])]; exact hh, r⟩

theorem St.refl (N : List Nat) (w : World) : St N w [] w :=
  ⟨rfl, rfl, rfl, Nat.le_refl _, fun _ _ _ => rfl, fun _ _ _ h => by simp at h, fun o ho => by simp at ho, by simp⟩

theorem St.lt {N0 : List Nat} {w0 w : World} {L : List Own} (S : St N0 w0 L w) : ∀ i ∈ idsL L, i < w.heap.size := by
  intro i hi
  obtain ⟨o, ho, hi⟩ := List.mem_flatMap.1 hi
  exact Own.lt (S.hold o ho) i hi

theorem St.call {N0 : List Nat} {w0 w w' : World} {L : List Own} (S : St N0 w0 L w) (B : Bl w w') : St N0 w0 L w' :=
  ⟨B.os.trans S.os, B.tape.trans S.tape, B.output.trans S.output, Nat.le_trans S.size B.size,
    fun i h1 h2 => (B.block i (Nat.lt_of_lt_of_le h1 S.size)).trans (S.keep i h1 h2), S.off,
    fun o ho => Own.keep (S.hold o ho) fun i hi => B.block i (Own.lt (S.hold o ho) i hi), S.nodup⟩

theorem St.bl {w0 w : World} {L : List Own} (S : St [] w0 L w) : Bl w0 w :=
  ⟨S.os, S.tape, S.output, S.size, fun i hi => S.keep i hi (by simp)⟩

theorem St.drew {N0 : List Nat} {w0 w : World} {L : List Own} (S : St N0 w0 L w) (m : Nat) : St N0 w0 L { w with drawn := m } :=
  ⟨S.os, S.tape, S.output, S.size, S.keep, S.off, fun o ho => Own.keep (S.hold o ho) fun _ _ => rfl, S.nodup⟩

/-- begin anew from here -/
theorem St.rebase {N0 : List Nat} {w0 w : World} {L : List Own} (S : St N0 w0 L w) : St (idsL L) w L w :=
  ⟨rfl, rfl, rfl, Nat.le_refl _, fun _ _ _ => rfl, fun _ _ h => h, S.hold, S.nodup⟩

/-- two stretches, one behind the other -/
theorem St.trans {N0 : List Nat} {w0 w1 w : World} {L1 L : List Own} (S : St N0 w0 L1 w1) (S' : St (idsL L1) w1 L w) : St N0 w0 L w :=
  ⟨S'.os.trans S.os, S'.tape.trans S.tape, S'.output.trans S.output, Nat.le_trans S.size S'.size,
    fun i h1 h2 => (S'.keep i (Nat.lt_of_lt_of_le h1 S.size) (S.off i h1 h2)).trans (S.keep i h1 h2),
    fun i h1 h2 => S'.off i (Nat.lt_of_lt_of_le h1 S.size) (S.off i h1 h2), S'.hold, S'.nodup⟩

/-- something new -/
theorem St.new {N0 : List Nat} {w0 w w' : World} {L : List Own} {o : Own} (S : St N0 w0 L w) (B : Bl w w') (ho : o.holds w')
    (hn : ∀ i ∈ o.ids, w.heap.size ≤ i) (hd : o.ids.Nodup) : St N0 w0 (o :: L) w' := by
  have S' := S.call B
  refine ⟨S'.os, S'.tape, S'.output, S'.size, S'.keep, ?_, ?_, ?_⟩
  · intro i h1 h2 h3
    simp only [idsL, List.flatMap_cons, List.mem_append] at h3
    rcases h3 with h3 | h3
    · have := hn i h3; have := S.size; omega
    · exact S.off i h1 h2 h3
  · intro p hp
    rcases List.mem_cons.1 hp with rfl | hp
    · exact ho
    · exact S'.hold p hp
  · simp only [idsL, List.flatMap_cons]
    refine List.nodup_append.2 ⟨hd, S.nodup, ?_⟩
    intro a ha b hb e
    subst e
    have := hn a ha; have := S.lt a hb; omega

theorem Own.ids_nodup (o : Own) : o.ids.Nodup := by
  cases o with
  | var b T c => simp [Own.ids]
  | row v T sz n xs => cases v <;> first | (simp [Own.ids]; done) | (rename_i a _ _; cases a <;> simp [Own.ids])

theorem St.perm {N0 : List Nat} {w0 w : World} {L L' : List Own} (S : St N0 w0 L w) (h : ∀ o ∈ L', o ∈ L) (hn : (idsL L').Nodup) : St N0 w0 L' w :=
  ⟨S.os, S.tape, S.output, S.size, S.keep, fun i h1 h2 h3 => by
    obtain ⟨o, ho, hi⟩ := List.mem_flatMap.1 h3
    exact S.off i h1 h2 (List.mem_flatMap.2 ⟨o, h o ho, hi⟩), fun o ho => S.hold o (h o ho), hn⟩

/-- what is no longer looked at -/
theorem St.drop {N0 : List Nat} {w0 w : World} {L1 L2 : List Own} {o : Own} (S : St N0 w0 (L1 ++ o :: L2) w) : St N0 w0 (L1 ++ L2) w :=
  S.perm (fun p hp => by simp only [List.mem_append, List.mem_cons] at *; rcases hp with h | h <;> simp [h]) (by
    have h := S.nodup
    simp only [idsL, List.flatMap_append, List.flatMap_cons] at *
    exact h.sublist (List.Sublist.append (List.Sublist.refl _) (List.sublist_append_right _ _)))

theorem St.drop0 {N0 : List Nat} {w0 w : World} {L2 : List Own} {o : Own} (S : St N0 w0 (o :: L2) w) : St N0 w0 L2 w := St.drop (L1 := []) S
theorem St.drop1 {N0 : List Nat} {w0 w : World} {L2 : List Own} {a o : Own} (S : St N0 w0 (a :: o :: L2) w) : St N0 w0 (a :: L2) w := St.drop (L1 := [a]) S
theorem St.clear {N0 : List Nat} {w0 w : World} {L : List Own} (S : St N0 w0 L w) : St N0 w0 [] w := S.perm (fun o ho => by simp at ho) (by simp)

theorem nodup_mid {α : Type} {A B B' C : List α} (h : (A ++ B ++ C).Nodup) (hB : B'.Nodup) (hd : ∀ x ∈ B', x ∉ A ∧ x ∉ C) : (A ++ B' ++ C).Nodup := by
  rw [List.append_assoc] at *
  obtain ⟨h1, h2, h3⟩ := List.nodup_append.1 h
  obtain ⟨_, h4, _⟩ := List.nodup_append.1 h2
  refine List.nodup_append.2 ⟨h1, List.nodup_append.2 ⟨hB, h4, ?_⟩, ?_⟩
  · intro a ha b hb e; subst e; exact (hd a ha).2 hb
  · intro a ha b hb e
    subst e
    rcases List.mem_append.1 hb with hb | hb
    · exact (hd a hb).1 ha
    · exact h3 a ha a (List.mem_append.2 (.inr hb)) rfl

/-- one of one's own blocks is written, or a new one takes its place -/
theorem St.turn {N0 : List Nat} {w0 w w' : World} {L1 L2 : List Own} {o o' : Own} (S : St N0 w0 (L1 ++ o :: L2) w)
    (h1 : w'.os = w.os) (h2 : w'.tape = w.tape) (h3 : w'.output = w.output) (h4 : w.heap.size ≤ w'.heap.size)
    (hk : ∀ i, i < w.heap.size → i ∉ o.ids → w'.heap[i]? = w.heap[i]?) (ho : o'.holds w')
    (hi : ∀ i ∈ o'.ids, i ∈ o.ids ∨ w.heap.size ≤ i) : St N0 w0 (L1 ++ o' :: L2) w' := by
  have hnd := S.nodup
  simp only [idsL, List.flatMap_append, List.flatMap_cons] at hnd
  rw [← List.append_assoc] at hnd
  have hapart : ∀ p, p ∈ L1 ∨ p ∈ L2 → ∀ i ∈ p.ids, i ∉ o.ids := by
    intro p hp i hi' hio
    obtain ⟨ha, hb, hc⟩ := List.nodup_append.1 hnd
    rcases hp with hp | hp
    · obtain ⟨_, _, hab⟩ := List.nodup_append.1 ha
      exact hab i (List.mem_flatMap.2 ⟨p, hp, hi'⟩) i hio rfl
    · exact hc i (List.mem_append.2 (.inr hio)) i (List.mem_flatMap.2 ⟨p, hp, hi'⟩) rfl
  refine ⟨h1.trans S.os, h2.trans S.tape, h3.trans S.output, Nat.le_trans S.size h4, ?_, ?_, ?_, ?_⟩
  · intro i hi1 hi2
    rw [hk i (Nat.lt_of_lt_of_le hi1 S.size) (fun hio => S.off i hi1 hi2 (List.mem_flatMap.2 ⟨o, by simp, hio⟩))]
    exact S.keep i hi1 hi2
  · intro i hi1 hi2 hi3
    obtain ⟨p, hp, hip⟩ := List.mem_flatMap.1 hi3
    simp only [List.mem_append, List.mem_cons] at hp
    rcases hp with hp | rfl | hp
    · exact S.off i hi1 hi2 (List.mem_flatMap.2 ⟨p, by simp [hp], hip⟩)
    · rcases hi i hip with h | h
      · exact S.off i hi1 hi2 (List.mem_flatMap.2 ⟨o, by simp, h⟩)
      · have := S.size; omega
    · exact S.off i hi1 hi2 (List.mem_flatMap.2 ⟨p, by simp [hp], hip⟩)
  · intro p hp
    simp only [List.mem_append, List.mem_cons] at hp
    have other : (p ∈ L1 ∨ p ∈ L2) → p.holds w' := fun hp' =>
      have hh := S.hold p (by rcases hp' with h | h <;> simp [h])
      Own.keep hh fun i hi' => hk i (Own.lt hh i hi') (hapart p hp' i hi')
    rcases hp with hp | rfl | hp
    · exact other (.inl hp)
    · exact ho
    · exact other (.inr hp)
  · simp only [idsL, List.flatMap_append, List.flatMap_cons]
    rw [← List.append_assoc]
    refine nodup_mid hnd (Own.ids_nodup o') ?_
    intro i hi'
    rcases hi i hi' with h | h
    · exact ⟨fun hm => by obtain ⟨p, hp, hip⟩ := List.mem_flatMap.1 hm; exact hapart p (.inl hp) i hip h,
        fun hm => by obtain ⟨p, hp, hip⟩ := List.mem_flatMap.1 hm; exact hapart p (.inr hp) i hip h⟩
    · exact ⟨fun hm => by
          obtain ⟨p, hp, hip⟩ := List.mem_flatMap.1 hm
          have := Own.lt (S.hold p (by simp [hp])) i hip; omega,
        fun hm => by
          obtain ⟨p, hp, hip⟩ := List.mem_flatMap.1 hm
          have := Own.lt (S.hold p (by simp [hp])) i hip; omega⟩

/-! ### what is read -/
/-- cells, one behind the other, in blocks that are none of N -/
def Rd (N : List Nat) (w : World) (A : Option Addr) (cs : List Value) : Prop :=
  ∀ i, (h : i < cs.length) → ∃ a, A = some a ∧ a.spot = none ∧ a.block ∉ N ∧ w.cell? ⟨a.block, a.off + i, none⟩ = some cs[i]

theorem cell_lt {w : World} {a : Addr} {v : Value} (h : w.cell? a = some v) : a.block < w.heap.size := by
  unfold World.cell? at h
  cases hh : w.heap[a.block]? with
  | none => rw [hh] at h; cases h
  | some o => exact lt_of_some hh

theorem cell_congr {w w' : World} {a : Addr} (h : w'.heap[a.block]? = w.heap[a.block]?) : w'.cell? a = w.cell? a := by
  unfold World.cell?; rw [h]

theorem Rd.st {N0 : List Nat} {w0 w : World} {L : List Own} {A : Option Addr} {cs : List Value} (h : Rd N0 w0 A cs) (S : St N0 w0 L w) : Rd (idsL L) w A cs := by
  intro i hi
  obtain ⟨a, h1, h2, h3, h4⟩ := h i hi
  have hlt := cell_lt h4
  exact ⟨a, h1, h2, S.off _ hlt h3, (cell_congr (S.keep _ hlt h3)).trans h4⟩

theorem Rd.weak {N N' : List Nat} {w : World} {A : Option Addr} {cs : List Value} (h : Rd N w A cs) (hN : ∀ i ∈ N', i ∈ N) : Rd N' w A cs :=
  fun i hi => let ⟨a, h1, h2, h3, h4⟩ := h i hi; ⟨a, h1, h2, fun h => h3 (hN _ h), h4⟩

theorem Rd.now {N0 : List Nat} {w0 w : World} {L : List Own} {A : Option Addr} {cs : List Value} (h : Rd N0 w0 A cs) (S : St N0 w0 L w) : Rd [] w A cs :=
  (h.st S).weak (fun _ h => by simp at h)

/-- a slice of n elements of sz cells each -/
def Sl (N : List Nat) (w : World) (sz : Nat) (v : Value) (n : Nat) (cs : List Value) : Prop :=
  cs.length = n * sz ∧ ∃ A cap, v = .slice A n cap ∧ n ≤ cap ∧ (A = none → cap = 0) ∧ Rd N w A cs

theorem Sl.st {N0 : List Nat} {w0 w : World} {L : List Own} {sz n : Nat} {v : Value} {cs : List Value} (h : Sl N0 w0 sz v n cs) (S : St N0 w0 L w) : Sl (idsL L) w sz v n cs :=
  let ⟨h0, A, cap, h1, h2, h3, h4⟩ := h; ⟨h0, A, cap, h1, h2, h3, h4.st S⟩
theorem Sl.now {N0 : List Nat} {w0 w : World} {L : List Own} {sz n : Nat} {v : Value} {cs : List Value} (h : Sl N0 w0 sz v n cs) (S : St N0 w0 L w) : Sl [] w sz v n cs :=
  let ⟨h0, A, cap, h1, h2, h3, h4⟩ := h; ⟨h0, A, cap, h1, h2, h3, h4.now S⟩
theorem Sl.weak {N N' : List Nat} {w : World} {sz n : Nat} {v : Value} {cs : List Value} (h : Sl N w sz v n cs) (hN : ∀ i ∈ N', i ∈ N) : Sl N' w sz v n cs :=
  let ⟨h0, A, cap, h1, h2, h3, h4⟩ := h; ⟨h0, A, cap, h1, h2, h3, h4.weak hN⟩

/-- an own row, as it is read now -/
theorem Own.sl {w : World} {v : Value} {T : TypeId} {sz n : Nat} {xs : List Value} (h : (Own.row v T sz n xs).holds w) (N : List Nat) (hN : ∀ i ∈ (Own.row v T sz n xs).ids, i ∉ N) : Sl N w sz v n xs := by
  obtain ⟨h0, h⟩ := h
  refine ⟨h0, ?_⟩
  rcases h with ⟨rfl, rfl⟩ | ⟨b, cap, c, rfl, _, hh, hn, hm, hs, ht⟩
  · exact ⟨none, 0, rfl, Nat.le_refl _, fun _ => rfl, fun i hi => by rw [h0, Nat.zero_mul] at hi; omega⟩
  · refine ⟨some ⟨b, 0, none⟩, cap, rfl, hn, (fun e => absurd e (by simp)), fun i hi => ⟨⟨b, 0, none⟩, rfl, rfl, hN b (by simp [Own.ids]), ?_⟩⟩
    subst ht
    have hi' : i < n * sz := by rw [List.length_take] at hi; omega
    have hic : i < c.size := by
      have : n * sz ≤ cap * sz := Nat.mul_le_mul_right _ hn
      omega
    simp only [World.cell?, hh, Nat.zero_add, Option.isSome_none, if_false, Bool.false_eq_true]
    rw [List.getElem_take]
    simp [Array.getElem?_eq_getElem hic]

theorem St.sl {N0 : List Nat} {w0 w : World} {L : List Own} {v : Value} {T : TypeId} {sz n : Nat} {xs : List Value} (S : St N0 w0 L w) (h : Own.row v T sz n xs ∈ L) : Sl [] w sz v n xs :=
  Own.sl (S.hold _ h) [] (by simp)

/-- an own row becomes one that is only read -/
theorem St.lay {N0 : List Nat} {w0 w : World} {L1 L2 : List Own} {v : Value} {T : TypeId} {sz n : Nat} {xs : List Value} (S : St N0 w0 (L1 ++ .row v T sz n xs :: L2) w) :
    Sl (idsL (L1 ++ L2)) w sz v n xs := by
  refine Own.sl (T := T) (S.hold _ (by simp)) _ ?_
  intro i hi hm
  have hnd := S.nodup
  simp only [idsL, List.flatMap_append, List.flatMap_cons] at hnd hm
  rw [← List.append_assoc] at hnd
  obtain ⟨ha, _, hc⟩ := List.nodup_append.1 hnd
  obtain ⟨_, _, hab⟩ := List.nodup_append.1 ha
  rcases List.mem_append.1 hm with hm | hm
  · exact hab i hm i hi rfl
  · exact hc i (List.mem_append.2 (.inr hi)) i hm rfl
theorem St.lay0 {N0 : List Nat} {w0 w : World} {L2 : List Own} {v : Value} {T : TypeId} {sz n : Nat} {xs : List Value} (S : St N0 w0 (.row v T sz n xs :: L2) w) :
    Sl (idsL L2) w sz v n xs := St.lay (L1 := []) S

/-! ### bytes -/
abbrev u8 (x : Int) : Value := .int .u8 x
abbrev i64 (x : Int) : Value := .int .i64 x
def byt (l : List Int) : Prop := ∀ x ∈ l, 0 ≤ x ∧ x < 256

def BS (N : List Nat) (w : World) (v : Value) (l : List Int) : Prop := byt l ∧ Sl N w 1 v l.length (l.map u8)
theorem BS.st {N0 : List Nat} {w0 w : World} {L : List Own} {v : Value} {l : List Int} (h : BS N0 w0 v l) (S : St N0 w0 L w) : BS (idsL L) w v l := ⟨h.1, h.2.st S⟩
theorem BS.now {N0 : List Nat} {w0 w : World} {L : List Own} {v : Value} {l : List Int} (h : BS N0 w0 v l) (S : St N0 w0 L w) : BS [] w v l := ⟨h.1, h.2.now S⟩
theorem BS.weak {N N' : List Nat} {w : World} {v : Value} {l : List Int} (h : BS N w v l) (hN : ∀ i ∈ N', i ∈ N) : BS N' w v l := ⟨h.1, h.2.weak hN⟩
theorem BS.any {N : List Nat} {w : World} {v : Value} {l : List Int} (h : BS N w v l) : BS [] w v l := h.weak (by simp)

theorem byt_getD {l : List Int} (h : byt l) (i : Nat) : 0 ≤ l.getD i 0 ∧ l.getD i 0 < 256 := by
  rw [List.getD_eq_getElem?_getD]
  cases hi : l[i]? with
  | none => simp
  | some x => simpa using h x (List.mem_of_getElem? hi)
theorem byt_nil : byt [] := fun _ h => by simp at h
theorem byt_app {a b : List Int} (ha : byt a) (hb : byt b) : byt (a ++ b) := fun x hx => (List.mem_append.1 hx).elim (ha x) (hb x)
theorem byt_take {a : List Int} (ha : byt a) (n : Nat) : byt (a.take n) := fun x hx => ha x (List.mem_of_mem_take hx)
theorem byt_drop {a : List Int} (ha : byt a) (n : Nat) : byt (a.drop n) := fun x hx => ha x (List.mem_of_mem_drop hx)
theorem byt_cons {x : Int} {b : List Int} (ha : 0 ≤ x ∧ x < 256) (hb : byt b) : byt (x :: b) := fun y hy => by
  rcases List.mem_cons.1 hy with rfl | hy
  · exact ha
  · exact hb y hy
theorem byt_set {a : List Int} (ha : byt a) (i : Nat) {x : Int} (hx : 0 ≤ x ∧ x < 256) : byt (a.set i x) := fun y hy => by
  rcases List.mem_or_eq_of_mem_set hy with h | rfl
  · exact ha y h
  · exact hx

theorem BS.len {N : List Nat} {w : World} {v : Value} {l : List Int} (h : BS N w v l) : ∃ A cap, v = .slice A l.length cap ∧ l.length ≤ cap :=
  let ⟨_, A, cap, h1, h2, _⟩ := h.2; ⟨A, cap, h1, h2⟩

end Go.Proofs.YtkahmepenjhcpaaDoor.W
