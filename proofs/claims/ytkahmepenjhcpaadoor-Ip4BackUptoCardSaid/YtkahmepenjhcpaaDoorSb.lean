/- Plain facts on the bits of bytes. No program here; no statement of the seat is proved here. -/
import Derived.Test.YtkahmepenjhcpaaDoorSa
namespace Go.Proofs.YtkahmepenjhcpaaDoor.W

/-- the bit at a place, from the highest of the first byte on -/
def bitAt (l : List Int) (k : Nat) : Int := l.getD (k / 8) 0 / 2 ^ (7 - k % 8) % 2
/-- the number of m bits from a place on -/
def fv (l : List Int) (p : Nat) : Nat → Int
  | 0 => 0
  | m + 1 => fv l p m * 2 + bitAt l (p + m)

theorem bitAt_bd (l : List Int) (k : Nat) : 0 ≤ bitAt l k ∧ bitAt l k ≤ 1 := by unfold bitAt; omega
theorem fv_bd (l : List Int) (p : Nat) : ∀ m, 0 ≤ fv l p m ∧ fv l p m < 2 ^ m
  | 0 => by simp [fv]
  | m + 1 => by
    have := fv_bd l p m; have := bitAt_bd l (p + m)
    simp only [fv, Int.pow_succ]; omega
theorem fv_add (l : List Int) (p a : Nat) : ∀ b, fv l p (a + b) = fv l p a * 2 ^ b + fv l (p + a) b
  | 0 => by simp [fv]
  | b + 1 => by
    rw [← Nat.add_assoc]
    simp only [fv, fv_add l p a b, Int.pow_succ, Nat.add_assoc]
    rw [Int.add_mul, Int.mul_assoc, Int.add_assoc]
theorem fv_congr {l l' : List Int} {p p' : Nat} : ∀ m, (∀ i, i < m → bitAt l (p + i) = bitAt l' (p' + i)) → fv l p m = fv l' p' m
  | 0, _ => rfl
  | m + 1, h => by simp only [fv, fv_congr m (fun i hi => h i (by omega)), h m (by omega)]

/-- the fields of these widths from a place on -/
def fieldsS (l : List Int) : Nat → List Int → List Int
  | _, [] => []
  | p, w :: ws => fv l p w.toNat :: fieldsS l (p + w.toNat) ws
theorem fieldsS_len (l : List Int) : ∀ (ws : List Int) (p : Nat), (fieldsS l p ws).length = ws.length
  | [], _ => rfl
  | _ :: ws, p => by simp [fieldsS, fieldsS_len l ws]
theorem fieldsS_app (l : List Int) : ∀ (a b : List Int) (p : Nat), (∀ x ∈ a, 0 ≤ x) → fieldsS l p (a ++ b) = fieldsS l p a ++ fieldsS l (p + a.sum.toNat) b
  | [], b, p, _ => by simp [fieldsS]
  | x :: a, b, p, h => by
    have h0 := h x (by simp)
    have hs : 0 ≤ a.sum := by
      clear h0
      induction a with
      | nil => simp
      | cons y r ih =>
        have := ih (fun z hz => h z (by simp at hz ⊢; rcases hz with rfl | hz <;> simp [*]))
        have := h y (by simp)
        simp; omega
    have e : p + x.toNat + a.sum.toNat = p + (x :: a).sum.toNat := by simp only [List.sum_cons]; omega
    simp only [List.cons_append, fieldsS, fieldsS_app l a b _ (fun y hy => h y (by simp [hy])), e]

/-- eight bits make a byte -/
theorem byte_bits : ∀ x : Fin 256, ((((((((0 * 2 + x.val / 2 ^ 7 % 2) * 2 + x.val / 2 ^ 6 % 2) * 2 + x.val / 2 ^ 5 % 2) * 2 + x.val / 2 ^ 4 % 2) * 2 + x.val / 2 ^ 3 % 2) * 2 + x.val / 2 ^ 2 % 2) * 2 + x.val / 2 ^ 1 % 2) * 2 + x.val / 2 ^ 0 % 2) = x.val := by
  intro x; omega
theorem fv8 {l : List Int} (j : Nat) (h : 0 ≤ l.getD j 0 ∧ l.getD j 0 < 256) : fv l (8 * j) 8 = l.getD j 0 := by
  have e : ∀ i, i < 8 → bitAt l (8 * j + i) = l.getD j 0 / 2 ^ (7 - i) % 2 := by
    intro i hi
    unfold bitAt
    rw [show (8 * j + i) / 8 = j from by omega, show (8 * j + i) % 8 = i from by omega]
  simp only [fv, e 0 (by omega), e 1 (by omega), e 2 (by omega), e 3 (by omega), e 4 (by omega), e 5 (by omega), e 6 (by omega), e 7 (by omega)]
  generalize l.getD j 0 = x at h
  omega
/-- a part of a byte -/
theorem fvp {l : List Int} (j a b : Nat) (h : 0 ≤ l.getD j 0 ∧ l.getD j 0 < 256) (hab : a + b ≤ 8) : fv l (8 * j + a) b = l.getD j 0 / 2 ^ (8 - a - b) % 2 ^ b := by
  induction b with
  | zero => simp [fv]
  | succ b ih =>
    have ih := ih (by omega)
    simp only [fv, ih]
    have e : bitAt l (8 * j + a + b) = l.getD j 0 / 2 ^ (7 - (a + b)) % 2 := by
      unfold bitAt
      rw [show (8 * j + a + b) / 8 = j from by omega, show (8 * j + a + b) % 8 = a + b from by omega]
    rw [e]
    generalize l.getD j 0 = x at h
    have : a + b ≤ 7 := by omega
    have ha : a = 0 ∨ a = 1 ∨ a = 2 ∨ a = 3 ∨ a = 4 ∨ a = 5 ∨ a = 6 ∨ a = 7 := by omega
    have hb : b = 0 ∨ b = 1 ∨ b = 2 ∨ b = 3 ∨ b = 4 ∨ b = 5 ∨ b = 6 ∨ b = 7 := by omega
    rcases ha with rfl | rfl | rfl | rfl | rfl | rfl | rfl | rfl <;> rcases hb with rfl | rfl | rfl | rfl | rfl | rfl | rfl | rfl <;> simp at * <;> omega

/-- bytes are known by their bits -/
theorem bits_ext {l l' : List Int} (hl : l.length = l'.length) (hb : ∀ x ∈ l, 0 ≤ x ∧ x < 256) (hb' : ∀ x ∈ l', 0 ≤ x ∧ x < 256) (h : ∀ k, k < 8 * l.length → bitAt l k = bitAt l' k) : l = l' := by
  apply List.ext_getElem hl
  intro j h1 h2
  have g : ∀ (m : List Int), (∀ x ∈ m, 0 ≤ x ∧ x < 256) → 0 ≤ m.getD j 0 ∧ m.getD j 0 < 256 := by
    intro m hm
    rw [List.getD_eq_getElem?_getD]
    cases hi : m[j]? with
    | none => simp
    | some x => simpa using hm x (List.mem_of_getElem? hi)
  have e1 := fv8 j (g l hb)
  have e2 := fv8 j (g l' hb')
  have e3 := fv_congr (l := l) (l' := l') (p := 8 * j) (p' := 8 * j) 8 (fun i hi => h _ (by omega))
  rw [e1, e2] at e3
  rw [List.getD_eq_getElem?_getD, List.getD_eq_getElem?_getD, List.getElem?_eq_getElem h1, List.getElem?_eq_getElem h2] at e3
  exact e3

/-- the bits of a number of m bits, the highest first -/
def bitsOf (v : Int) : Nat → List Int
  | 0 => []
  | m + 1 => v / 2 ^ m % 2 :: bitsOf v m
theorem bitsOf_len (v : Int) : ∀ m, (bitsOf v m).length = m
  | 0 => rfl
  | m + 1 => by simp [bitsOf, bitsOf_len v m]
theorem bitsOf_at (v : Int) : ∀ (m i : Nat), i < m → (bitsOf v m).getD i 0 = v / 2 ^ (m - 1 - i) % 2
  | 0, i, h => by omega
  | m + 1, 0, _ => by simp [bitsOf]
  | m + 1, i + 1, h => by
    simp only [bitsOf, List.getD_cons_succ]
    rw [bitsOf_at v m i (by omega)]
    congr 3; omega
/-- what is written, bit by bit -/
def strm : List Int → List Int → List Int
  | w :: ws, v :: vs => bitsOf v w.toNat ++ strm ws vs
  | _, _ => []
theorem strm_app : ∀ (a b c d : List Int), a.length = c.length → strm (a ++ b) (c ++ d) = strm a c ++ strm b d
  | [], _, [], _, _ => rfl
  | [], _, _ :: _, _, h => by simp at h
  | _ :: _, _, [], _, h => by simp at h
  | x :: a, b, y :: c, d, h => by simp only [List.cons_append, strm, strm_app a b c d (by simpa using h), List.append_assoc]
theorem strm_len : ∀ (ws vs : List Int), ws.length = vs.length → (∀ x ∈ ws, 0 ≤ x) → ((strm ws vs).length : Int) = ws.sum
  | [], [], _, _ => rfl
  | [], _ :: _, h, _ => by simp at h
  | _ :: _, [], h, _ => by simp at h
  | w :: ws, v :: vs, h, hw => by
    have := strm_len ws vs (by simpa using h) (fun x hx => hw x (by simp [hx]))
    have := hw w (by simp)
    simp only [strm, List.length_append, bitsOf_len, List.sum_cons]
    omega

/-- a bit laid into a byte -/
def laid1 (x b : Int) (r : Nat) : Int := (((x % 256).toNat ||| (b * 2 ^ (7 - r) % 256).toNat : Nat) : Int) % 256

theorem laid_nat : ∀ (x : Fin 256) (r : Fin 8) (q : Fin 8) (b : Fin 2), x.val / 2 ^ (7 - r.val) % 2 = 0 →
    (x.val ||| b.val * 2 ^ (7 - r.val)) < 256 ∧ (x.val ||| b.val * 2 ^ (7 - r.val)) / 2 ^ (7 - q.val) % 2 = if q = r then b.val else x.val / 2 ^ (7 - q.val) % 2 := by
  decide +kernel

theorem laid1_bits {x b : Int} {r q : Nat} (hx : 0 ≤ x ∧ x < 256) (hb : b = 0 ∨ b = 1) (hr : r < 8) (hq : q < 8) (h0 : x / 2 ^ (7 - r) % 2 = 0) :
    (0 ≤ laid1 x b r ∧ laid1 x b r < 256) ∧ laid1 x b r / 2 ^ (7 - q) % 2 = if q = r then b else x / 2 ^ (7 - q) % 2 := by
  obtain ⟨n, rfl⟩ := Int.eq_ofNat_of_zero_le hx.1
  obtain ⟨m, hm, rfl⟩ : ∃ m : Nat, m < 2 ∧ b = (m : Int) := by
    rcases hb with rfl | rfl
    · exact ⟨0, by omega, rfl⟩
    · exact ⟨1, by omega, rfl⟩
  have hn : n < 256 := by omega
  have c : ∀ k, ((2 ^ k : Nat) : Int) = (2 : Int) ^ k := fun k => by simp
  have h0' : n / 2 ^ (7 - r) % 2 = 0 := by
    have := h0
    rw [← c] at this
    exact_mod_cast this
  have key := laid_nat ⟨n, hn⟩ ⟨r, hr⟩ ⟨q, hq⟩ ⟨m, hm⟩ h0'
  simp only [Fin.mk.injEq] at key
  have hp : 2 ^ (7 - r) ≤ 128 := by
    have : 2 ^ (7 - r) ≤ 2 ^ 7 := Nat.pow_le_pow_right (by omega) (by omega)
    simpa using this
  have hmp : m * 2 ^ (7 - r) < 256 := by
    have : m * 2 ^ (7 - r) ≤ 1 * 128 := Nat.mul_le_mul (by omega) hp
    omega
  have e : laid1 (n : Int) (m : Int) r = ((n ||| m * 2 ^ (7 - r) : Nat) : Int) := by
    unfold laid1
    have e1 : ((n : Int) % 256).toNat = n := by omega
    have e2 : ((m : Int) * 2 ^ (7 - r) % 256).toNat = m * 2 ^ (7 - r) := by
      rw [← c]
      have : ((m * 2 ^ (7 - r) : Nat) : Int) = (m : Int) * ((2 ^ (7 - r) : Nat) : Int) := by simp
      rw [← this]; omega
    rw [e1, e2]; omega
  rw [e]
  refine ⟨by omega, ?_⟩
  have k2 := key.2
  rw [← c]
  split
  · rename_i hqr; rw [if_pos hqr] at k2; exact_mod_cast k2
  · rename_i hqr; rw [if_neg hqr] at k2; exact_mod_cast k2

end Go.Proofs.YtkahmepenjhcpaaDoor.W
