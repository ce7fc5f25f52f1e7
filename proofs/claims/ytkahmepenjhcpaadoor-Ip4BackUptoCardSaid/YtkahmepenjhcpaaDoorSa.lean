/- Plain facts on sums of bytes folded to 16 bits. No program here; no statement of the seat is proved here. -/
namespace Go.Proofs.YtkahmepenjhcpaaDoor.W
set_option linter.unusedVariables false

def foldS (n : Int) : Int := if n = 0 then 0 else (n - 1) % 65535 + 1

theorem foldS_step {n : Int} (h : 65535 < n) : foldS (n % 65536 + n / 65536) = foldS n := by
  unfold foldS; split <;> split <;> omega
theorem foldS_small {n : Int} (h : 0 ≤ n ∧ n ≤ 65535) : foldS n = n := by
  unfold foldS; split <;> omega
theorem foldS_bd {n : Int} (_h : 0 ≤ n) : 0 ≤ foldS n ∧ foldS n ≤ 65535 := by
  unfold foldS; split <;> omega
theorem foldS_zero {n : Int} (h : 0 ≤ n) : foldS n = 0 ↔ n = 0 := by
  unfold foldS; split <;> omega
theorem foldS_add {a d : Int} (ha : 0 ≤ a) (hd : 0 ≤ d) : foldS (foldS a + d) = foldS (a + d) := by
  unfold foldS; (repeat' split) <;> omega
theorem foldS_mod {n : Int} (h : 0 ≤ n) : foldS n % 65535 = n % 65535 := by
  unfold foldS; split <;> omega

/-- the sum of the words; b: the next byte is the higher half -/
def wsum : Bool → List Int → Int
  | _, [] => 0
  | true, b :: r => b * 256 + wsum false r
  | false, b :: r => b + wsum true r

def par (h : Bool) (n : Nat) : Bool := if n % 2 = 0 then h else !h

theorem wsum_app : ∀ (a : List Int) (h : Bool) (b : List Int), wsum h (a ++ b) = wsum h a + wsum (par h a.length) b
  | [], h, b => by simp [wsum, par]
  | x :: a, h, b => by
    have ih := wsum_app a (!h) b
    have e : par (!h) a.length = par h (a.length + 1) := by
      unfold par
      rcases Nat.mod_two_eq_zero_or_one a.length with h0 | h0
      · have : (a.length + 1) % 2 = 1 := by omega
        simp [h0, this]
      · have : (a.length + 1) % 2 = 0 := by omega
        simp [h0, this]
    cases h <;> simp only [List.cons_append, wsum, List.length_cons, Bool.not_true, Bool.not_false] at * <;> rw [ih, e] <;> omega

theorem wsum_snoc (a : List Int) (b : Int) : wsum true (a ++ [b]) = wsum true a + (if a.length % 2 = 0 then b * 256 else b) := by
  rw [wsum_app]
  unfold par
  split <;> simp [wsum]

theorem wsum_bd : ∀ (l : List Int) (h : Bool), (∀ x ∈ l, 0 ≤ x ∧ x < 256) → 0 ≤ wsum h l ∧ wsum h l ≤ 65280 * l.length
  | [], h, _ => by simp [wsum]
  | x :: l, h, hl => by
    have ih := wsum_bd l (!h) (fun y hy => hl y (by simp [hy]))
    have hx := hl x (by simp)
    cases h <;> simp only [wsum, List.length_cons, Bool.not_true, Bool.not_false] at * <;> omega

/-- the sum over some bytes -/
def sumS (l : List Int) : Int := foldS (wsum true l)

theorem getD_take_succ {l : List Int} {i : Nat} (h : i < l.length) : l.take (i + 1) = l.take i ++ [l.getD i 0] := by
  rw [List.take_succ_eq_append_getElem h, List.getD_eq_getElem?_getD, List.getElem?_eq_getElem h]; rfl

theorem flat_take_succ {ls : List (List Int)} {i : Nat} (h : i < ls.length) : (ls.take (i + 1)).flatten = (ls.take i).flatten ++ ls.getD i [] := by
  rw [List.take_succ_eq_append_getElem h, List.flatten_append, List.getD_eq_getElem?_getD, List.getElem?_eq_getElem h]; simp

theorem flat_len_take {ls : List (List Int)} : ∀ (i : Nat), i < ls.length → (ls.take i).flatten.length + (ls.getD i []).length ≤ ls.flatten.length := by
  induction ls with
  | nil => intro i h; simp at h
  | cons a r ih =>
    intro i h
    cases i with
    | zero => simp
    | succ i =>
      have := ih i (by simpa using h)
      simp only [List.take_succ_cons, List.flatten_cons, List.length_append, List.getD_cons_succ]
      omega

theorem getD_mem_flat {ls : List (List Int)} {i : Nat} (h : i < ls.length) : ∀ x ∈ ls.getD i [], x ∈ ls.flatten := by
  intro x hx
  rw [List.getD_eq_getElem?_getD, List.getElem?_eq_getElem h] at hx
  exact List.mem_flatten.2 ⟨_, List.getElem_mem h, hx⟩
theorem take_flat_mem {ls : List (List Int)} {i : Nat} : ∀ x ∈ (ls.take i).flatten, x ∈ ls.flatten := by
  intro x hx
  obtain ⟨l, hl, hx⟩ := List.mem_flatten.1 hx
  exact List.mem_flatten.2 ⟨l, List.mem_of_mem_take hl, hx⟩

end Go.Proofs.YtkahmepenjhcpaaDoor.W
