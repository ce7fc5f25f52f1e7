/- The base of this seat's proofs: walking a function's code with a list of what its slots hold. No statement of the seat is proved here. -/
import Derived.Test.YtkahmepenjhcpaaDoorProg
import Derived.WalkKit
namespace Go.Proofs.YtkahmepenjhcpaaDoor.W
open Go

/-! ### slots -/
abbrev Gs := List Bool
abbrev Env := List (Nat × Gs × Value)

def lk : Env → Nat → Option (Gs × Value)
  | [], _ => none
  | (k, g, v) :: r, t => bif Nat.beq k t then some (g, v) else lk r t

def ev (l : Env) : Operand → Option (Gs × Value)
  | .tmp t => lk l t
  | .const v => some ([], v)
  | .global g => some ([], .pointer (some ⟨g, 0, none⟩))
  | .func f => some ([], .func (.func f) #[] #[])

def allT : Gs → Prop
  | [] => True
  | b :: r => b = true ∧ allT r

def allB : Gs → Bool
  | [] => true
  | b :: r => b && allB r

theorem allB_iff (g : Gs) : allB g = true ↔ allT g := by
  induction g with
  | nil => simp [allB, allT]
  | cons b r ih => simp [allB, allT, ih]

theorem allT_app {g h : Gs} : allT (g ++ h) ↔ allT g ∧ allT h := by
  induction g with
  | nil => simp [allT]
  | cons b r ih => simp [allT, ih, and_assoc]

/-- what a slot holds: the value, or nothing if the operation was not asked for -/
def gval (g : Gs) (v : Value) : Value := bif allB g then v else undef

theorem gval_true {g : Gs} {v : Value} (h : allT g) : gval g v = v := by
  simp [gval, (allB_iff g).2 h]
theorem gval_nil (v : Value) : gval [] v = v := rfl
theorem gval_false {g : Gs} {v : Value} (h : ¬ allT g) : gval g v = undef := by
  have : allB g = false := by
    cases hb : allB g with
    | true => exact absurd ((allB_iff g).1 hb) h
    | false => rfl
  simp [gval, this]

structure En (ds : List Deferred) (n : Nat) (l : Env) (a : Act) : Prop where
  defers : a.defers = ds
  size : a.tmps.size = n
  at_ : ∀ t g v, lk l t = some (g, v) → a.tmps[t]? = some (gval g v)

theorem beq_ne {a b : Nat} (h : Nat.beq a b = false) : a ≠ b := by
  intro e; subst e; simp at h

theorem En.put {ds : List Deferred} {n : Nat} {l : Env} {a : Act} (h : En ds n l a) {d : Nat} (hd : d < n) (g : Gs) (v : Value) :
    En ds n ((d, g, v) :: l) (a.put (some d) (gval g v)) := by
  refine ⟨h.defers, by simp [Act.put, h.size], ?_⟩
  intro t g' v' ht
  simp only [lk] at ht
  cases hb : Nat.beq d t with
  | true =>
    rw [hb] at ht
    simp only [cond_true, Option.some.injEq, Prod.mk.injEq] at ht
    obtain ⟨rfl, rfl⟩ := ht
    have : d = t := Nat.eq_of_beq_eq_true hb
    subst this
    simp [Act.put, h.size, hd]
  | false =>
    rw [hb] at ht
    simp only [cond_false] at ht
    have hne := beq_ne hb
    simp only [Act.put]
    rw [Array.getElem?_setIfInBounds_ne (by omega)]
    exact h.at_ _ _ _ ht

theorem En.put_nil {ds : List Deferred} {n : Nat} {l : Env} {a : Act} (h : En ds n l a) {d : Nat} (hd : d < n) (v : Value) :
    En ds n ((d, [], v) :: l) (a.put (some d) v) := h.put hd [] v

theorem En.put_true {ds : List Deferred} {n : Nat} {l : Env} {a : Act} (h : En ds n l a) {d : Nat} (hd : d < n) {g : Gs} (hg : allT g) (v : Value) :
    En ds n ((d, g, v) :: l) (a.put (some d) v) := by
  have := h.put hd g v
  rwa [gval_true hg] at this

theorem En.put_false {ds : List Deferred} {n : Nat} {l : Env} {a : Act} (h : En ds n l a) {d : Nat} (hd : d < n) {g : Gs} (hg : ¬ allT g) (v : Value) :
    En ds n ((d, g, v) :: l) (a.put (some d) undef) := by
  have := h.put hd g v
  rwa [gval_false hg] at this

theorem En.eval {ds : List Deferred} {n : Nat} {l : Env} {a : Act} (h : En ds n l a) {x : Operand} {g : Gs} {v : Value} (hx : ev l x = some (g, v)) (hg : allT g) :
    a.eval x = v := by
  cases x with
  | tmp t =>
    have := h.at_ _ _ _ hx
    simp [Act.eval, Array.getD_eq_getD_getElem?, this, gval_true hg]
  | const v' => simp only [ev, Option.some.injEq, Prod.mk.injEq] at hx; exact hx.2
  | global g' => simp only [ev, Option.some.injEq, Prod.mk.injEq] at hx; exact hx.2
  | func f => simp only [ev, Option.some.injEq, Prod.mk.injEq] at hx; exact hx.2

/-- the entries of one list stand in another -/
def subs : Env → Env → Prop
  | [], _ => True
  | (t, g, v) :: r, l => lk l t = some (g, v) ∧ subs r l

theorem subs_lk {r l : Env} (h : subs r l) : ∀ t g v, lk r t = some (g, v) → lk l t = some (g, v) := by
  induction r with
  | nil => intro t g v ht; simp [lk] at ht
  | cons p r ih =>
    obtain ⟨k, g', v'⟩ := p
    intro t g v ht
    simp only [lk] at ht
    cases hb : Nat.beq k t with
    | true =>
      rw [hb] at ht
      simp only [cond_true, Option.some.injEq, Prod.mk.injEq] at ht
      obtain ⟨rfl, rfl⟩ := ht
      have : k = t := Nat.eq_of_beq_eq_true hb
      subst this
      exact h.1
    | false =>
      rw [hb] at ht
      exact ih h.2 t g v ht

theorem En.sub {ds : List Deferred} {n : Nat} {l r : Env} {a : Act} (h : En ds n l a) (hs : subs r l) : En ds n r a :=
  ⟨h.defers, h.size, fun t g v ht => h.at_ t g v (subs_lk hs t g v ht)⟩

/-! ### what is still to be done -/
inductive KI where
  | code (c : Code)
  | blk (id : Nat)
  | back (B : Act → World → Prop)

abbrev Qp := Exit → Act → World → Prop

def kont (P : Program) (R : Qp) : List KI → Qp
  | [] => R
  | .code c :: k => Exit.then (c.wp P (kont P R k)) (kont P R k)
  | .blk id :: k => Exit.inBlock id (kont P R k)
  | .back B :: k => Exit.then B (kont P R k)

def Run (P : Program) (R : Qp) (ds : List Deferred) (n : Nat) (l : Env) (c : Code) (k : List KI) (w : World) : Prop :=
  ∀ a, En ds n l a → c.wp P (kont P R k) a w

/-- normal end of a piece of code -/
def Nrm (P : Program) (R : Qp) (ds : List Deferred) (n : Nat) (l : Env) (k : List KI) (w : World) : Prop :=
  ∀ a, En ds n l a → kont P R k .normal a w

/-- leaving to a block -/
def Lv (P : Program) (R : Qp) (ds : List Deferred) (n : Nat) (l : Env) (id : Nat) (k : List KI) (w : World) : Prop :=
  ∀ a, En ds n l a → kont P R k (.exit id) a w

def Rt (P : Program) (R : Qp) (ds : List Deferred) (n : Nat) (l : Env) (k : List KI) (w : World) : Prop :=
  ∀ a, En ds n l a → kont P R k .ret a w

def Ro (P : Program) (R : Qp) (ds : List Deferred) (n : Nat) (ops : Array Oper) (l : Env) (os : List Oper) (k : List KI) (w : World) : Prop :=
  ∀ a, En ds n l a → wpList P ops (kont P R k) os a w

section control
variable {P : Program} {R : Qp} {ds : List Deferred} {n : Nat} {l : Env} {k : List KI} {w : World}

theorem Run.seq {x y : Code} (h : Run P R ds n l x (.code y :: k) w) : Run P R ds n l (.seq x y) k w :=
  fun a ha => wp_seq (h a ha)
theorem Run.block {id : Nat} {c : Code} (h : Run P R ds n l c (.blk id :: k) w) : Run P R ds n l (.block id c) k w :=
  fun a ha => wp_block (h a ha)
theorem Run.skip (h : Nrm P R ds n l k w) : Run P R ds n l .skip k w := fun a ha => wp_skip (h a ha)
theorem Run.exit {id : Nat} (h : Lv P R ds n l id k w) : Run P R ds n l (.exit id) k w := fun a ha => wp_exit (h a ha)
theorem Run.ret (h : Rt P R ds n l k w) : Run P R ds n l .ret k w := fun a ha => wp_ret (h a ha)
theorem Run.region {id : Nat} {ops : Array Oper} (h : Ro P R ds n ops l ops.toList k w) : Run P R ds n l (.region id ops false) k w :=
  fun a ha => wp_region_list (h a ha)
theorem Run.cond {c : Operand} {x y : Code} {b : Bool} (hc : ev l c = some ([], .bool b)) (ht : b = true → Run P R ds n l x k w)
    (hf : b = false → Run P R ds n l y k w) : Run P R ds n l (.cond c x y) k w :=
  fun a ha => wp_cond_split (ha.eval hc trivial) (fun e => ht e a ha) (fun e => hf e a ha)
theorem Run.condT {c : Operand} {x y : Code} (hc : ev l c = some ([], .bool true)) (ht : Run P R ds n l x k w) : Run P R ds n l (.cond c x y) k w :=
  fun a ha => wp_cond_true (ha.eval hc trivial) (ht a ha)
theorem Run.condF {c : Operand} {x y : Code} (hc : ev l c = some ([], .bool false)) (ht : Run P R ds n l y k w) : Run P R ds n l (.cond c x y) k w :=
  fun a ha => wp_cond_false (ha.eval hc trivial) (ht a ha)

theorem Nrm.code {c : Code} (h : Run P R ds n l c k w) : Nrm P R ds n l (.code c :: k) w := fun a ha => h a ha
theorem Nrm.blk {id : Nat} (h : Nrm P R ds n l k w) : Nrm P R ds n l (.blk id :: k) w := fun a ha => h a ha
theorem Nrm.back {B : Act → World → Prop} (h : ∀ a, En ds n l a → B a w) : Nrm P R ds n l (.back B :: k) w := fun a ha => h a ha
theorem Lv.hit {id : Nat} (h : Nrm P R ds n l k w) : Lv P R ds n l id (.blk id :: k) w := fun a ha => by
  show Exit.inBlock id (kont P R k) (.exit id) a w
  simp only [Exit.inBlock, if_true]; exact h a ha
theorem Lv.miss {id j : Nat} (hn : Nat.beq id j = false) (h : Lv P R ds n l id k w) : Lv P R ds n l id (.blk j :: k) w := fun a ha => by
  show Exit.inBlock j (kont P R k) (.exit id) a w
  simp only [Exit.inBlock, if_neg (beq_ne hn)]; exact h a ha
theorem Lv.code {id : Nat} {c : Code} (h : Lv P R ds n l id k w) : Lv P R ds n l id (.code c :: k) w := fun a ha => h a ha
theorem Lv.back {id : Nat} {B : Act → World → Prop} (h : Lv P R ds n l id k w) : Lv P R ds n l id (.back B :: k) w := fun a ha => h a ha
theorem Rt.code {c : Code} (h : Rt P R ds n l k w) : Rt P R ds n l (.code c :: k) w := fun a ha => h a ha
theorem Rt.back {B : Act → World → Prop} (h : Rt P R ds n l k w) : Rt P R ds n l (.back B :: k) w := fun a ha => h a ha
theorem Rt.blk {id : Nat} (h : Rt P R ds n l k w) : Rt P R ds n l (.blk id :: k) w := fun a ha => h a ha
theorem Rt.top (h : Rt P R ds n l [] w) : ∀ k : List KI, Rt P R ds n l k w
  | [] => h
  | .code _ :: k => Rt.code (Rt.top h k)
  | .blk _ :: k => Rt.blk (Rt.top h k)
  | .back _ :: k => Rt.back (Rt.top h k)

theorem Run.env {r : Env} {c : Code} (hs : subs r l) (h : Run P R ds n r c k w) : Run P R ds n l c k w := fun a ha => h a (ha.sub hs)

theorem Ro.nil {ops : Array Oper} (h : Nrm P R ds n l k w) : Ro P R ds n ops l [] k w := fun a ha => h a ha

/-- the head of a loop: 'I' of what is remembered, 'L' the slots, 'μ' goes down -/
def Bk {γ : Type} (ds : List Deferred) (n : Nat) (I : γ → World → Prop) (L : γ → Env) (μ : γ → Nat) (m : Nat) : Act → World → Prop :=
  fun a w => ∃ g, I g w ∧ μ g < m ∧ En ds n (L g) a

theorem Run.loop {γ : Type} {c : Code} (I : γ → World → Prop) (L : γ → Env) (μ : γ → Nat) (g₀ : γ) (h₀ : I g₀ w) (hs : subs (L g₀) l)
    (round : ∀ g w, I g w → Run P R ds n (L g) c (.back (Bk ds n I L μ (μ g)) :: k) w) : Run P R ds n l (.loop c) k w := by
  intro a ha b kk cs
  have key : ∀ m g a w, μ g = m → I g w → En ds n (L g) a →
      ∃ e a' w', kont P R k e a' w' ∧ Arrives P (lone (b.at a (.code c :: .inLoop c :: kk)) cs w) b kk cs e a' w' := by
    intro m
    induction m using Nat.strongRecOn with
    | _ m ih =>
      intro g a w hm hI hE
      obtain ⟨e, a₁, w₁, hq, harr⟩ := round g w hI a hE b (.inLoop c :: kk) cs
      cases e with
      | normal =>
        obtain ⟨g', hI', hlt, hE'⟩ := hq
        obtain ⟨e₂, a₂, w₂, hq₂, harr₂⟩ := ih (μ g') (hm ▸ hlt) g' a₁ w₁ rfl hI' hE'
        exact ⟨e₂, a₂, w₂, hq₂, .of_steps (Steps.trans harr (.one step_inLoop)) harr₂⟩
      | exit id => exact ⟨_, a₁, w₁, hq, .pass (x := .inLoop c) rfl (fun _ _ => .inl (by simp)) harr⟩
      | goto l => exact ⟨_, a₁, w₁, hq, .pass (x := .inLoop c) rfl (fun _ _ => .inl (by simp)) harr⟩
      | ret => exact ⟨_, a₁, w₁, hq, .pass (x := .inLoop c) rfl (fun _ _ => .inl (by simp)) harr⟩
      | panic ch => exact ⟨_, a₁, w₁, hq, .pass (x := .inLoop c) rfl (fun _ _ => .inl (by simp)) harr⟩
      | outgrown => exact ⟨_, a₁, w₁, hq, .pass (x := .inLoop c) rfl (fun _ _ => .inl (by simp)) harr⟩
  obtain ⟨e, a', w', hq, harr⟩ := key _ g₀ a w rfl h₀ (ha.sub hs)
  exact ⟨e, a', w', hq, .of_steps (.one step_loop) harr⟩

theorem Nrm.loop {γ : Type} {I : γ → World → Prop} {L : γ → Env} {μ : γ → Nat} {m : Nat} (g : γ) (hI : I g w) (hμ : μ g < m) (hs : subs (L g) l) :
    Nrm P R ds n l (.back (Bk ds n I L μ m) :: k) w := fun _ ha => ⟨g, hI, hμ, ha.sub hs⟩

theorem Run.loop1 {α : Type} {c : Code} (I : α → World → Prop) (L : α → Env) (μ : α → Nat) (a : α) (h₀ : I a w) (hs : subs (L a) l)
    (round : ∀ a w, I a w → Run P R ds n (L a) c (.back (Bk ds n I L μ (μ a)) :: k) w) : Run P R ds n l (.loop c) k w := Run.loop I L μ a h₀ hs round
theorem Run.back_mono {c : Code} {B B' : Act → World → Prop} (hB : ∀ a w, B a w → B' a w) (h : Run P R ds n l c (.back B :: k) w) : Run P R ds n l c (.back B' :: k) w := fun a ha =>
  Code.wp_mono (fun e a w q => by cases e <;> first | exact hB _ _ q | exact q) (h a ha)

def Bk2 {α β : Type} (ds : List Deferred) (n : Nat) (I : α → β → World → Prop) (L : α → β → Env) (μ : α → β → Nat) (m : Nat) : Act → World → Prop :=
  fun act w => ∃ a b, I a b w ∧ μ a b < m ∧ En ds n (L a b) act
theorem Run.loop2 {α β : Type} {c : Code} (I : α → β → World → Prop) (L : α → β → Env) (μ : α → β → Nat) (a : α) (b : β) (h₀ : I a b w) (hs : subs (L a b) l)
    (round : ∀ a b w, I a b w → Run P R ds n (L a b) c (.back (Bk2 ds n I L μ (μ a b)) :: k) w) : Run P R ds n l (.loop c) k w :=
  Run.loop (γ := α × β) (fun g_ => I g_.1 g_.2) (fun g_ => L g_.1 g_.2) (fun g_ => μ g_.1 g_.2) (a, b) h₀ hs (fun g_ w hI => Run.back_mono (fun _ _ ⟨a, b, h1, h2, h3⟩ => ⟨(a, b), h1, h2, h3⟩) (round g_.1 g_.2 w hI))
theorem Nrm.loop2 {α β : Type} {I : α → β → World → Prop} {L : α → β → Env} {μ : α → β → Nat} {m : Nat} (a : α) (b : β) (hI : I a b w) (hμ : μ a b < m) (hs : subs (L a b) l) :
    Nrm P R ds n l (.back (Bk2 ds n I L μ m) :: k) w := fun _ ha => ⟨a, b, hI, hμ, ha.sub hs⟩

def Bk3 {α β δ : Type} (ds : List Deferred) (n : Nat) (I : α → β → δ → World → Prop) (L : α → β → δ → Env) (μ : α → β → δ → Nat) (m : Nat) : Act → World → Prop :=
  fun act w => ∃ a b e, I a b e w ∧ μ a b e < m ∧ En ds n (L a b e) act
theorem Run.loop3 {α β δ : Type} {c : Code} (I : α → β → δ → World → Prop) (L : α → β → δ → Env) (μ : α → β → δ → Nat) (a : α) (b : β) (e : δ) (h₀ : I a b e w) (hs : subs (L a b e) l)
    (round : ∀ a b e w, I a b e w → Run P R ds n (L a b e) c (.back (Bk3 ds n I L μ (μ a b e)) :: k) w) : Run P R ds n l (.loop c) k w :=
  Run.loop (γ := α × β × δ) (fun g_ => I g_.1 g_.2.1 g_.2.2) (fun g_ => L g_.1 g_.2.1 g_.2.2) (fun g_ => μ g_.1 g_.2.1 g_.2.2) (a, b, e) h₀ hs (fun g_ w hI => Run.back_mono (fun _ _ ⟨a, b, e, h1, h2, h3⟩ => ⟨(a, b, e), h1, h2, h3⟩) (round g_.1 g_.2.1 g_.2.2 w hI))
theorem Nrm.loop3 {α β δ : Type} {I : α → β → δ → World → Prop} {L : α → β → δ → Env} {μ : α → β → δ → Nat} {m : Nat} (a : α) (b : β) (e : δ) (hI : I a b e w) (hμ : μ a b e < m) (hs : subs (L a b e) l) :
    Nrm P R ds n l (.back (Bk3 ds n I L μ m) :: k) w := fun _ ha => ⟨a, b, e, hI, hμ, ha.sub hs⟩

def Bk4 {α β δ ε : Type} (ds : List Deferred) (n : Nat) (I : α → β → δ → ε → World → Prop) (L : α → β → δ → ε → Env) (μ : α → β → δ → ε → Nat) (m : Nat) : Act → World → Prop :=
  fun act w => ∃ a b e f, I a b e f w ∧ μ a b e f < m ∧ En ds n (L a b e f) act
theorem Run.loop4 {α β δ ε : Type} {c : Code} (I : α → β → δ → ε → World → Prop) (L : α → β → δ → ε → Env) (μ : α → β → δ → ε → Nat) (a : α) (b : β) (e : δ) (f : ε) (h₀ : I a b e f w) (hs : subs (L a b e f) l)
    (round : ∀ a b e f w, I a b e f w → Run P R ds n (L a b e f) c (.back (Bk4 ds n I L μ (μ a b e f)) :: k) w) : Run P R ds n l (.loop c) k w :=
  Run.loop (γ := α × β × δ × ε) (fun g_ => I g_.1 g_.2.1 g_.2.2.1 g_.2.2.2) (fun g_ => L g_.1 g_.2.1 g_.2.2.1 g_.2.2.2) (fun g_ => μ g_.1 g_.2.1 g_.2.2.1 g_.2.2.2) (a, b, e, f) h₀ hs (fun g_ w hI => Run.back_mono (fun _ _ ⟨a, b, e, f, h1, h2, h3⟩ => ⟨(a, b, e, f), h1, h2, h3⟩) (round g_.1 g_.2.1 g_.2.2.1 g_.2.2.2 w hI))
theorem Nrm.loop4 {α β δ ε : Type} {I : α → β → δ → ε → World → Prop} {L : α → β → δ → ε → Env} {μ : α → β → δ → ε → Nat} {m : Nat} (a : α) (b : β) (e : δ) (f : ε) (hI : I a b e f w) (hμ : μ a b e f < m) (hs : subs (L a b e f) l) :
    Nrm P R ds n l (.back (Bk4 ds n I L μ m) :: k) w := fun _ ha => ⟨a, b, e, f, hI, hμ, ha.sub hs⟩

def Bk5 {α β δ ε ζ : Type} (ds : List Deferred) (n : Nat) (I : α → β → δ → ε → ζ → World → Prop) (L : α → β → δ → ε → ζ → Env) (μ : α → β → δ → ε → ζ → Nat) (m : Nat) : Act → World → Prop :=
  fun act w => ∃ a b e f g, I a b e f g w ∧ μ a b e f g < m ∧ En ds n (L a b e f g) act
theorem Run.loop5 {α β δ ε ζ : Type} {c : Code} (I : α → β → δ → ε → ζ → World → Prop) (L : α → β → δ → ε → ζ → Env) (μ : α → β → δ → ε → ζ → Nat) (a : α) (b : β) (e : δ) (f : ε) (g : ζ) (h₀ : I a b e f g w) (hs : subs (L a b e f g) l)
    (round : ∀ a b e f g w, I a b e f g w → Run P R ds n (L a b e f g) c (.back (Bk5 ds n I L μ (μ a b e f g)) :: k) w) : Run P R ds n l (.loop c) k w :=
  Run.loop (γ := α × β × δ × ε × ζ) (fun g_ => I g_.1 g_.2.1 g_.2.2.1 g_.2.2.2.1 g_.2.2.2.2) (fun g_ => L g_.1 g_.2.1 g_.2.2.1 g_.2.2.2.1 g_.2.2.2.2) (fun g_ => μ g_.1 g_.2.1 g_.2.2.1 g_.2.2.2.1 g_.2.2.2.2) (a, b, e, f, g) h₀ hs (fun g_ w hI => Run.back_mono (fun _ _ ⟨a, b, e, f, g, h1, h2, h3⟩ => ⟨(a, b, e, f, g), h1, h2, h3⟩) (round g_.1 g_.2.1 g_.2.2.1 g_.2.2.2.1 g_.2.2.2.2 w hI))
theorem Nrm.loop5 {α β δ ε ζ : Type} {I : α → β → δ → ε → ζ → World → Prop} {L : α → β → δ → ε → ζ → Env} {μ : α → β → δ → ε → ζ → Nat} {m : Nat} (a : α) (b : β) (e : δ) (f : ε) (g : ζ) (hI : I a b e f g w) (hμ : μ a b e f g < m) (hs : subs (L a b e f g) l) :
    Nrm P R ds n l (.back (Bk5 ds n I L μ m) :: k) w := fun _ ha => ⟨a, b, e, f, g, hI, hμ, ha.sub hs⟩

def Bk6 {α β δ ε ζ η : Type} (ds : List Deferred) (n : Nat) (I : α → β → δ → ε → ζ → η → World → Prop) (L : α → β → δ → ε → ζ → η → Env) (μ : α → β → δ → ε → ζ → η → Nat) (m : Nat) : Act → World → Prop :=
  fun act w => ∃ a b e f g h, I a b e f g h w ∧ μ a b e f g h < m ∧ En ds n (L a b e f g h) act
theorem Run.loop6 {α β δ ε ζ η : Type} {c : Code} (I : α → β → δ → ε → ζ → η → World → Prop) (L : α → β → δ → ε → ζ → η → Env) (μ : α → β → δ → ε → ζ → η → Nat) (a : α) (b : β) (e : δ) (f : ε) (g : ζ) (h : η) (h₀ : I a b e f g h w) (hs : subs (L a b e f g h) l)
    (round : ∀ a b e f g h w, I a b e f g h w → Run P R ds n (L a b e f g h) c (.back (Bk6 ds n I L μ (μ a b e f g h)) :: k) w) : Run P R ds n l (.loop c) k w :=
  Run.loop (γ := α × β × δ × ε × ζ × η) (fun g_ => I g_.1 g_.2.1 g_.2.2.1 g_.2.2.2.1 g_.2.2.2.2.1 g_.2.2.2.2.2) (fun g_ => L g_.1 g_.2.1 g_.2.2.1 g_.2.2.2.1 g_.2.2.2.2.1 g_.2.2.2.2.2) (fun g_ => μ g_.1 g_.2.1 g_.2.2.1 g_.2.2.2.1 g_.2.2.2.2.1 g_.2.2.2.2.2) (a, b, e, f, g, h) h₀ hs (fun g_ w hI => Run.back_mono (fun _ _ ⟨a, b, e, f, g, h, h1, h2, h3⟩ => ⟨(a, b, e, f, g, h), h1, h2, h3⟩) (round g_.1 g_.2.1 g_.2.2.1 g_.2.2.2.1 g_.2.2.2.2.1 g_.2.2.2.2.2 w hI))
theorem Nrm.loop6 {α β δ ε ζ η : Type} {I : α → β → δ → ε → ζ → η → World → Prop} {L : α → β → δ → ε → ζ → η → Env} {μ : α → β → δ → ε → ζ → η → Nat} {m : Nat} (a : α) (b : β) (e : δ) (f : ε) (g : ζ) (h : η) (hI : I a b e f g h w) (hμ : μ a b e f g h < m) (hs : subs (L a b e f g h) l) :
    Nrm P R ds n l (.back (Bk6 ds n I L μ m) :: k) w := fun _ ha => ⟨a, b, e, f, g, h, hI, hμ, ha.sub hs⟩

theorem Nrm.loop1 {α : Type} {I : α → World → Prop} {L : α → Env} {μ : α → Nat} {m : Nat} (a : α) (hI : I a w) (hμ : μ a < m) (hs : subs (L a) l) :
    Nrm P R ds n l (.back (Bk ds n I L μ m) :: k) w := Nrm.loop a hI hμ hs

/-- a cut: what holds where ways meet again -/
def Md {γ : Type} (ds : List Deferred) (n : Nat) (I : γ → World → Prop) (L : γ → Env) : Act → World → Prop :=
  fun a w => ∃ g, I g w ∧ En ds n (L g) a

theorem Run.cut {γ : Type} {x y : Code} (I : γ → World → Prop) (L : γ → Env) (h : Run P R ds n l x (.back (Md ds n I L) :: k) w)
    (h' : ∀ g w, I g w → Run P R ds n (L g) y k w) : Run P R ds n l (.seq x y) k w := by
  intro a ha
  refine wp_seq (Code.wp_mono ?_ (h a ha))
  intro e a' w' q
  cases e with
  | normal => obtain ⟨g, hI, hE⟩ := q; exact h' g w' hI a' hE
  | _ => exact q

theorem Nrm.cut {γ : Type} {I : γ → World → Prop} {L : γ → Env} (g : γ) (hI : I g w) (hs : subs (L g) l) :
    Nrm P R ds n l (.back (Md ds n I L) :: k) w := fun _ ha => ⟨g, hI, ha.sub hs⟩
end control

/-! ### one operation -/
section op
variable {P : Program} {R : Qp} {ds : List Deferred} {n : Nat} {l : Env} {k : List KI} {w : World} {ops : Array Oper} {os : List Oper}

/-- the guards under which an operation runs -/
def gd (ops : Array Oper) (l : Env) : Option (Nat × Bool) → Option Gs
  | none => some []
  | some (j, want) =>
    match (ops[j]?).bind (·.dst) with
    | none => none
    | some t =>
      match lk l t with
      | some (gs, .bool b) => some (gs ++ [bif want then b else !b])
      | _ => none

theorem gd_wanted {a : Act} (ha : En ds n l a) {o : Oper} {G : Gs} (h : gd ops l o.guard = some G) :
    Region.wanted o (yielded ops a.tmps) = allB G := by
  unfold Region.wanted
  cases hg : o.guard with
  | none => rw [hg] at h; simp only [gd, Option.some.injEq] at h; subst h; rfl
  | some p =>
    obtain ⟨j, want⟩ := p
    rw [hg] at h
    simp only [gd] at h
    cases ht : (ops[j]?).bind (·.dst) with
    | none => rw [ht] at h; simp at h
    | some t =>
      rw [ht] at h
      simp only at h
      cases hl : lk l t with
      | none => rw [hl] at h; simp at h
      | some q =>
        obtain ⟨gs, v⟩ := q
        rw [hl] at h
        cases v with
        | bool b =>
          simp only [Option.some.injEq] at h
          subst h
          have hat := ha.at_ _ _ _ hl
          simp only [yielded, ht, Option.bind_some, hat]
          have happ : allB (gs ++ [bif want then b else !b]) = (allB gs && (bif want then b else !b)) := by
            clear hl hat
            induction gs with
            | nil => simp [allB]
            | cons x r ih => simp [allB, ih, Bool.and_assoc]
          rw [happ]
          unfold gval
          cases allB gs <;> cases b <;> cases want <;> rfl
        | _ => simp at h

theorem wpList_of {a : Act} {o : Oper} {Q : Qp} (h : Region.wanted o (yielded ops a.tmps) = true → o.wp P a w (wpList P ops Q os) Q)
    (h' : Region.wanted o (yielded ops a.tmps) = false → wpList P ops Q os (a.put o.dst undef) w) : wpList P ops Q (o :: os) a w := by
  simp only [wpList]
  cases hw : Region.wanted o (yielded ops a.tmps) with
  | true => rw [if_pos rfl]; exact .inl (h hw)
  | false => rw [if_neg (by simp)]; exact h' hw

/-- an operation that answers a value and leaves the world -/
theorem opv {o : Oper} {G : Gs} {d : Nat} {v : Value} (hG : gd ops l o.guard = some G) (hd : o.dst = some d) (hn : Nat.blt d n = true)
    (hx : allT G → ∀ a, En ds n l a → (execOp a.eval o).run P w = .ok (.value v) w)
    (h : Ro P R ds n ops ((d, G, v) :: l) os k w) : Ro P R ds n ops l (o :: os) k w := by
  intro a ha
  have hn' : d < n := by simpa [Nat.blt_eq] using hn
  refine wpList_of (fun hw => ?_) (fun hw => ?_)
  · rw [gd_wanted ha hG] at hw
    have hT := (allB_iff G).1 hw
    simp only [Oper.wp, hx hT a ha, Oper.upon, hd]
    exact h _ (ha.put_true hn' hT v)
  · rw [gd_wanted ha hG] at hw
    have hT : ¬ allT G := fun hT => by rw [(allB_iff G).2 hT] at hw; cases hw
    rw [hd]
    exact h _ (ha.put_false hn' hT v)

/-- an operation that answers a value and turns the world (never guarded) -/
theorem opw {o : Oper} {d : Nat} {v : Value} {w' : World} (hG : o.guard = none) (hd : o.dst = some d) (hn : Nat.blt d n = true)
    (hx : ∀ a, En ds n l a → (execOp a.eval o).run P w = .ok (.value v) w')
    (h : Ro P R ds n ops ((d, [], v) :: l) os k w') : Ro P R ds n ops l (o :: os) k w := by
  intro a ha
  have hn' : d < n := by simpa [Nat.blt_eq] using hn
  refine wpList_of (fun hw => ?_) (fun hw => ?_)
  · simp only [Oper.wp, hx a ha, Oper.upon, hd]
    exact h _ (ha.put_nil hn' v)
  · simp [Region.wanted, hG] at hw

/-- an operation without an answer -/
theorem opu {o : Oper} {w' : World} (hG : o.guard = none) (hd : o.dst = none)
    (hx : ∀ a, En ds n l a → (execOp a.eval o).run P w = .ok .skip w')
    (h : Ro P R ds n ops l os k w') : Ro P R ds n ops l (o :: os) k w := by
  intro a ha
  refine wpList_of (fun hw => ?_) (fun hw => ?_)
  · simp only [Oper.wp, hx a ha, Oper.upon, hd, Act.put]
    exact h _ ha
  · simp [Region.wanted, hG] at hw

/-- the prefix of guards that an operand needs -/
theorem pre_T {G g ex : Gs} (h : G = g ++ ex) (hT : allT G) : allT g := by
  subst h; exact (allT_app.1 hT).1

theorem mv {x : Operand} {d : Nat} {G g ex : Gs} {v : Value} {ty : TypeId} {ps : String} {af : Array Edge} {gu : Option (Nat × Bool)}
    (hx : ev l x = some (g, v)) (hG : gd ops l gu = some G) (hp : G = g ++ ex) (hn : Nat.blt d n = true)
    (h : Ro P R ds n ops ((d, G, v) :: l) os k w) :
    Ro P R ds n ops l ({ dst := some d, op := .move x, type := ty, pos := ps, after := af, guard := gu } :: os) k w :=
  opv hG rfl hn (fun hT a ha => by simp [execOp, pure, ha.eval hx (pre_T hp hT)]) h

theorem asg {x : Operand} {d : Nat} {G g ex : Gs} {v : Value} {ty : TypeId} {ps : String} {af : Array Edge} {gu : Option (Nat × Bool)}
    (hx : ev l x = some (g, v)) (hG : gd ops l gu = some G) (hp : G = g ++ ex) (hn : Nat.blt d n = true)
    (h : Ro P R ds n ops ((d, G, v) :: l) os k w) :
    Ro P R ds n ops l ({ dst := some d, op := .assign x, type := ty, pos := ps, after := af, guard := gu } :: os) k w :=
  opv hG rfl hn (fun hT a ha => by simp [execOp, pure, ha.eval hx (pre_T hp hT)]) h

end op
end Go.Proofs.YtkahmepenjhcpaaDoor.W
