/- Texts of the proofs of this seat, packed into one (Fa Fb Fc Fd Fe Ff Fk Fg Fq Fh Ca Sa Cb). No statement of the seat is proved here. -/
import Derived.Test.YtkahmepenjhcpaaDoorProg
import Derived.WalkKit
import Derived.Laws.MakeOwn
import Derived.Laws.BytesString
import Derived.ChangeKeysEq
import Derived.Laws.StructEq
import Derived.KernelRfl
import Derived.Deep.Quiet
/- The base of this seat's proofs: walking a function's code with a list of what its slots hold. No statement of the seat is proved here. -/
namespace Go.Proofs.YtkahmepenjhcpaaDoor.W
open Go
/-! ### slots -/
abbrev Gs := List Bool
abbrev Env := List (Nat × Gs × Value)
def lk : Env → Nat → Option (Gs × Value)
  | [], _ => none
  | (k, g, v) :: r, t => bif Nat.beq k t then some (g, v) else lk r t
def ev (l : Env) : Operand → Option (Gs × Value)
  | .tmp t => lk l t
  | .const v => some ([], v)
  | .global g => some ([], .pointer (some ⟨g, 0, none⟩))
  | .func f => some ([], .func (.func f) #[] #[])
def allT : Gs → Prop
  | [] => True
  | b :: r => b = true ∧ allT r
def allB : Gs → Bool
  | [] => true
  | b :: r => b && allB r
theorem allB_iff (g : Gs) : allB g = true ↔ allT g := by
  induction g with
  | nil => simp [allB, allT]
  | cons b r ih => simp [allB, allT, ih]
theorem allT_app {g h : Gs} : allT (g ++ h) ↔ allT g ∧ allT h := by
  induction g with
  | nil => simp [allT]
  | cons b r ih => simp [allT, ih, and_assoc]
/-- what a slot holds: the value, or nothing if the operation was not asked for -/
def gval (g : Gs) (v : Value) : Value := bif allB g then v else undef
theorem gval_true {g : Gs} {v : Value} (h : allT g) : gval g v = v := by
  simp [gval, (allB_iff g).2 h]
theorem gval_nil (v : Value) : gval [] v = v := rfl
theorem gval_false {g : Gs} {v : Value} (h : ¬ allT g) : gval g v = undef := by
  have : allB g = false := by
    cases hb : allB g with
    | true => exact absurd ((allB_iff g).1 hb) h
    | false => rfl
  simp [gval, this]
structure En (ds : List Deferred) (n : Nat) (l : Env) (a : Act) : Prop where
  defers : a.defers = ds
  size : a.tmps.size = n
  at_ : ∀ t g v, lk l t = some (g, v) → a.tmps[t]? = some (gval g v)
theorem beq_ne {a b : Nat} (h : Nat.beq a b = false) : a ≠ b := by
  intro e; subst e; simp at h
theorem En.put {ds : List Deferred} {n : Nat} {l : Env} {a : Act} (h : En ds n l a) {d : Nat} (hd : d < n) (g : Gs) (v : Value) :
    En ds n ((d, g, v) :: l) (a.put (some d) (gval g v)) := by
  refine ⟨h.defers, by simp [Act.put, h.size], ?_⟩
  intro t g' v' ht
  simp only [lk] at ht
  cases hb : Nat.beq d t with
  | true =>
    rw [hb] at ht
    simp only [cond_true, Option.some.injEq, Prod.mk.injEq] at ht
    obtain ⟨rfl, rfl⟩ := ht
    have : d = t := Nat.eq_of_beq_eq_true hb
    subst this
    simp [Act.put, h.size, hd]
  | false =>
    rw [hb] at ht
    simp only [cond_false] at ht
    have hne := beq_ne hb
    simp only [Act.put]
    rw [Array.getElem?_setIfInBounds_ne (by omega)]
    exact h.at_ _ _ _ ht
theorem En.put_nil {ds : List Deferred} {n : Nat} {l : Env} {a : Act} (h : En ds n l a) {d : Nat} (hd : d < n) (v : Value) :
    En ds n ((d, [], v) :: l) (a.put (some d) v) := h.put hd [] v
theorem En.put_true {ds : List Deferred} {n : Nat} {l : Env} {a : Act} (h : En ds n l a) {d : Nat} (hd : d < n) {g : Gs} (hg : allT g) (v : Value) :
    En ds n ((d, g, v) :: l) (a.put (some d) v) := by
  have := h.put hd g v
  rwa [gval_true hg] at this
theorem En.put_false {ds : List Deferred} {n : Nat} {l : Env} {a : Act} (h : En ds n l a) {d : Nat} (hd : d < n) {g : Gs} (hg : ¬ allT g) (v : Value) :
    En ds n ((d, g, v) :: l) (a.put (some d) undef) := by
  have := h.put hd g v
  rwa [gval_false hg] at this
theorem En.eval {ds : List Deferred} {n : Nat} {l : Env} {a : Act} (h : En ds n l a) {x : Operand} {g : Gs} {v : Value} (hx : ev l x = some (g, v)) (hg : allT g) :
    a.eval x = v := by
  cases x with
  | tmp t =>
    have := h.at_ _ _ _ hx
    simp [Act.eval, Array.getD_eq_getD_getElem?, this, gval_true hg]
  | const v' => simp only [ev, Option.some.injEq, Prod.mk.injEq] at hx; exact hx.2
  | global g' => simp only [ev, Option.some.injEq, Prod.mk.injEq] at hx; exact hx.2
  | func f => simp only [ev, Option.some.injEq, Prod.mk.injEq] at hx; exact hx.2
/-- the entries of one list stand in another -/
def subs : Env → Env → Prop
  | [], _ => True
  | (t, g, v) :: r, l => lk l t = some (g, v) ∧ subs r l
theorem subs_lk {r l : Env} (h : subs r l) : ∀ t g v, lk r t = some (g, v) → lk l t = some (g, v) := by
  induction r with
  | nil => intro t g v ht; simp [lk] at ht
  | cons p r ih =>
    obtain ⟨k, g', v'⟩ := p
    intro t g v ht
    simp only [lk] at ht
    cases hb : Nat.beq k t with
    | true =>
      rw [hb] at ht
      simp only [cond_true, Option.some.injEq, Prod.mk.injEq] at ht
      obtain ⟨rfl, rfl⟩ := ht
      have : k = t := Nat.eq_of_beq_eq_true hb
      subst this
      exact h.1
    | false =>
      rw [hb] at ht
      exact ih h.2 t g v ht
theorem En.sub {ds : List Deferred} {n : Nat} {l r : Env} {a : Act} (h : En ds n l a) (hs : subs r l) : En ds n r a :=
  ⟨h.defers, h.size, fun t g v ht => h.at_ t g v (subs_lk hs t g v ht)⟩
/-! ### what is still to be done -/
inductive KI where
  | code (c : Code)
  | blk (id : Nat)
  | back (B : Act → World → Prop)
abbrev Qp := Exit → Act → World → Prop
def kont (P : Program) (R : Qp) : List KI → Qp
  | [] => R
  | .code c :: k => Exit.then (c.wp P (kont P R k)) (kont P R k)
  | .blk id :: k => Exit.inBlock id (kont P R k)
  | .back B :: k => Exit.then B (kont P R k)
def Run (P : Program) (R : Qp) (ds : List Deferred) (n : Nat) (l : Env) (c : Code) (k : List KI) (w : World) : Prop :=
  ∀ a, En ds n l a → c.wp P (kont P R k) a w
/-- normal end of a piece of code -/
def Nrm (P : Program) (R : Qp) (ds : List Deferred) (n : Nat) (l : Env) (k : List KI) (w : World) : Prop :=
  ∀ a, En ds n l a → kont P R k .normal a w
/-- leaving to a block -/
def Lv (P : Program) (R : Qp) (ds : List Deferred) (n : Nat) (l : Env) (id : Nat) (k : List KI) (w : World) : Prop :=
  ∀ a, En ds n l a → kont P R k (.exit id) a w
def Rt (P : Program) (R : Qp) (ds : List Deferred) (n : Nat) (l : Env) (k : List KI) (w : World) : Prop :=
  ∀ a, En ds n l a → kont P R k .ret a w
def Ro (P : Program) (R : Qp) (ds : List Deferred) (n : Nat) (ops : Array Oper) (l : Env) (os : List Oper) (k : List KI) (w : World) : Prop :=
  ∀ a, En ds n l a → wpList P ops (kont P R k) os a w
section control
variable {P : Program} {R : Qp} {ds : List Deferred} {n : Nat} {l : Env} {k : List KI} {w : World}
theorem Run.seq {x y : Code} (h : Run P R ds n l x (.code y :: k) w) : Run P R ds n l (.seq x y) k w :=
  fun a ha => wp_seq (h a ha)
theorem Run.block {id : Nat} {c : Code} (h : Run P R ds n l c (.blk id :: k) w) : Run P R ds n l (.block id c) k w :=
  fun a ha => wp_block (h a ha)
theorem Run.skip (h : Nrm P R ds n l k w) : Run P R ds n l .skip k w := fun a ha => wp_skip (h a ha)
theorem Run.exit {id : Nat} (h : Lv P R ds n l id k w) : Run P R ds n l (.exit id) k w := fun a ha => wp_exit (h a ha)
theorem Run.ret (h : Rt P R ds n l k w) : Run P R ds n l .ret k w := fun a ha => wp_ret (h a ha)
theorem Run.region {id : Nat} {ops : Array Oper} (h : Ro P R ds n ops l ops.toList k w) : Run P R ds n l (.region id ops false) k w :=
  fun a ha => wp_region_list (h a ha)
theorem Run.cond {c : Operand} {x y : Code} {b : Bool} (hc : ev l c = some ([], .bool b)) (ht : b = true → Run P R ds n l x k w)
    (hf : b = false → Run P R ds n l y k w) : Run P R ds n l (.cond c x y) k w :=
  fun a ha => wp_cond_split (ha.eval hc trivial) (fun e => ht e a ha) (fun e => hf e a ha)
theorem Nrm.code {c : Code} (h : Run P R ds n l c k w) : Nrm P R ds n l (.code c :: k) w := fun a ha => h a ha
theorem Nrm.blk {id : Nat} (h : Nrm P R ds n l k w) : Nrm P R ds n l (.blk id :: k) w := fun a ha => h a ha
theorem Nrm.back {B : Act → World → Prop} (h : ∀ a, En ds n l a → B a w) : Nrm P R ds n l (.back B :: k) w := fun a ha => h a ha
theorem Lv.hit {id : Nat} (h : Nrm P R ds n l k w) : Lv P R ds n l id (.blk id :: k) w := fun a ha => by
  show Exit.inBlock id (kont P R k) (.exit id) a w
  simp only [Exit.inBlock, if_true]; exact h a ha
theorem Lv.miss {id j : Nat} (hn : Nat.beq id j = false) (h : Lv P R ds n l id k w) : Lv P R ds n l id (.blk j :: k) w := fun a ha => by
  show Exit.inBlock j (kont P R k) (.exit id) a w
  simp only [Exit.inBlock, if_neg (beq_ne hn)]; exact h a ha
theorem Lv.code {id : Nat} {c : Code} (h : Lv P R ds n l id k w) : Lv P R ds n l id (.code c :: k) w := fun a ha => h a ha
theorem Lv.back {id : Nat} {B : Act → World → Prop} (h : Lv P R ds n l id k w) : Lv P R ds n l id (.back B :: k) w := fun a ha => h a ha
theorem Rt.code {c : Code} (h : Rt P R ds n l k w) : Rt P R ds n l (.code c :: k) w := fun a ha => h a ha
theorem Rt.back {B : Act → World → Prop} (h : Rt P R ds n l k w) : Rt P R ds n l (.back B :: k) w := fun a ha => h a ha
theorem Rt.blk {id : Nat} (h : Rt P R ds n l k w) : Rt P R ds n l (.blk id :: k) w := fun a ha => h a ha
theorem Rt.top (h : Rt P R ds n l [] w) : ∀ k : List KI, Rt P R ds n l k w
  | [] => h
  | .code _ :: k => Rt.code (Rt.top h k)
  | .blk _ :: k => Rt.blk (Rt.top h k)
  | .back _ :: k => Rt.back (Rt.top h k)
theorem Ro.nil {ops : Array Oper} (h : Nrm P R ds n l k w) : Ro P R ds n ops l [] k w := fun a ha => h a ha
/-- the head of a loop: 'I' of what is remembered, 'L' the slots, 'μ' goes down -/
def Bk {γ : Type} (ds : List Deferred) (n : Nat) (I : γ → World → Prop) (L : γ → Env) (μ : γ → Nat) (m : Nat) : Act → World → Prop :=
  fun a w => ∃ g, I g w ∧ μ g < m ∧ En ds n (L g) a
theorem Run.loop {γ : Type} {c : Code} (I : γ → World → Prop) (L : γ → Env) (μ : γ → Nat) (g₀ : γ) (h₀ : I g₀ w) (hs : subs (L g₀) l)
    (round : ∀ g w, I g w → Run P R ds n (L g) c (.back (Bk ds n I L μ (μ g)) :: k) w) : Run P R ds n l (.loop c) k w := by
  intro a ha b kk cs
  have key : ∀ m g a w, μ g = m → I g w → En ds n (L g) a →
      ∃ e a' w', kont P R k e a' w' ∧ Arrives P (lone (b.at a (.code c :: .inLoop c :: kk)) cs w) b kk cs e a' w' := by
    intro m
    induction m using Nat.strongRecOn with
    | _ m ih =>
      intro g a w hm hI hE
      obtain ⟨e, a₁, w₁, hq, harr⟩ := round g w hI a hE b (.inLoop c :: kk) cs
      cases e with
      | normal =>
        obtain ⟨g', hI', hlt, hE'⟩ := hq
        obtain ⟨e₂, a₂, w₂, hq₂, harr₂⟩ := ih (μ g') (hm ▸ hlt) g' a₁ w₁ rfl hI' hE'
        exact ⟨e₂, a₂, w₂, hq₂, .of_steps (Steps.trans harr (.one step_inLoop)) harr₂⟩
      | exit id => exact ⟨_, a₁, w₁, hq, .pass (x := .inLoop c) rfl (fun _ _ => .inl (by simp)) harr⟩
      | goto l => exact ⟨_, a₁, w₁, hq, .pass (x := .inLoop c) rfl (fun _ _ => .inl (by simp)) harr⟩
      | ret => exact ⟨_, a₁, w₁, hq, .pass (x := .inLoop c) rfl (fun _ _ => .inl (by simp)) harr⟩
      | panic ch => exact ⟨_, a₁, w₁, hq, .pass (x := .inLoop c) rfl (fun _ _ => .inl (by simp)) harr⟩
      | outgrown => exact ⟨_, a₁, w₁, hq, .pass (x := .inLoop c) rfl (fun _ _ => .inl (by simp)) harr⟩
  obtain ⟨e, a', w', hq, harr⟩ := key _ g₀ a w rfl h₀ (ha.sub hs)
  exact ⟨e, a', w', hq, .of_steps (.one step_loop) harr⟩
theorem Nrm.loop {γ : Type} {I : γ → World → Prop} {L : γ → Env} {μ : γ → Nat} {m : Nat} (g : γ) (hI : I g w) (hμ : μ g < m) (hs : subs (L g) l) :
    Nrm P R ds n l (.back (Bk ds n I L μ m) :: k) w := fun _ ha => ⟨g, hI, hμ, ha.sub hs⟩
theorem Run.loop1 {α : Type} {c : Code} (I : α → World → Prop) (L : α → Env) (μ : α → Nat) (a : α) (h₀ : I a w) (hs : subs (L a) l)
    (round : ∀ a w, I a w → Run P R ds n (L a) c (.back (Bk ds n I L μ (μ a)) :: k) w) : Run P R ds n l (.loop c) k w := Run.loop I L μ a h₀ hs round
theorem Run.back_mono {c : Code} {B B' : Act → World → Prop} (hB : ∀ a w, B a w → B' a w) (h : Run P R ds n l c (.back B :: k) w) : Run P R ds n l c (.back B' :: k) w := fun a ha =>
  Code.wp_mono (fun e a w q => by cases e <;> first | exact hB _ _ q | exact q) (h a ha)
def Bk2 {α β : Type} (ds : List Deferred) (n : Nat) (I : α → β → World → Prop) (L : α → β → Env) (μ : α → β → Nat) (m : Nat) : Act → World → Prop :=
  fun act w => ∃ a b, I a b w ∧ μ a b < m ∧ En ds n (L a b) act
theorem Run.loop2 {α β : Type} {c : Code} (I : α → β → World → Prop) (L : α → β → Env) (μ : α → β → Nat) (a : α) (b : β) (h₀ : I a b w) (hs : subs (L a b) l)
    (round : ∀ a b w, I a b w → Run P R ds n (L a b) c (.back (Bk2 ds n I L μ (μ a b)) :: k) w) : Run P R ds n l (.loop c) k w :=
  Run.loop (γ := α × β) (fun g_ => I g_.1 g_.2) (fun g_ => L g_.1 g_.2) (fun g_ => μ g_.1 g_.2) (a, b) h₀ hs (fun g_ w hI => Run.back_mono (fun _ _ ⟨a, b, h1, h2, h3⟩ => ⟨(a, b), h1, h2, h3⟩) (round g_.1 g_.2 w hI))
theorem Nrm.loop2 {α β : Type} {I : α → β → World → Prop} {L : α → β → Env} {μ : α → β → Nat} {m : Nat} (a : α) (b : β) (hI : I a b w) (hμ : μ a b < m) (hs : subs (L a b) l) :
    Nrm P R ds n l (.back (Bk2 ds n I L μ m) :: k) w := fun _ ha => ⟨a, b, hI, hμ, ha.sub hs⟩
def Bk3 {α β δ : Type} (ds : List Deferred) (n : Nat) (I : α → β → δ → World → Prop) (L : α → β → δ → Env) (μ : α → β → δ → Nat) (m : Nat) : Act → World → Prop :=
  fun act w => ∃ a b e, I a b e w ∧ μ a b e < m ∧ En ds n (L a b e) act
theorem Run.loop3 {α β δ : Type} {c : Code} (I : α → β → δ → World → Prop) (L : α → β → δ → Env) (μ : α → β → δ → Nat) (a : α) (b : β) (e : δ) (h₀ : I a b e w) (hs : subs (L a b e) l)
    (round : ∀ a b e w, I a b e w → Run P R ds n (L a b e) c (.back (Bk3 ds n I L μ (μ a b e)) :: k) w) : Run P R ds n l (.loop c) k w :=
  Run.loop (γ := α × β × δ) (fun g_ => I g_.1 g_.2.1 g_.2.2) (fun g_ => L g_.1 g_.2.1 g_.2.2) (fun g_ => μ g_.1 g_.2.1 g_.2.2) (a, b, e) h₀ hs (fun g_ w hI => Run.back_mono (fun _ _ ⟨a, b, e, h1, h2, h3⟩ => ⟨(a, b, e), h1, h2, h3⟩) (round g_.1 g_.2.1 g_.2.2 w hI))
theorem Nrm.loop3 {α β δ : Type} {I : α → β → δ → World → Prop} {L : α → β → δ → Env} {μ : α → β → δ → Nat} {m : Nat} (a : α) (b : β) (e : δ) (hI : I a b e w) (hμ : μ a b e < m) (hs : subs (L a b e) l) :
    Nrm P R ds n l (.back (Bk3 ds n I L μ m) :: k) w := fun _ ha => ⟨a, b, e, hI, hμ, ha.sub hs⟩
def Bk4 {α β δ ε : Type} (ds : List Deferred) (n : Nat) (I : α → β → δ → ε → World → Prop) (L : α → β → δ → ε → Env) (μ : α → β → δ → ε → Nat) (m : Nat) : Act → World → Prop :=
  fun act w => ∃ a b e f, I a b e f w ∧ μ a b e f < m ∧ En ds n (L a b e f) act
theorem Run.loop4 {α β δ ε : Type} {c : Code} (I : α → β → δ → ε → World → Prop) (L : α → β → δ → ε → Env) (μ : α → β → δ → ε → Nat) (a : α) (b : β) (e : δ) (f : ε) (h₀ : I a b e f w) (hs : subs (L a b e f) l)
    (round : ∀ a b e f w, I a b e f w → Run P R ds n (L a b e f) c (.back (Bk4 ds n I L μ (μ a b e f)) :: k) w) : Run P R ds n l (.loop c) k w :=
  Run.loop (γ := α × β × δ × ε) (fun g_ => I g_.1 g_.2.1 g_.2.2.1 g_.2.2.2) (fun g_ => L g_.1 g_.2.1 g_.2.2.1 g_.2.2.2) (fun g_ => μ g_.1 g_.2.1 g_.2.2.1 g_.2.2.2) (a, b, e, f) h₀ hs (fun g_ w hI => Run.back_mono (fun _ _ ⟨a, b, e, f, h1, h2, h3⟩ => ⟨(a, b, e, f), h1, h2, h3⟩) (round g_.1 g_.2.1 g_.2.2.1 g_.2.2.2 w hI))
theorem Nrm.loop4 {α β δ ε : Type} {I : α → β → δ → ε → World → Prop} {L : α → β → δ → ε → Env} {μ : α → β → δ → ε → Nat} {m : Nat} (a : α) (b : β) (e : δ) (f : ε) (hI : I a b e f w) (hμ : μ a b e f < m) (hs : subs (L a b e f) l) :
    Nrm P R ds n l (.back (Bk4 ds n I L μ m) :: k) w := fun _ ha => ⟨a, b, e, f, hI, hμ, ha.sub hs⟩
def Bk5 {α β δ ε ζ : Type} (ds : List Deferred) (n : Nat) (I : α → β → δ → ε → ζ → World → Prop) (L : α → β → δ → ε → ζ → Env) (μ : α → β → δ → ε → ζ → Nat) (m : Nat) : Act → World → Prop :=
  fun act w => ∃ a b e f g, I a b e f g w ∧ μ a b e f g < m ∧ En ds n (L a b e f g) act
def Bk6 {α β δ ε ζ η : Type} (ds : List Deferred) (n : Nat) (I : α → β → δ → ε → ζ → η → World → Prop) (L : α → β → δ → ε → ζ → η → Env) (μ : α → β → δ → ε → ζ → η → Nat) (m : Nat) : Act → World → Prop :=
  fun act w => ∃ a b e f g h, I a b e f g h w ∧ μ a b e f g h < m ∧ En ds n (L a b e f g h) act
theorem Run.loop6 {α β δ ε ζ η : Type} {c : Code} (I : α → β → δ → ε → ζ → η → World → Prop) (L : α → β → δ → ε → ζ → η → Env) (μ : α → β → δ → ε → ζ → η → Nat) (a : α) (b : β) (e : δ) (f : ε) (g : ζ) (h : η) (h₀ : I a b e f g h w) (hs : subs (L a b e f g h) l)
    (round : ∀ a b e f g h w, I a b e f g h w → Run P R ds n (L a b e f g h) c (.back (Bk6 ds n I L μ (μ a b e f g h)) :: k) w) : Run P R ds n l (.loop c) k w :=
  Run.loop (γ := α × β × δ × ε × ζ × η) (fun g_ => I g_.1 g_.2.1 g_.2.2.1 g_.2.2.2.1 g_.2.2.2.2.1 g_.2.2.2.2.2) (fun g_ => L g_.1 g_.2.1 g_.2.2.1 g_.2.2.2.1 g_.2.2.2.2.1 g_.2.2.2.2.2) (fun g_ => μ g_.1 g_.2.1 g_.2.2.1 g_.2.2.2.1 g_.2.2.2.2.1 g_.2.2.2.2.2) (a, b, e, f, g, h) h₀ hs (fun g_ w hI => Run.back_mono (fun _ _ ⟨a, b, e, f, g, h, h1, h2, h3⟩ => ⟨(a, b, e, f, g, h), h1, h2, h3⟩) (round g_.1 g_.2.1 g_.2.2.1 g_.2.2.2.1 g_.2.2.2.2.1 g_.2.2.2.2.2 w hI))
theorem Nrm.loop6 {α β δ ε ζ η : Type} {I : α → β → δ → ε → ζ → η → World → Prop} {L : α → β → δ → ε → ζ → η → Env} {μ : α → β → δ → ε → ζ → η → Nat} {m : Nat} (a : α) (b : β) (e : δ) (f : ε) (g : ζ) (h : η) (hI : I a b e f g h w) (hμ : μ a b e f g h < m) (hs : subs (L a b e f g h) l) :
    Nrm P R ds n l (.back (Bk6 ds n I L μ m) :: k) w := fun _ ha => ⟨a, b, e, f, g, h, hI, hμ, ha.sub hs⟩
theorem Nrm.loop1 {α : Type} {I : α → World → Prop} {L : α → Env} {μ : α → Nat} {m : Nat} (a : α) (hI : I a w) (hμ : μ a < m) (hs : subs (L a) l) :
    Nrm P R ds n l (.back (Bk ds n I L μ m) :: k) w := Nrm.loop a hI hμ hs
/-- a cut: what holds where ways meet again -/
def Md {γ : Type} (ds : List Deferred) (n : Nat) (I : γ → World → Prop) (L : γ → Env) : Act → World → Prop :=
  fun a w => ∃ g, I g w ∧ En ds n (L g) a
theorem Run.cut {γ : Type} {x y : Code} (I : γ → World → Prop) (L : γ → Env) (h : Run P R ds n l x (.back (Md ds n I L) :: k) w)
    (h' : ∀ g w, I g w → Run P R ds n (L g) y k w) : Run P R ds n l (.seq x y) k w := by
  intro a ha
  refine wp_seq (Code.wp_mono ?_ (h a ha))
  intro e a' w' q
  cases e with
  | normal => obtain ⟨g, hI, hE⟩ := q; exact h' g w' hI a' hE
  | _ => exact q
theorem Nrm.cut {γ : Type} {I : γ → World → Prop} {L : γ → Env} (g : γ) (hI : I g w) (hs : subs (L g) l) :
    Nrm P R ds n l (.back (Md ds n I L) :: k) w := fun _ ha => ⟨g, hI, ha.sub hs⟩
end control
/-! ### one operation -/
section op
variable {P : Program} {R : Qp} {ds : List Deferred} {n : Nat} {l : Env} {k : List KI} {w : World} {ops : Array Oper} {os : List Oper}
/-- the guards under which an operation runs -/
def gd (ops : Array Oper) (l : Env) : Option (Nat × Bool) → Option Gs
  | none => some []
  | some (j, want) =>
    match (ops[j]?).bind (·.dst) with
    | none => none
    | some t =>
      match lk l t with
      | some (gs, .bool b) => some (gs ++ [bif want then b else !b])
      | _ => none
theorem gd_wanted {a : Act} (ha : En ds n l a) {o : Oper} {G : Gs} (h : gd ops l o.guard = some G) :
    Region.wanted o (yielded ops a.tmps) = allB G := by
  unfold Region.wanted
  cases hg : o.guard with
  | none => rw [hg] at h; simp only [gd, Option.some.injEq] at h; subst h; rfl
  | some p =>
    obtain ⟨j, want⟩ := p
    rw [hg] at h
    simp only [gd] at h
    cases ht : (ops[j]?).bind (·.dst) with
    | none => rw [ht] at h; simp at h
    | some t =>
      rw [ht] at h
      simp only at h
      cases hl : lk l t with
      | none => rw [hl] at h; simp at h
      | some q =>
        obtain ⟨gs, v⟩ := q
        rw [hl] at h
        cases v with
        | bool b =>
          simp only [Option.some.injEq] at h
          subst h
          have hat := ha.at_ _ _ _ hl
          simp only [yielded, ht, Option.bind_some, hat]
          have happ : allB (gs ++ [bif want then b else !b]) = (allB gs && (bif want then b else !b)) := by
            clear hl hat
            induction gs with
            | nil => simp [allB]
            | cons x r ih => simp [allB, ih, Bool.and_assoc]
          rw [happ]
          unfold gval
          cases allB gs <;> cases b <;> cases want <;> rfl
        | _ => simp at h
theorem wpList_of {a : Act} {o : Oper} {Q : Qp} (h : Region.wanted o (yielded ops a.tmps) = true → o.wp P a w (wpList P ops Q os) Q)
    (h' : Region.wanted o (yielded ops a.tmps) = false → wpList P ops Q os (a.put o.dst undef) w) : wpList P ops Q (o :: os) a w := by
  simp only [wpList]
  cases hw : Region.wanted o (yielded ops a.tmps) with
  | true => rw [if_pos rfl]; exact .inl (h hw)
  | false => rw [if_neg (by simp)]; exact h' hw
/-- an operation that answers a value and leaves the world -/
theorem opv {o : Oper} {G : Gs} {d : Nat} {v : Value} (hG : gd ops l o.guard = some G) (hd : o.dst = some d) (hn : Nat.blt d n = true)
    (hx : allT G → ∀ a, En ds n l a → (execOp a.eval o).run P w = .ok (.value v) w)
    (h : Ro P R ds n ops ((d, G, v) :: l) os k w) : Ro P R ds n ops l (o :: os) k w := by
  intro a ha
  have hn' : d < n := by simpa [Nat.blt_eq] using hn
  refine wpList_of (fun hw => ?_) (fun hw => ?_)
  · rw [gd_wanted ha hG] at hw
    have hT := (allB_iff G).1 hw
    simp only [Oper.wp, hx hT a ha, Oper.upon, hd]
    exact h _ (ha.put_true hn' hT v)
  · rw [gd_wanted ha hG] at hw
    have hT : ¬ allT G := fun hT => by rw [(allB_iff G).2 hT] at hw; cases hw
    rw [hd]
    exact h _ (ha.put_false hn' hT v)
/-- an operation that answers a value and turns the world (never guarded) -/
theorem opw {o : Oper} {d : Nat} {v : Value} {w' : World} (hG : o.guard = none) (hd : o.dst = some d) (hn : Nat.blt d n = true)
    (hx : ∀ a, En ds n l a → (execOp a.eval o).run P w = .ok (.value v) w')
    (h : Ro P R ds n ops ((d, [], v) :: l) os k w') : Ro P R ds n ops l (o :: os) k w := by
  intro a ha
  have hn' : d < n := by simpa [Nat.blt_eq] using hn
  refine wpList_of (fun hw => ?_) (fun hw => ?_)
  · simp only [Oper.wp, hx a ha, Oper.upon, hd]
    exact h _ (ha.put_nil hn' v)
  · simp [Region.wanted, hG] at hw
/-- an operation without an answer -/
theorem opu {o : Oper} {w' : World} (hG : o.guard = none) (hd : o.dst = none)
    (hx : ∀ a, En ds n l a → (execOp a.eval o).run P w = .ok .skip w')
    (h : Ro P R ds n ops l os k w') : Ro P R ds n ops l (o :: os) k w := by
  intro a ha
  refine wpList_of (fun hw => ?_) (fun hw => ?_)
  · simp only [Oper.wp, hx a ha, Oper.upon, hd, Act.put]
    exact h _ ha
  · simp [Region.wanted, hG] at hw
/-- the prefix of guards that an operand needs -/
theorem pre_T {G g ex : Gs} (h : G = g ++ ex) (hT : allT G) : allT g := by
  subst h; exact (allT_app.1 hT).1
theorem mv {x : Operand} {d : Nat} {G g ex : Gs} {v : Value} {ty : TypeId} {ps : String} {af : Array Edge} {gu : Option (Nat × Bool)}
    (hx : ev l x = some (g, v)) (hG : gd ops l gu = some G) (hp : G = g ++ ex) (hn : Nat.blt d n = true)
    (h : Ro P R ds n ops ((d, G, v) :: l) os k w) :
    Ro P R ds n ops l ({ dst := some d, op := .move x, type := ty, pos := ps, after := af, guard := gu } :: os) k w :=
  opv hG rfl hn (fun hT a ha => by simp [execOp, pure, ha.eval hx (pre_T hp hT)]) h
theorem asg {x : Operand} {d : Nat} {G g ex : Gs} {v : Value} {ty : TypeId} {ps : String} {af : Array Edge} {gu : Option (Nat × Bool)}
    (hx : ev l x = some (g, v)) (hG : gd ops l gu = some G) (hp : G = g ++ ex) (hn : Nat.blt d n = true)
    (h : Ro P R ds n ops ((d, G, v) :: l) os k w) :
    Ro P R ds n ops l ({ dst := some d, op := .assign x, type := ty, pos := ps, after := af, guard := gu } :: os) k w :=
  opv hG rfl hn (fun hT a ha => by simp [execOp, pure, ha.eval hx (pre_T hp hT)]) h
end op
end Go.Proofs.YtkahmepenjhcpaaDoor.W
/- The base of this seat's proofs, second part: rules for single operations on numbers and truth values, calls, returns. No statement of the seat is proved here. -/
namespace Go.Proofs.YtkahmepenjhcpaaDoor.W
open Go
set_option linter.unusedSimpArgs false
/-- blocks that were there are as they were -/
def Bl (w w' : World) : Prop := Go.RowKit.Below w.heap.size w w'
theorem Bl.refl (w : World) : Bl w w := Go.RowKit.Below.refl _ _
theorem Bl.trans {a b c : World} (h : Bl a b) (k : Bl b c) : Bl a c := Go.RowKit.Below.trans h (Go.RowKit.Below.mono k h.size)
def CallsV (P : Program) (f : FuncId) (args : Array Value) (w : World) (Rr : Value → World → Prop) : Prop :=
  Calls P f args w (fun e w' => match e with | .returned v => Rr v w' | _ => False)
/-- a call with one answer, that leaves what was there -/
def CallsD (P : Program) (f : FuncId) (args : Array Value) (w : World) (v : Value) : Prop :=
  CallsV P f args w (fun v' w' => v' = v ∧ Bl w w')
theorem CallsV.mono {P : Program} {f : FuncId} {args : Array Value} {w : World} {R R' : Value → World → Prop} (h : CallsV P f args w R)
    (hr : ∀ v w', R v w' → R' v w') : CallsV P f args w R' :=
  Calls.mono h fun e w' r => by cases e <;> first | exact hr _ _ r | exact r
structure Callable (P : Program) (f : FuncId) : Prop where
  ex : ∃ fn, P.funcs[f]? = some fn ∧ (fn.name == "runtime.NumGoroutine") = false ∧ fn.body.isNone = false
def penv : Nat → List Value → Env
  | _, [] => []
  | i, v :: r => (i, [], v) :: penv (i + 1) r
theorem lk_penv {t : Nat} {g : Gs} {v : Value} : ∀ (vs : List Value) (i : Nat), lk (penv i vs) t = some (g, v) → i ≤ t ∧ g = [] ∧ vs[t - i]? = some v
  | [], i, h => by simp [penv, lk] at h
  | u :: r, i, h => by
    simp only [penv, lk] at h
    cases hb : Nat.beq i t with
    | true =>
      rw [hb] at h
      simp only [cond_true, Option.some.injEq, Prod.mk.injEq] at h
      obtain ⟨rfl, rfl⟩ := h
      have : i = t := Nat.eq_of_beq_eq_true hb
      subst this
      simp
    | false =>
      rw [hb] at h
      have hne := beq_ne hb
      obtain ⟨h1, h2, h3⟩ := lk_penv r (i + 1) h
      refine ⟨by omega, h2, ?_⟩
      have : t - i = (t - (i + 1)) + 1 := by omega
      rw [this]; simpa using h3
def RV (Rr : Value → World → Prop) : Ending → World → Prop := fun e w' => match e with | .returned v => Rr v w' | _ => False
theorem enter {P : Program} {f : FuncId} {fn : Func} {c : Code} {n : Nat} {args : List Value} {l : Env} {w : World} {Rr : Value → World → Prop}
    (hf : P.funcs[f]? = some fn) (hb : fn.body = some c) (hn : fn.ntmps = n) (hl : penv 0 args = l) (hsz : Nat.ble args.length n = true)
    (h : Run P (bodyPost P fn (RV Rr)) [] n l c [] w) : CallsV P f args.toArray w Rr := by
  subst hl
  have hsz' : args.length ≤ n := Nat.le_of_ble_eq_true hsz
  refine calls_of_wp hf hb (h _ ⟨rfl, by simp [hn]; omega, ?_⟩)
  intro t g v ht
  obtain ⟨_, rfl, h3⟩ := lk_penv args 0 ht
  have hlt : t < args.length := by
    rcases Nat.lt_or_ge t args.length with h | h
    · exact h
    · rw [Nat.sub_zero, List.getElem?_eq_none h] at h3; cases h3
  rw [Array.getElem?_append_left (by simpa using hlt), gval_nil]
  simpa using h3
section ret
variable {P : Program} {fn : Func} {Rr : Value → World → Prop} {n : Nat} {l : Env} {k : List KI} {w : World}
theorem En.getD {ds : List Deferred} {a : Act} (ha : En ds n l a) {t : Nat} {v : Value} (h : lk l t = some ([], v)) : a.tmps.getD t undef = v := by
  have := ha.at_ _ _ _ h
  simp [Array.getD_eq_getD_getElem?, this, gval_nil]
theorem Rt.one {t : Nat} {v : Value} (hr : fn.results = #[.tmp t]) (ht : lk l t = some ([], v)) (h : Rr v w) :
    Rt P (bodyPost P fn (RV Rr)) [] n l k w :=
  Rt.top (R := bodyPost P fn (RV Rr)) (fun a ha => show bodyPost P fn (RV Rr) .ret a w from bodyPost_ret (v := v) (by rw [results_tmp hr, ha.getD ht]) ha.defers h) k
theorem Rt.two {t u : Nat} {v x : Value} (hr : fn.results = #[.tmp t, .tmp u]) (ht : lk l t = some ([], v)) (hu : lk l u = some ([], x)) (h : Rr (.tuple #[v, x]) w) :
    Rt P (bodyPost P fn (RV Rr)) [] n l k w :=
  Rt.top (R := bodyPost P fn (RV Rr)) (fun a ha => show bodyPost P fn (RV Rr) .ret a w from bodyPost_ret (v := .tuple #[v, x]) (by rw [results_tmp2 hr, ha.getD ht, ha.getD hu]) ha.defers h) k
theorem results_tmp3 {fn : Func} {t u x : Tmp} (h : fn.results = #[.tmp t, .tmp u, .tmp x]) (tmps : Array Value) (P : Program) (w : World) :
    (results fn tmps).run P w = .ok (.tuple #[tmps.getD t undef, tmps.getD u undef, tmps.getD x undef]) w := by
  simp [results, h]
theorem Rt.three {t u q : Nat} {v x y : Value} (hr : fn.results = #[.tmp t, .tmp u, .tmp q]) (ht : lk l t = some ([], v)) (hu : lk l u = some ([], x))
    (hq : lk l q = some ([], y)) (h : Rr (.tuple #[v, x, y]) w) :
    Rt P (bodyPost P fn (RV Rr)) [] n l k w :=
  Rt.top (R := bodyPost P fn (RV Rr)) (fun a ha => show bodyPost P fn (RV Rr) .ret a w from bodyPost_ret (v := .tuple #[v, x, y]) (by rw [results_tmp3 hr, ha.getD ht, ha.getD hu, ha.getD hq]) ha.defers h) k
theorem Nrm.zero (hr : fn.results = #[]) (h : Rr (.tuple #[]) w) : Nrm P (bodyPost P fn (RV Rr)) [] n l [] w :=
  fun a ha => show bodyPost P fn (RV Rr) .normal a w from bodyPost_end (v := .tuple #[]) (results_none hr _ _ _) ha.defers h
theorem Rt.zero (hr : fn.results = #[]) (h : Rr (.tuple #[]) w) : Rt P (bodyPost P fn (RV Rr)) [] n l k w :=
  Rt.top (R := bodyPost P fn (RV Rr)) (fun a ha => show bodyPost P fn (RV Rr) .ret a w from bodyPost_ret (v := .tuple #[]) (results_none hr _ _ _) ha.defers h) k
end ret
/-! ### numbers -/
theorem w64 {z : Int} (h : -9223372036854775808 ≤ z ∧ z ≤ 9223372036854775807) : IntKind.i64.wrap z = z := by
  have h1 : (2 ^ IntKind.i64.bits : Int) = 18446744073709551616 := rfl
  have h2 : (2 ^ (IntKind.i64.bits - 1) : Int) = 9223372036854775808 := rfl
  simp only [IntKind.wrap, h1, h2, IntKind.signed, Bool.true_and, decide_eq_true_eq]
  split <;> omega
theorem w8 {z : Int} (h : 0 ≤ z ∧ z ≤ 255) : IntKind.u8.wrap z = z := by
  simp only [IntKind.wrap, IntKind.bits, IntKind.signed]
  simp; omega
theorem w8m (z : Int) : IntKind.u8.wrap z = z % 256 := by
  simp only [IntKind.wrap, IntKind.bits, IntKind.signed]
  simp
theorem wu64 {z : Int} (h : 0 ≤ z ∧ z ≤ 18446744073709551615) : IntKind.u64.wrap z = z := by
  simp only [IntKind.wrap, IntKind.bits, IntKind.signed]
  simp; omega
theorem q64 {z y : Int} (h : 0 ≤ z ∧ 1 ≤ y ∧ z ≤ 9223372036854775807) : IntKind.i64.wrap (z.tdiv y) = z / y := by
  have h1 : z.tdiv y = z / y := Int.tdiv_eq_ediv_of_nonneg h.1
  have h2 : 0 ≤ z / y := Int.ediv_nonneg h.1 (by omega)
  have h3 : z / y ≤ z := Int.ediv_le_self _ h.1
  rw [h1]; exact w64 (by omega)
theorem r64 {z y : Int} (h : 0 ≤ z) : z.tmod y = z % y := Int.tmod_eq_emod_of_nonneg h
section op
variable {P : Program} {R : Qp} {ds : List Deferred} {n : Nat} {l : Env} {k : List KI} {w : World} {ops : Array Oper} {os : List Oper}
variable {d : Nat} {G gx gy ex ey : Gs} {ty xt yt : TypeId} {ps : String} {af : Array Edge} {gu : Option (Nat × Bool)} {x y : Operand}
theorem bin {op : BinOp} {a b v : Value} (hx : ev l x = some (gx, a)) (hy : ev l y = some (gy, b)) (hG : gd ops l gu = some G) (hpx : G = gx ++ ex) (hpy : G = gy ++ ey)
    (hn : Nat.blt d n = true) (he : allT G → (do eqGuard op xt x y a b; binOp op xt a b : Sem Value).run P w = .ok v w)
    (h : Ro P R ds n ops ((d, G, v) :: l) os k w) :
    Ro P R ds n ops l ({ dst := some d, op := .binOp op xt x y yt, type := ty, pos := ps, after := af, guard := gu } :: os) k w :=
  opv hG rfl hn (fun hT A ha => by
    have h1 := he hT
    simp only [execOp, ha.eval hx (pre_T hpx hT), ha.eval hy (pre_T hpy hT)]
    rw [Sem.run_bind, h1]; rfl) h
theorem intBin {op : BinOp} {kd : IntKind} {a b : Int} {v : Value} (hx : ev l x = some (gx, .int kd a)) (hy : ev l y = some (gy, .int kd b)) (hG : gd ops l gu = some G) (hpx : G = gx ++ ex) (hpy : G = gy ++ ey)
    (hn : Nat.blt d n = true) (he : allT G → (binOp op xt (.int kd a) (.int kd b) : Sem Value).run P w = .ok v w)
    (h : Ro P R ds n ops ((d, G, v) :: l) os k w) :
    Ro P R ds n ops l ({ dst := some d, op := .binOp op xt x y yt, type := ty, pos := ps, after := af, guard := gu } :: os) k w :=
  bin hx hy hG hpx hpy hn (fun hT => by
    have : eqGuard op xt x y (.int kd a) (.int kd b) = pure () := by unfold eqGuard; split <;> rfl
    rw [this]; exact he hT) h
theorem add {kd : IntKind} {a b z : Int} (hx : ev l x = some (gx, .int kd a)) (hy : ev l y = some (gy, .int kd b)) (hG : gd ops l gu = some G) (hpx : G = gx ++ ex) (hpy : G = gy ++ ey)
    (hn : Nat.blt d n = true) (he : allT G → kd.wrap (a + b) = z) (h : Ro P R ds n ops ((d, G, .int kd z) :: l) os k w) :
    Ro P R ds n ops l ({ dst := some d, op := .binOp .add xt x y yt, type := ty, pos := ps, after := af, guard := gu } :: os) k w :=
  intBin hx hy hG hpx hpy hn (fun hT => by simp [binOp, Op.intArith, pure, Sem.run, he hT]) h
theorem sub {kd : IntKind} {a b z : Int} (hx : ev l x = some (gx, .int kd a)) (hy : ev l y = some (gy, .int kd b)) (hG : gd ops l gu = some G) (hpx : G = gx ++ ex) (hpy : G = gy ++ ey)
    (hn : Nat.blt d n = true) (he : allT G → kd.wrap (a - b) = z) (h : Ro P R ds n ops ((d, G, .int kd z) :: l) os k w) :
    Ro P R ds n ops l ({ dst := some d, op := .binOp .sub xt x y yt, type := ty, pos := ps, after := af, guard := gu } :: os) k w :=
  intBin hx hy hG hpx hpy hn (fun hT => by simp [binOp, Op.intArith, pure, Sem.run, he hT]) h
theorem mul {kd : IntKind} {a b z : Int} (hx : ev l x = some (gx, .int kd a)) (hy : ev l y = some (gy, .int kd b)) (hG : gd ops l gu = some G) (hpx : G = gx ++ ex) (hpy : G = gy ++ ey)
    (hn : Nat.blt d n = true) (he : allT G → kd.wrap (a * b) = z) (h : Ro P R ds n ops ((d, G, .int kd z) :: l) os k w) :
    Ro P R ds n ops l ({ dst := some d, op := .binOp .mul xt x y yt, type := ty, pos := ps, after := af, guard := gu } :: os) k w :=
  intBin hx hy hG hpx hpy hn (fun hT => by simp [binOp, Op.intArith, pure, Sem.run, he hT]) h
theorem quo {kd : IntKind} {a b z : Int} (hx : ev l x = some (gx, .int kd a)) (hy : ev l y = some (gy, .int kd b)) (hG : gd ops l gu = some G) (hpx : G = gx ++ ex) (hpy : G = gy ++ ey)
    (hn : Nat.blt d n = true) (h0 : allT G → b ≠ 0) (he : allT G → kd.wrap (a.tdiv b) = z) (h : Ro P R ds n ops ((d, G, .int kd z) :: l) os k w) :
    Ro P R ds n ops l ({ dst := some d, op := .binOp .quo xt x y yt, type := ty, pos := ps, after := af, guard := gu } :: os) k w :=
  intBin hx hy hG hpx hpy hn (fun hT => by simp [binOp, Op.intDiv, pure, Sem.run, he hT, h0 hT]) h
theorem rem {kd : IntKind} {a b z : Int} (hx : ev l x = some (gx, .int kd a)) (hy : ev l y = some (gy, .int kd b)) (hG : gd ops l gu = some G) (hpx : G = gx ++ ex) (hpy : G = gy ++ ey)
    (hn : Nat.blt d n = true) (h0 : allT G → b ≠ 0) (he : allT G → a.tmod b = z) (h : Ro P R ds n ops ((d, G, .int kd z) :: l) os k w) :
    Ro P R ds n ops l ({ dst := some d, op := .binOp .rem xt x y yt, type := ty, pos := ps, after := af, guard := gu } :: os) k w :=
  intBin hx hy hG hpx hpy hn (fun hT => by simp [binOp, Op.intDiv, pure, Sem.run, he hT, h0 hT]) h
theorem shr {kd yk : IntKind} {a b z : Int} (hx : ev l x = some (gx, .int kd a)) (hy : ev l y = some (gy, .int yk b)) (hG : gd ops l gu = some G) (hpx : G = gx ++ ex) (hpy : G = gy ++ ey)
    (hn : Nat.blt d n = true) (h0 : allT G → 0 ≤ b) (he : allT G → a.fdiv (2 ^ (min b.toNat kd.bits)) = z) (h : Ro P R ds n ops ((d, G, .int kd z) :: l) os k w) :
    Ro P R ds n ops l ({ dst := some d, op := .binOp .shr xt x y yt, type := ty, pos := ps, after := af, guard := gu } :: os) k w :=
  bin hx hy hG hpx hpy hn (fun hT => by
    have h1 : ¬ b < 0 := by have := h0 hT; omega
    have h2 : eqGuard .shr xt x y (.int kd a) (.int yk b) = pure () := by unfold eqGuard; rfl
    rw [h2]; simp [binOp, Op.shift, bind, Sem.bind, pure, Sem.run, he hT, h1]) h
theorem shl {kd yk : IntKind} {a b z : Int} (hx : ev l x = some (gx, .int kd a)) (hy : ev l y = some (gy, .int yk b)) (hG : gd ops l gu = some G) (hpx : G = gx ++ ex) (hpy : G = gy ++ ey)
    (hn : Nat.blt d n = true) (h0 : allT G → 0 ≤ b) (he : allT G → kd.wrap (a * 2 ^ (min b.toNat kd.bits)) = z) (h : Ro P R ds n ops ((d, G, .int kd z) :: l) os k w) :
    Ro P R ds n ops l ({ dst := some d, op := .binOp .shl xt x y yt, type := ty, pos := ps, after := af, guard := gu } :: os) k w :=
  bin hx hy hG hpx hpy hn (fun hT => by
    have h1 : ¬ b < 0 := by have := h0 hT; omega
    have h2 : eqGuard .shl xt x y (.int kd a) (.int yk b) = pure () := by unfold eqGuard; rfl
    rw [h2]; simp [binOp, Op.shift, bind, Sem.bind, pure, Sem.run, he hT, h1]) h
theorem band {kd : IntKind} {a b z : Int} (hx : ev l x = some (gx, .int kd a)) (hy : ev l y = some (gy, .int kd b)) (hG : gd ops l gu = some G) (hpx : G = gx ++ ex) (hpy : G = gy ++ ey)
    (hn : Nat.blt d n = true) (he : allT G → kd.wrap (((a % 2 ^ kd.bits).toNat &&& (b % 2 ^ kd.bits).toNat : Nat) : Int) = z)
    (h : Ro P R ds n ops ((d, G, .int kd z) :: l) os k w) :
    Ro P R ds n ops l ({ dst := some d, op := .binOp .and xt x y yt, type := ty, pos := ps, after := af, guard := gu } :: os) k w :=
  intBin hx hy hG hpx hpy hn (fun hT => by
    have := he hT
    simp [binOp, Op.intBits, pure, Sem.run, this]) h
theorem bor {kd : IntKind} {a b z : Int} (hx : ev l x = some (gx, .int kd a)) (hy : ev l y = some (gy, .int kd b)) (hG : gd ops l gu = some G) (hpx : G = gx ++ ex) (hpy : G = gy ++ ey)
    (hn : Nat.blt d n = true) (he : allT G → kd.wrap (((a % 2 ^ kd.bits).toNat ||| (b % 2 ^ kd.bits).toNat : Nat) : Int) = z)
    (h : Ro P R ds n ops ((d, G, .int kd z) :: l) os k w) :
    Ro P R ds n ops l ({ dst := some d, op := .binOp .or xt x y yt, type := ty, pos := ps, after := af, guard := gu } :: os) k w :=
  intBin hx hy hG hpx hpy hn (fun hT => by
    have := he hT
    simp [binOp, Op.intBits, pure, Sem.run, this]) h
theorem bxor {kd : IntKind} {a b z : Int} (hx : ev l x = some (gx, .int kd a)) (hy : ev l y = some (gy, .int kd b)) (hG : gd ops l gu = some G) (hpx : G = gx ++ ex) (hpy : G = gy ++ ey)
    (hn : Nat.blt d n = true) (he : allT G → kd.wrap (((a % 2 ^ kd.bits).toNat ^^^ (b % 2 ^ kd.bits).toNat : Nat) : Int) = z)
    (h : Ro P R ds n ops ((d, G, .int kd z) :: l) os k w) :
    Ro P R ds n ops l ({ dst := some d, op := .binOp .xor xt x y yt, type := ty, pos := ps, after := af, guard := gu } :: os) k w :=
  intBin hx hy hG hpx hpy hn (fun hT => by
    have := he hT
    simp [binOp, Op.intBits, pure, Sem.run, this]) h
theorem eql {kd : IntKind} {a b : Int} (hx : ev l x = some (gx, .int kd a)) (hy : ev l y = some (gy, .int kd b)) (hG : gd ops l gu = some G) (hpx : G = gx ++ ex) (hpy : G = gy ++ ey)
    (hn : Nat.blt d n = true) (h : Ro P R ds n ops ((d, G, .bool (decide (a = b))) :: l) os k w) :
    Ro P R ds n ops l ({ dst := some d, op := .binOp .eql xt x y yt, type := ty, pos := ps, after := af, guard := gu } :: os) k w :=
  intBin hx hy hG hpx hpy hn (fun _ => by simp [binOp, Op.intCmp, pure, Sem.run]; by_cases hab : a = b <;> simp [hab]) h
theorem neq {kd : IntKind} {a b : Int} (hx : ev l x = some (gx, .int kd a)) (hy : ev l y = some (gy, .int kd b)) (hG : gd ops l gu = some G) (hpx : G = gx ++ ex) (hpy : G = gy ++ ey)
    (hn : Nat.blt d n = true) (h : Ro P R ds n ops ((d, G, .bool (decide (a ≠ b))) :: l) os k w) :
    Ro P R ds n ops l ({ dst := some d, op := .binOp .neq xt x y yt, type := ty, pos := ps, after := af, guard := gu } :: os) k w :=
  intBin hx hy hG hpx hpy hn (fun _ => by simp [binOp, Op.intCmp, pure, Sem.run]; by_cases hab : a = b <;> simp [hab]) h
theorem lss {kd : IntKind} {a b : Int} (hx : ev l x = some (gx, .int kd a)) (hy : ev l y = some (gy, .int kd b)) (hG : gd ops l gu = some G) (hpx : G = gx ++ ex) (hpy : G = gy ++ ey)
    (hn : Nat.blt d n = true) (h : Ro P R ds n ops ((d, G, .bool (decide (a < b))) :: l) os k w) :
    Ro P R ds n ops l ({ dst := some d, op := .binOp .lss xt x y yt, type := ty, pos := ps, after := af, guard := gu } :: os) k w :=
  intBin hx hy hG hpx hpy hn (fun _ => by simp [binOp, Op.intCmp, pure, Sem.run]) h
theorem gtr {kd : IntKind} {a b : Int} (hx : ev l x = some (gx, .int kd a)) (hy : ev l y = some (gy, .int kd b)) (hG : gd ops l gu = some G) (hpx : G = gx ++ ex) (hpy : G = gy ++ ey)
    (hn : Nat.blt d n = true) (h : Ro P R ds n ops ((d, G, .bool (decide (b < a))) :: l) os k w) :
    Ro P R ds n ops l ({ dst := some d, op := .binOp .gtr xt x y yt, type := ty, pos := ps, after := af, guard := gu } :: os) k w :=
  intBin hx hy hG hpx hpy hn (fun _ => by simp [binOp, Op.intCmp, pure, Sem.run]) h
theorem geq {kd : IntKind} {a b : Int} (hx : ev l x = some (gx, .int kd a)) (hy : ev l y = some (gy, .int kd b)) (hG : gd ops l gu = some G) (hpx : G = gx ++ ex) (hpy : G = gy ++ ey)
    (hn : Nat.blt d n = true) (h : Ro P R ds n ops ((d, G, .bool (decide (b ≤ a))) :: l) os k w) :
    Ro P R ds n ops l ({ dst := some d, op := .binOp .geq xt x y yt, type := ty, pos := ps, after := af, guard := gu } :: os) k w :=
  intBin hx hy hG hpx hpy hn (fun _ => by simp [binOp, Op.intCmp, pure, Sem.run]) h
theorem nt {b : Bool} (hx : ev l x = some (gx, .bool b)) (hG : gd ops l gu = some G) (hpx : G = gx ++ ex) (hn : Nat.blt d n = true)
    (h : Ro P R ds n ops ((d, G, .bool (!b)) :: l) os k w) :
    Ro P R ds n ops l ({ dst := some d, op := .unOp .not xt x, type := ty, pos := ps, after := af, guard := gu } :: os) k w :=
  opv hG rfl hn (fun hT a ha => by simp [execOp, ha.eval hx (pre_T hpx hT), Op.unary, bind, Sem.bind, pure, Sem.run]) h
theorem extr {i : Nat} {vs : Array Value} {v : Value} (hx : ev l x = some (gx, .tuple vs)) (hv : vs[i]? = some v) (hG : gd ops l gu = some G) (hpx : G = gx ++ ex) (hn : Nat.blt d n = true)
    (h : Ro P R ds n ops ((d, G, v) :: l) os k w) :
    Ro P R ds n ops l ({ dst := some d, op := .extract x i, type := ty, pos := ps, after := af, guard := gu } :: os) k w :=
  opv hG rfl hn (fun hT a ha => by simp [execOp, ha.eval hx (pre_T hpx hT), Instr.extract, hv, bind, Sem.bind, pure, Sem.run]) h
/-- 'a || b' -/
theorem pkO {c : Operand} {gc gb eb ec : Gs} {p q : Bool} (hc : ev l c = some (gc, .bool p)) (hb : ev l y = some (gb, .bool q)) (hG : gd ops l gu = some G) (hpc : G = gc ++ ec)
    (hpb : G ++ [!p] = gb ++ eb) (hn : Nat.blt d n = true) (h : Ro P R ds n ops ((d, G, .bool (p || q)) :: l) os k w) :
    Ro P R ds n ops l ({ dst := some d, op := .pick c (.const (.bool true)) y, type := ty, pos := ps, after := af, guard := gu } :: os) k w :=
  opv hG rfl hn (fun hT a ha => by
    have h1 := ha.eval hc (pre_T hpc hT)
    cases p with
    | true => simp only [execOp, h1]; rfl
    | false =>
      have hT' : allT (G ++ [!false]) := allT_app.2 ⟨hT, rfl, trivial⟩
      simp [execOp, h1, ha.eval hb (pre_T hpb hT'), asBool, bind, Sem.bind, pure, Sem.run]) h
/-- 'a && b' -/
theorem pkA {c : Operand} {gc gb eb ec : Gs} {p q : Bool} (hc : ev l c = some (gc, .bool p)) (hb : ev l y = some (gb, .bool q)) (hG : gd ops l gu = some G) (hpc : G = gc ++ ec)
    (hpb : G ++ [p] = gb ++ eb) (hn : Nat.blt d n = true) (h : Ro P R ds n ops ((d, G, .bool (p && q)) :: l) os k w) :
    Ro P R ds n ops l ({ dst := some d, op := .pick c y (.const (.bool false)), type := ty, pos := ps, after := af, guard := gu } :: os) k w :=
  opv hG rfl hn (fun hT a ha => by
    have h1 := ha.eval hc (pre_T hpc hT)
    cases p with
    | false => simp only [execOp, h1]; rfl
    | true =>
      have hT' : allT (G ++ [true]) := allT_app.2 ⟨hT, rfl, trivial⟩
      simp [execOp, h1, ha.eval hb (pre_T hpb hT'), asBool, bind, Sem.bind, pure, Sem.run]) h
/-- a conversion between kinds of whole numbers -/
theorem cvi {kd kd' : IntKind} {src dst : TypeId} {a z : Int} {u : TypeDesc} (hx : ev l x = some (gx, .int kd a)) (hG : gd ops l gu = some G) (hpx : G = gx ++ ex) (hn : Nat.blt d n = true)
    (hs : P.underlying src = some u) (ht : P.underlying dst = some (.int kd')) (he : allT G → kd'.wrap a = z) (h : Ro P R ds n ops ((d, G, .int kd' z) :: l) os k w) :
    Ro P R ds n ops l ({ dst := some d, op := .convert src dst x, type := ty, pos := ps, after := af, guard := gu } :: os) k w :=
  opv hG rfl hn (fun hT A ha => by
    simp only [execOp, ha.eval hx (pre_T hpx hT)]
    simp [Go.convert, underlying, program, hs, ht, Conv.intToInt, bind, Sem.bind, pure, Sem.run, he hT]) h
/-! ### calls -/
def Evs (l : Env) (G : Gs) : List Operand → List Value → Prop
  | [], [] => True
  | x :: xs, v :: vs => (∃ g e, ev l x = some (g, v) ∧ G = g ++ e) ∧ Evs l G xs vs
  | _, _ => False
theorem Evs.eval {a : Act} (ha : En ds n l a) (hT : allT G) : ∀ {xs : List Operand} {vs : List Value}, Evs l G xs vs → xs.map a.eval = vs
  | [], [], _ => rfl
  | [], _ :: _, h => h.elim
  | _ :: _, [], h => h.elim
  | x :: xs, v :: vs, ⟨⟨g, e, h1, h2⟩, h⟩ => by rw [List.map_cons, ha.eval h1 (pre_T h2 hT), Evs.eval ha hT h]
theorem call_run {f : FuncId} {xs : List Operand} {vs : List Value} {at_ : Array TypeId} {a : Act}
    (hk : Callable P f) (hx : xs.map a.eval = vs) : (execOp a.eval { dst := some d, op := .call { callee := .value (.func f), args := xs.toArray, argTypes := at_ }, type := ty, pos := ps, after := af, guard := gu }).run P w = .ok (.enter f vs.toArray) w := by
  obtain ⟨fn, h1, h2, h3⟩ := hk.ex
  have h5 : a.eval (.func f) = .func (.func f) #[] #[] := rfl
  simp only [execOp, resolve, h5, Deferred.ofValue]
  have h4 : xs.toArray.map a.eval = vs.toArray := by rw [← hx]; simp
  have h2' : ¬ fn.name = "runtime.NumGoroutine" := by simpa using h2
  have h3' : ¬ fn.body = none := by intro e; rw [e] at h3; cases h3
  simp [invoke, callFunc, program, h1, h2', h3', bind, Sem.bind, pure, Sem.run, h4]
theorem call {f : FuncId} {xs : List Operand} {vs : List Value} {at_ : Array TypeId} {Rr : Value → World → Prop}
    (hx : Evs l [] xs vs) (hk : Callable P f) (hn : Nat.blt d n = true) (hc : CallsV P f vs.toArray w Rr)
    (h : ∀ v w', Rr v w' → Ro P R ds n ops ((d, [], v) :: l) os k w') :
    Ro P R ds n ops l ({ dst := some d, op := .call { callee := .value (.func f), args := xs.toArray, argTypes := at_ }, type := ty, pos := ps, after := af, guard := none } :: os) k w := by
  intro a ha
  have hn' : d < n := by simpa [Nat.blt_eq] using hn
  refine wpList_of (fun _ => ?_) (fun hw => by simp [Region.wanted] at hw)
  have hr := call_run (P := P) (w := w) (d := d) (ty := ty) (ps := ps) (af := af) (gu := none) (at_ := at_) hk (Evs.eval ha (show allT [] from trivial) hx)
  simp only [Oper.wp, hr, Oper.upon]
  refine Calls.mono hc ?_
  intro e w' r
  cases e with
  | returned v => exact h v w' r _ (ha.put_nil hn' v)
  | panicked ch => exact r.elim
  | outgrown => exact r.elim
/-- a call with one answer, under guards -/
theorem calg {f : FuncId} {xs : List Operand} {vs : List Value} {at_ : Array TypeId} {v : Value} (hG : gd ops l gu = some G)
    (hx : Evs l G xs vs) (hk : Callable P f) (hn : Nat.blt d n = true) (hc : allT G → CallsD P f vs.toArray w v)
    (h : ∀ w', Bl w w' → Ro P R ds n ops ((d, G, v) :: l) os k w') :
    Ro P R ds n ops l ({ dst := some d, op := .call { callee := .value (.func f), args := xs.toArray, argTypes := at_ }, type := ty, pos := ps, after := af, guard := gu } :: os) k w := by
  intro a ha
  have hn' : d < n := by simpa [Nat.blt_eq] using hn
  refine wpList_of (fun hw => ?_) (fun hw => ?_)
  · rw [gd_wanted ha hG] at hw
    have hT := (allB_iff G).1 hw
    have hr := call_run (P := P) (w := w) (d := d) (ty := ty) (ps := ps) (af := af) (gu := gu) (at_ := at_) hk (Evs.eval ha hT hx)
    simp only [Oper.wp, hr, Oper.upon]
    refine Calls.mono (hc hT) ?_
    intro e w' r
    cases e with
    | returned v' => obtain ⟨rfl, hb⟩ := r; exact h w' hb _ (ha.put_true hn' hT v')
    | panicked ch => exact r.elim
    | outgrown => exact r.elim
  · rw [gd_wanted ha hG] at hw
    have hT : ¬ allT G := fun hT => by rw [(allB_iff G).2 hT] at hw; cases hw
    exact h w (Bl.refl w) _ (ha.put_false hn' hT v)
end op
/-! ### the same without guards -/
section one
variable {P : Program} {R : Qp} {ds : List Deferred} {n : Nat} {l : Env} {k : List KI} {w : World} {ops : Array Oper} {os : List Oper}
variable {d : Nat} {ty xt yt : TypeId} {ps : String} {af : Array Edge} {x y : Operand}
theorem mv1 {v : Value} (hx : ev l x = some ([], v)) (hn : Nat.blt d n = true)
    (h : Ro P R ds n ops ((d, [], v) :: l) os k w) : Ro P R ds n ops l ({ dst := some d, op := .move x, type := ty, pos := ps, after := af, guard := none } :: os) k w := mv hx rfl (ex := []) rfl hn h
theorem asg1 {v : Value} (hx : ev l x = some ([], v)) (hn : Nat.blt d n = true)
    (h : Ro P R ds n ops ((d, [], v) :: l) os k w) : Ro P R ds n ops l ({ dst := some d, op := .assign x, type := ty, pos := ps, after := af, guard := none } :: os) k w := asg hx rfl (ex := []) rfl hn h
theorem add1 {kd : IntKind} {a b z : Int} (hx : ev l x = some ([], .int kd a)) (hy : ev l y = some ([], .int kd b)) (hn : Nat.blt d n = true) (he : kd.wrap (a + b) = z)
    (h : Ro P R ds n ops ((d, [], .int kd z) :: l) os k w) : Ro P R ds n ops l ({ dst := some d, op := .binOp .add xt x y yt, type := ty, pos := ps, after := af, guard := none } :: os) k w := add hx hy rfl (ex := []) rfl (ey := []) rfl hn (fun _ => he) h
theorem sub1 {kd : IntKind} {a b z : Int} (hx : ev l x = some ([], .int kd a)) (hy : ev l y = some ([], .int kd b)) (hn : Nat.blt d n = true) (he : kd.wrap (a - b) = z)
    (h : Ro P R ds n ops ((d, [], .int kd z) :: l) os k w) : Ro P R ds n ops l ({ dst := some d, op := .binOp .sub xt x y yt, type := ty, pos := ps, after := af, guard := none } :: os) k w := sub hx hy rfl (ex := []) rfl (ey := []) rfl hn (fun _ => he) h
theorem mul1 {kd : IntKind} {a b z : Int} (hx : ev l x = some ([], .int kd a)) (hy : ev l y = some ([], .int kd b)) (hn : Nat.blt d n = true) (he : kd.wrap (a * b) = z)
    (h : Ro P R ds n ops ((d, [], .int kd z) :: l) os k w) : Ro P R ds n ops l ({ dst := some d, op := .binOp .mul xt x y yt, type := ty, pos := ps, after := af, guard := none } :: os) k w := mul hx hy rfl (ex := []) rfl (ey := []) rfl hn (fun _ => he) h
theorem quo1 {kd : IntKind} {a b z : Int} (hx : ev l x = some ([], .int kd a)) (hy : ev l y = some ([], .int kd b)) (hn : Nat.blt d n = true) (h0 : b ≠ 0) (he : kd.wrap (a.tdiv b) = z)
    (h : Ro P R ds n ops ((d, [], .int kd z) :: l) os k w) : Ro P R ds n ops l ({ dst := some d, op := .binOp .quo xt x y yt, type := ty, pos := ps, after := af, guard := none } :: os) k w := quo hx hy rfl (ex := []) rfl (ey := []) rfl hn (fun _ => h0) (fun _ => he) h
theorem rem1 {kd : IntKind} {a b z : Int} (hx : ev l x = some ([], .int kd a)) (hy : ev l y = some ([], .int kd b)) (hn : Nat.blt d n = true) (h0 : b ≠ 0) (he : a.tmod b = z)
    (h : Ro P R ds n ops ((d, [], .int kd z) :: l) os k w) : Ro P R ds n ops l ({ dst := some d, op := .binOp .rem xt x y yt, type := ty, pos := ps, after := af, guard := none } :: os) k w := rem hx hy rfl (ex := []) rfl (ey := []) rfl hn (fun _ => h0) (fun _ => he) h
theorem eql1 {kd : IntKind} {a b : Int} (hx : ev l x = some ([], .int kd a)) (hy : ev l y = some ([], .int kd b)) (hn : Nat.blt d n = true)
    (h : Ro P R ds n ops ((d, [], .bool (decide (a = b))) :: l) os k w) : Ro P R ds n ops l ({ dst := some d, op := .binOp .eql xt x y yt, type := ty, pos := ps, after := af, guard := none } :: os) k w := eql hx hy rfl (ex := []) rfl (ey := []) rfl hn h
theorem neq1 {kd : IntKind} {a b : Int} (hx : ev l x = some ([], .int kd a)) (hy : ev l y = some ([], .int kd b)) (hn : Nat.blt d n = true)
    (h : Ro P R ds n ops ((d, [], .bool (decide (a ≠ b))) :: l) os k w) : Ro P R ds n ops l ({ dst := some d, op := .binOp .neq xt x y yt, type := ty, pos := ps, after := af, guard := none } :: os) k w := neq hx hy rfl (ex := []) rfl (ey := []) rfl hn h
theorem lss1 {kd : IntKind} {a b : Int} (hx : ev l x = some ([], .int kd a)) (hy : ev l y = some ([], .int kd b)) (hn : Nat.blt d n = true)
    (h : Ro P R ds n ops ((d, [], .bool (decide (a < b))) :: l) os k w) : Ro P R ds n ops l ({ dst := some d, op := .binOp .lss xt x y yt, type := ty, pos := ps, after := af, guard := none } :: os) k w := lss hx hy rfl (ex := []) rfl (ey := []) rfl hn h
theorem gtr1 {kd : IntKind} {a b : Int} (hx : ev l x = some ([], .int kd a)) (hy : ev l y = some ([], .int kd b)) (hn : Nat.blt d n = true)
    (h : Ro P R ds n ops ((d, [], .bool (decide (b < a))) :: l) os k w) : Ro P R ds n ops l ({ dst := some d, op := .binOp .gtr xt x y yt, type := ty, pos := ps, after := af, guard := none } :: os) k w := gtr hx hy rfl (ex := []) rfl (ey := []) rfl hn h
theorem geq1 {kd : IntKind} {a b : Int} (hx : ev l x = some ([], .int kd a)) (hy : ev l y = some ([], .int kd b)) (hn : Nat.blt d n = true)
    (h : Ro P R ds n ops ((d, [], .bool (decide (b ≤ a))) :: l) os k w) : Ro P R ds n ops l ({ dst := some d, op := .binOp .geq xt x y yt, type := ty, pos := ps, after := af, guard := none } :: os) k w := geq hx hy rfl (ex := []) rfl (ey := []) rfl hn h
theorem nt1 {b : Bool} (hx : ev l x = some ([], .bool b)) (hn : Nat.blt d n = true)
    (h : Ro P R ds n ops ((d, [], .bool (!b)) :: l) os k w) : Ro P R ds n ops l ({ dst := some d, op := .unOp .not xt x, type := ty, pos := ps, after := af, guard := none } :: os) k w := nt hx rfl (ex := []) rfl hn h
theorem extr1 {i : Nat} {vs : Array Value} {v : Value} (hx : ev l x = some ([], .tuple vs)) (hv : vs[i]? = some v) (hn : Nat.blt d n = true)
    (h : Ro P R ds n ops ((d, [], v) :: l) os k w) : Ro P R ds n ops l ({ dst := some d, op := .extract x i, type := ty, pos := ps, after := af, guard := none } :: os) k w := extr hx hv rfl (ex := []) rfl hn h
theorem cvi1 {kd kd' : IntKind} {src dst : TypeId} {a z : Int} {u : TypeDesc} (hx : ev l x = some ([], .int kd a)) (hn : Nat.blt d n = true)
    (hs : P.underlying src = some u) (ht : P.underlying dst = some (.int kd')) (he : kd'.wrap a = z) (h : Ro P R ds n ops ((d, [], .int kd' z) :: l) os k w) :
    Ro P R ds n ops l ({ dst := some d, op := .convert src dst x, type := ty, pos := ps, after := af, guard := none } :: os) k w := cvi hx rfl (ex := []) rfl hn hs ht (fun _ => he) h
end one
end Go.Proofs.YtkahmepenjhcpaaDoor.W
/- The base of this seat's proofs, third part: what is in memory: blocks of one's own, slices that are read. No statement of the seat is proved here. -/
namespace Go.Proofs.YtkahmepenjhcpaaDoor.W
open Go
set_option linter.unusedSimpArgs false
/-- what a function has for itself: a variable's block; a slice's -/
inductive Own where
  | var (b : Nat) (T : TypeId) (c : List Value)
  | row (v : Value) (T : TypeId) (sz n : Nat) (xs : List Value)
def Own.ids : Own → List Nat
  | .var b _ _ => [b]
  | .row (.slice (some a) _ _) _ _ _ _ => [a.block]
  | .row _ _ _ _ _ => []
def Own.holds (w : World) : Own → Prop
  | .var b T c => w.heap[b]? = some (.cells c.toArray T (0, 0))
  | .row v T sz n xs => w.ownsRow 0 T sz v n xs
abbrev idsL (L : List Own) : List Nat := L.flatMap Own.ids
structure St (N0 : List Nat) (w0 : World) (L : List Own) (w : World) : Prop where
  os : w.os = w0.os
  tape : w.tape = w0.tape
  output : w.output = w0.output
  size : w0.heap.size ≤ w.heap.size
  keep : ∀ i, i < w0.heap.size → i ∉ N0 → w.heap[i]? = w0.heap[i]?
  off : ∀ i, i < w0.heap.size → i ∉ N0 → i ∉ idsL L
  hold : ∀ o ∈ L, o.holds w
  nodup : (idsL L).Nodup
theorem lt_of_some {w : World} {i : Nat} {o : Obj} (h : w.heap[i]? = some o) : i < w.heap.size := by
  rcases Nat.lt_or_ge i w.heap.size with h' | h'
  · exact h'
  · rw [Array.getElem?_eq_none h'] at h; cases h
theorem Own.lt {w : World} {o : Own} (h : o.holds w) : ∀ i ∈ o.ids, i < w.heap.size := by
  cases o with
  | var b T c => intro i hi; simp only [Own.ids, List.mem_singleton] at hi; subst hi; exact lt_of_some h
  | row v T sz n xs =>
    obtain ⟨_, h⟩ := h
    rcases h with ⟨rfl, _⟩ | ⟨b, cap, c, rfl, _, hh, _⟩
    · intro i hi; simp [Own.ids] at hi
    · intro i hi; simp only [Own.ids, List.mem_singleton] at hi; subst hi; exact lt_of_some hh
/-- it holds on where its own blocks are as they were -/
theorem Own.keep {w w' : World} {o : Own} (h : o.holds w) (hk : ∀ i ∈ o.ids, w'.heap[i]? = w.heap[i]?) : o.holds w' := by
  cases o with
  | var b T c => show w'.heap[b]? = _; rw [hk b (by simp [Own.ids])]; exact h
  | row v T sz n xs =>
    obtain ⟨h0, h⟩ := h
    refine ⟨h0, ?_⟩
    rcases h with h | ⟨b, cap, c, rfl, hb, hh, r⟩
    · exact .inl h
    · exact .inr ⟨b, cap, c, rfl, hb, by rw [hk b (by simp [Own.ids])]; exact hh, r⟩
theorem St.refl (N : List Nat) (w : World) : St N w [] w :=
  ⟨rfl, rfl, rfl, Nat.le_refl _, fun _ _ _ => rfl, fun _ _ _ h => by simp at h, fun o ho => by simp at ho, by simp⟩
theorem St.lt {N0 : List Nat} {w0 w : World} {L : List Own} (S : St N0 w0 L w) : ∀ i ∈ idsL L, i < w.heap.size := by
  intro i hi
  obtain ⟨o, ho, hi⟩ := List.mem_flatMap.1 hi
  exact Own.lt (S.hold o ho) i hi
theorem St.call {N0 : List Nat} {w0 w w' : World} {L : List Own} (S : St N0 w0 L w) (B : Bl w w') : St N0 w0 L w' :=
  ⟨B.os.trans S.os, B.tape.trans S.tape, B.output.trans S.output, Nat.le_trans S.size B.size,
    fun i h1 h2 => (B.block i (Nat.lt_of_lt_of_le h1 S.size)).trans (S.keep i h1 h2), S.off,
    fun o ho => Own.keep (S.hold o ho) fun i hi => B.block i (Own.lt (S.hold o ho) i hi), S.nodup⟩
theorem St.bl {w0 w : World} {L : List Own} (S : St [] w0 L w) : Bl w0 w :=
  ⟨S.os, S.tape, S.output, S.size, fun i hi => S.keep i hi (by simp)⟩
theorem St.drew {N0 : List Nat} {w0 w : World} {L : List Own} (S : St N0 w0 L w) (m : Nat) : St N0 w0 L { w with drawn := m } :=
  ⟨S.os, S.tape, S.output, S.size, S.keep, S.off, fun o ho => Own.keep (S.hold o ho) fun _ _ => rfl, S.nodup⟩
/-- begin anew from here -/
theorem St.rebase {N0 : List Nat} {w0 w : World} {L : List Own} (S : St N0 w0 L w) : St (idsL L) w L w :=
  ⟨rfl, rfl, rfl, Nat.le_refl _, fun _ _ _ => rfl, fun _ _ h => h, S.hold, S.nodup⟩
/-- two stretches, one behind the other -/
theorem St.trans {N0 : List Nat} {w0 w1 w : World} {L1 L : List Own} (S : St N0 w0 L1 w1) (S' : St (idsL L1) w1 L w) : St N0 w0 L w :=
  ⟨S'.os.trans S.os, S'.tape.trans S.tape, S'.output.trans S.output, Nat.le_trans S.size S'.size,
    fun i h1 h2 => (S'.keep i (Nat.lt_of_lt_of_le h1 S.size) (S.off i h1 h2)).trans (S.keep i h1 h2),
    fun i h1 h2 => S'.off i (Nat.lt_of_lt_of_le h1 S.size) (S.off i h1 h2), S'.hold, S'.nodup⟩
/-- something new -/
theorem St.new {N0 : List Nat} {w0 w w' : World} {L : List Own} {o : Own} (S : St N0 w0 L w) (B : Bl w w') (ho : o.holds w')
    (hn : ∀ i ∈ o.ids, w.heap.size ≤ i) (hd : o.ids.Nodup) : St N0 w0 (o :: L) w' := by
  have S' := S.call B
  refine ⟨S'.os, S'.tape, S'.output, S'.size, S'.keep, ?_, ?_, ?_⟩
  · intro i h1 h2 h3
    simp only [idsL, List.flatMap_cons, List.mem_append] at h3
    rcases h3 with h3 | h3
    · have := hn i h3; have := S.size; omega
    · exact S.off i h1 h2 h3
  · intro p hp
    rcases List.mem_cons.1 hp with rfl | hp
    · exact ho
    · exact S'.hold p hp
  · simp only [idsL, List.flatMap_cons]
    refine List.nodup_append.2 ⟨hd, S.nodup, ?_⟩
    intro a ha b hb e
    subst e
    have := hn a ha; have := S.lt a hb; omega
theorem Own.ids_nodup (o : Own) : o.ids.Nodup := by
  cases o with
  | var b T c => simp [Own.ids]
  | row v T sz n xs => cases v <;> first | (simp [Own.ids]; done) | (rename_i a _ _; cases a <;> simp [Own.ids])
theorem St.perm {N0 : List Nat} {w0 w : World} {L L' : List Own} (S : St N0 w0 L w) (h : ∀ o ∈ L', o ∈ L) (hn : (idsL L').Nodup) : St N0 w0 L' w :=
  ⟨S.os, S.tape, S.output, S.size, S.keep, fun i h1 h2 h3 => by
    obtain ⟨o, ho, hi⟩ := List.mem_flatMap.1 h3
    exact S.off i h1 h2 (List.mem_flatMap.2 ⟨o, h o ho, hi⟩), fun o ho => S.hold o (h o ho), hn⟩
/-- what is no longer looked at -/
theorem St.drop {N0 : List Nat} {w0 w : World} {L1 L2 : List Own} {o : Own} (S : St N0 w0 (L1 ++ o :: L2) w) : St N0 w0 (L1 ++ L2) w :=
  S.perm (fun p hp => by simp only [List.mem_append, List.mem_cons] at *; rcases hp with h | h <;> simp [h]) (by
    have h := S.nodup
    simp only [idsL, List.flatMap_append, List.flatMap_cons] at *
    exact h.sublist (List.Sublist.append (List.Sublist.refl _) (List.sublist_append_right _ _)))
theorem St.drop0 {N0 : List Nat} {w0 w : World} {L2 : List Own} {o : Own} (S : St N0 w0 (o :: L2) w) : St N0 w0 L2 w := St.drop (L1 := []) S
theorem St.clear {N0 : List Nat} {w0 w : World} {L : List Own} (S : St N0 w0 L w) : St N0 w0 [] w := S.perm (fun o ho => by simp at ho) (by simp)
theorem nodup_mid {α : Type} {A B B' C : List α} (h : (A ++ B ++ C).Nodup) (hB : B'.Nodup) (hd : ∀ x ∈ B', x ∉ A ∧ x ∉ C) : (A ++ B' ++ C).Nodup := by
  rw [List.append_assoc] at *
  obtain ⟨h1, h2, h3⟩ := List.nodup_append.1 h
  obtain ⟨_, h4, _⟩ := List.nodup_append.1 h2
  refine List.nodup_append.2 ⟨h1, List.nodup_append.2 ⟨hB, h4, ?_⟩, ?_⟩
  · intro a ha b hb e; subst e; exact (hd a ha).2 hb
  · intro a ha b hb e
    subst e
    rcases List.mem_append.1 hb with hb | hb
    · exact (hd a hb).1 ha
    · exact h3 a ha a (List.mem_append.2 (.inr hb)) rfl
/-- one of one's own blocks is written, or a new one takes its place -/
theorem St.turn {N0 : List Nat} {w0 w w' : World} {L1 L2 : List Own} {o o' : Own} (S : St N0 w0 (L1 ++ o :: L2) w)
    (h1 : w'.os = w.os) (h2 : w'.tape = w.tape) (h3 : w'.output = w.output) (h4 : w.heap.size ≤ w'.heap.size)
    (hk : ∀ i, i < w.heap.size → i ∉ o.ids → w'.heap[i]? = w.heap[i]?) (ho : o'.holds w')
    (hi : ∀ i ∈ o'.ids, i ∈ o.ids ∨ w.heap.size ≤ i) : St N0 w0 (L1 ++ o' :: L2) w' := by
  have hnd := S.nodup
  simp only [idsL, List.flatMap_append, List.flatMap_cons] at hnd
  rw [← List.append_assoc] at hnd
  have hapart : ∀ p, p ∈ L1 ∨ p ∈ L2 → ∀ i ∈ p.ids, i ∉ o.ids := by
    intro p hp i hi' hio
    obtain ⟨ha, hb, hc⟩ := List.nodup_append.1 hnd
    rcases hp with hp | hp
    · obtain ⟨_, _, hab⟩ := List.nodup_append.1 ha
      exact hab i (List.mem_flatMap.2 ⟨p, hp, hi'⟩) i hio rfl
    · exact hc i (List.mem_append.2 (.inr hio)) i (List.mem_flatMap.2 ⟨p, hp, hi'⟩) rfl
  refine ⟨h1.trans S.os, h2.trans S.tape, h3.trans S.output, Nat.le_trans S.size h4, ?_, ?_, ?_, ?_⟩
  · intro i hi1 hi2
    rw [hk i (Nat.lt_of_lt_of_le hi1 S.size) (fun hio => S.off i hi1 hi2 (List.mem_flatMap.2 ⟨o, by simp, hio⟩))]
    exact S.keep i hi1 hi2
  · intro i hi1 hi2 hi3
    obtain ⟨p, hp, hip⟩ := List.mem_flatMap.1 hi3
    simp only [List.mem_append, List.mem_cons] at hp
    rcases hp with hp | rfl | hp
    · exact S.off i hi1 hi2 (List.mem_flatMap.2 ⟨p, by simp [hp], hip⟩)
    · rcases hi i hip with h | h
      · exact S.off i hi1 hi2 (List.mem_flatMap.2 ⟨o, by simp, h⟩)
      · have := S.size; omega
    · exact S.off i hi1 hi2 (List.mem_flatMap.2 ⟨p, by simp [hp], hip⟩)
  · intro p hp
    simp only [List.mem_append, List.mem_cons] at hp
    have other : (p ∈ L1 ∨ p ∈ L2) → p.holds w' := fun hp' =>
      have hh := S.hold p (by rcases hp' with h | h <;> simp [h])
      Own.keep hh fun i hi' => hk i (Own.lt hh i hi') (hapart p hp' i hi')
    rcases hp with hp | rfl | hp
    · exact other (.inl hp)
    · exact ho
    · exact other (.inr hp)
  · simp only [idsL, List.flatMap_append, List.flatMap_cons]
    rw [← List.append_assoc]
    refine nodup_mid hnd (Own.ids_nodup o') ?_
    intro i hi'
    rcases hi i hi' with h | h
    · exact ⟨fun hm => by obtain ⟨p, hp, hip⟩ := List.mem_flatMap.1 hm; exact hapart p (.inl hp) i hip h,
        fun hm => by obtain ⟨p, hp, hip⟩ := List.mem_flatMap.1 hm; exact hapart p (.inr hp) i hip h⟩
    · exact ⟨fun hm => by
          obtain ⟨p, hp, hip⟩ := List.mem_flatMap.1 hm
          have := Own.lt (S.hold p (by simp [hp])) i hip; omega,
        fun hm => by
          obtain ⟨p, hp, hip⟩ := List.mem_flatMap.1 hm
          have := Own.lt (S.hold p (by simp [hp])) i hip; omega⟩
/-! ### what is read -/
/-- cells, one behind the other, in blocks that are none of N -/
def Rd (N : List Nat) (w : World) (A : Option Addr) (cs : List Value) : Prop :=
  ∀ i, (h : i < cs.length) → ∃ a, A = some a ∧ a.spot = none ∧ a.block ∉ N ∧ w.cell? ⟨a.block, a.off + i, none⟩ = some cs[i]
theorem cell_lt {w : World} {a : Addr} {v : Value} (h : w.cell? a = some v) : a.block < w.heap.size := by
  unfold World.cell? at h
  cases hh : w.heap[a.block]? with
  | none => rw [hh] at h; cases h
  | some o => exact lt_of_some hh
theorem cell_congr {w w' : World} {a : Addr} (h : w'.heap[a.block]? = w.heap[a.block]?) : w'.cell? a = w.cell? a := by
  unfold World.cell?; rw [h]
theorem Rd.st {N0 : List Nat} {w0 w : World} {L : List Own} {A : Option Addr} {cs : List Value} (h : Rd N0 w0 A cs) (S : St N0 w0 L w) : Rd (idsL L) w A cs := by
  intro i hi
  obtain ⟨a, h1, h2, h3, h4⟩ := h i hi
  have hlt := cell_lt h4
  exact ⟨a, h1, h2, S.off _ hlt h3, (cell_congr (S.keep _ hlt h3)).trans h4⟩
theorem Rd.weak {N N' : List Nat} {w : World} {A : Option Addr} {cs : List Value} (h : Rd N w A cs) (hN : ∀ i ∈ N', i ∈ N) : Rd N' w A cs :=
  fun i hi => let ⟨a, h1, h2, h3, h4⟩ := h i hi; ⟨a, h1, h2, fun h => h3 (hN _ h), h4⟩
theorem Rd.now {N0 : List Nat} {w0 w : World} {L : List Own} {A : Option Addr} {cs : List Value} (h : Rd N0 w0 A cs) (S : St N0 w0 L w) : Rd [] w A cs :=
  (h.st S).weak (fun _ h => by simp at h)
/-- a slice of n elements of sz cells each -/
def Sl (N : List Nat) (w : World) (sz : Nat) (v : Value) (n : Nat) (cs : List Value) : Prop :=
  cs.length = n * sz ∧ ∃ A cap, v = .slice A n cap ∧ n ≤ cap ∧ (A = none → cap = 0) ∧ Rd N w A cs
theorem Sl.st {N0 : List Nat} {w0 w : World} {L : List Own} {sz n : Nat} {v : Value} {cs : List Value} (h : Sl N0 w0 sz v n cs) (S : St N0 w0 L w) : Sl (idsL L) w sz v n cs :=
  let ⟨h0, A, cap, h1, h2, h3, h4⟩ := h; ⟨h0, A, cap, h1, h2, h3, h4.st S⟩
theorem Sl.now {N0 : List Nat} {w0 w : World} {L : List Own} {sz n : Nat} {v : Value} {cs : List Value} (h : Sl N0 w0 sz v n cs) (S : St N0 w0 L w) : Sl [] w sz v n cs :=
  let ⟨h0, A, cap, h1, h2, h3, h4⟩ := h; ⟨h0, A, cap, h1, h2, h3, h4.now S⟩
theorem Sl.weak {N N' : List Nat} {w : World} {sz n : Nat} {v : Value} {cs : List Value} (h : Sl N w sz v n cs) (hN : ∀ i ∈ N', i ∈ N) : Sl N' w sz v n cs :=
  let ⟨h0, A, cap, h1, h2, h3, h4⟩ := h; ⟨h0, A, cap, h1, h2, h3, h4.weak hN⟩
/-- an own row, as it is read now -/
theorem Own.sl {w : World} {v : Value} {T : TypeId} {sz n : Nat} {xs : List Value} (h : (Own.row v T sz n xs).holds w) (N : List Nat) (hN : ∀ i ∈ (Own.row v T sz n xs).ids, i ∉ N) : Sl N w sz v n xs := by
  obtain ⟨h0, h⟩ := h
  refine ⟨h0, ?_⟩
  rcases h with ⟨rfl, rfl⟩ | ⟨b, cap, c, rfl, _, hh, hn, hm, hs, ht⟩
  · exact ⟨none, 0, rfl, Nat.le_refl _, fun _ => rfl, fun i hi => by rw [h0, Nat.zero_mul] at hi; omega⟩
  · refine ⟨some ⟨b, 0, none⟩, cap, rfl, hn, (fun e => absurd e (by simp)), fun i hi => ⟨⟨b, 0, none⟩, rfl, rfl, hN b (by simp [Own.ids]), ?_⟩⟩
    subst ht
    have hi' : i < n * sz := by rw [List.length_take] at hi; omega
    have hic : i < c.size := by
      have : n * sz ≤ cap * sz := Nat.mul_le_mul_right _ hn
      omega
    simp only [World.cell?, hh, Nat.zero_add, Option.isSome_none, if_false, Bool.false_eq_true]
    rw [List.getElem_take]
    simp [Array.getElem?_eq_getElem hic]
theorem St.sl {N0 : List Nat} {w0 w : World} {L : List Own} {v : Value} {T : TypeId} {sz n : Nat} {xs : List Value} (S : St N0 w0 L w) (h : Own.row v T sz n xs ∈ L) : Sl [] w sz v n xs :=
  Own.sl (S.hold _ h) [] (by simp)
/-- an own row becomes one that is only read -/
theorem St.lay {N0 : List Nat} {w0 w : World} {L1 L2 : List Own} {v : Value} {T : TypeId} {sz n : Nat} {xs : List Value} (S : St N0 w0 (L1 ++ .row v T sz n xs :: L2) w) :
    Sl (idsL (L1 ++ L2)) w sz v n xs := by
  refine Own.sl (T := T) (S.hold _ (by simp)) _ ?_
  intro i hi hm
  have hnd := S.nodup
  simp only [idsL, List.flatMap_append, List.flatMap_cons] at hnd hm
  rw [← List.append_assoc] at hnd
  obtain ⟨ha, _, hc⟩ := List.nodup_append.1 hnd
  obtain ⟨_, _, hab⟩ := List.nodup_append.1 ha
  rcases List.mem_append.1 hm with hm | hm
  · exact hab i hm i hi rfl
  · exact hc i (List.mem_append.2 (.inr hi)) i hm rfl
/-! ### bytes -/
abbrev u8 (x : Int) : Value := .int .u8 x
abbrev i64 (x : Int) : Value := .int .i64 x
def byt (l : List Int) : Prop := ∀ x ∈ l, 0 ≤ x ∧ x < 256
def BS (N : List Nat) (w : World) (v : Value) (l : List Int) : Prop := byt l ∧ Sl N w 1 v l.length (l.map u8)
theorem BS.st {N0 : List Nat} {w0 w : World} {L : List Own} {v : Value} {l : List Int} (h : BS N0 w0 v l) (S : St N0 w0 L w) : BS (idsL L) w v l := ⟨h.1, h.2.st S⟩
theorem BS.now {N0 : List Nat} {w0 w : World} {L : List Own} {v : Value} {l : List Int} (h : BS N0 w0 v l) (S : St N0 w0 L w) : BS [] w v l := ⟨h.1, h.2.now S⟩
theorem BS.weak {N N' : List Nat} {w : World} {v : Value} {l : List Int} (h : BS N w v l) (hN : ∀ i ∈ N', i ∈ N) : BS N' w v l := ⟨h.1, h.2.weak hN⟩
theorem BS.any {N : List Nat} {w : World} {v : Value} {l : List Int} (h : BS N w v l) : BS [] w v l := h.weak (by simp)
theorem byt_getD {l : List Int} (h : byt l) (i : Nat) : 0 ≤ l.getD i 0 ∧ l.getD i 0 < 256 := by
  rw [List.getD_eq_getElem?_getD]
  cases hi : l[i]? with
  | none => simp
  | some x => simpa using h x (List.mem_of_getElem? hi)
theorem byt_nil : byt [] := fun _ h => by simp at h
theorem byt_app {a b : List Int} (ha : byt a) (hb : byt b) : byt (a ++ b) := fun x hx => (List.mem_append.1 hx).elim (ha x) (hb x)
theorem byt_take {a : List Int} (ha : byt a) (n : Nat) : byt (a.take n) := fun x hx => ha x (List.mem_of_mem_take hx)
theorem byt_drop {a : List Int} (ha : byt a) (n : Nat) : byt (a.drop n) := fun x hx => ha x (List.mem_of_mem_drop hx)
theorem byt_set {a : List Int} (ha : byt a) (i : Nat) {x : Int} (hx : 0 ≤ x ∧ x < 256) : byt (a.set i x) := fun y hy => by
  rcases List.mem_or_eq_of_mem_set hy with h | rfl
  · exact ha y h
  · exact hx
theorem BS.len {N : List Nat} {w : World} {v : Value} {l : List Int} (h : BS N w v l) : ∃ A cap, v = .slice A l.length cap ∧ l.length ≤ cap :=
  let ⟨_, A, cap, h1, h2, _⟩ := h.2; ⟨A, cap, h1, h2⟩
end Go.Proofs.YtkahmepenjhcpaaDoor.W
/- The base of this seat's proofs, fourth part: rules for the operations on memory. No statement of the seat is proved here. -/
namespace Go.Proofs.YtkahmepenjhcpaaDoor.W
open Go
set_option linter.unusedSimpArgs false
/-! ### types -/
def aggD : TypeDesc → Bool
  | .struct _ | .array _ _ => true
  | _ => false
structure TyI (P : Program) (T : TypeId) (sz : Nat) (agg : Bool) (zc : List Value) : Prop where
  i : (P.info? T).map (fun i => (i.size, i.zero.map (fun z => z.cells.toList))) = some (sz, some zc)
  u : (P.underlying T).map aggD = some agg
theorem TyI.get {P : Program} {T : TypeId} {sz : Nat} {agg : Bool} {zc : List Value} (h : TyI P T sz agg zc) :
    ∃ i z d, P.info? T = some i ∧ i.size = sz ∧ i.zero = some z ∧ z.cells.toList = zc ∧ P.underlying T = some d ∧ aggD d = agg := by
  have h1 := h.i
  have h2 := h.u
  cases hi : P.info? T with
  | none => rw [hi] at h1; cases h1
  | some i =>
    rw [hi] at h1
    cases hd : P.underlying T with
    | none => rw [hd] at h2; cases h2
    | some d =>
      rw [hd] at h2
      simp only [Option.map_some, Option.some.injEq, Prod.mk.injEq] at h1 h2
      cases hz : i.zero with
      | none => rw [hz] at h1; cases h1.2
      | some z =>
        rw [hz] at h1
        simp only [Option.map_some, Option.some.injEq] at h1
        exact ⟨i, z, d, rfl, h1.1, hz, h1.2, rfl, h2⟩
/-- a slice type, its elements -/
structure ElT (P : Program) (T E : TypeId) (sz bytes : Nat) (zc : List Value) : Prop where
  u : P.underlying T = some (.slice E)
  i : (P.info? E).map (fun i => (i.size, i.bytes, i.zero.map (fun z => z.cells.toList))) = some (sz, bytes, some zc)
  l : zc.length = sz
  p : 0 < sz
theorem ElT.get {P : Program} {T E : TypeId} {sz bytes : Nat} {zc : List Value} (h : ElT P T E sz bytes zc) :
    ∃ i z, P.info? E = some i ∧ i.size = sz ∧ i.bytes = bytes ∧ i.zero = some z ∧ z.cells.toList = zc := by
  have h1 := h.i
  cases hi : P.info? E with
  | none => rw [hi] at h1; cases h1
  | some i =>
    rw [hi] at h1
    simp only [Option.map_some, Option.some.injEq, Prod.mk.injEq] at h1
    cases hz : i.zero with
    | none => rw [hz] at h1; cases h1.2.2
    | some z =>
      rw [hz] at h1
      simp only [Option.map_some, Option.some.injEq] at h1
      exact ⟨i, z, rfl, h1.1, h1.2.1, hz, h1.2.2⟩
/-! ### lists, evaluated to their normal forms -/
def getN {α : Type} : List α → Nat → Option α
  | [], _ => none
  | x :: _, 0 => some x
  | _ :: r, i + 1 => getN r i
theorem getN_eq {α : Type} : ∀ (l : List α) (i : Nat), getN l i = l[i]?
  | [], i => by simp [getN]
  | x :: _, 0 => by simp [getN]
  | _ :: r, i + 1 => by simp [getN, getN_eq r i]
def setN {α : Type} : List α → Nat → α → Option (List α)
  | [], _, _ => none
  | _ :: r, 0, y => some (y :: r)
  | x :: r, i + 1, y => match setN r i y with
    | some r' => some (x :: r')
    | none => none
theorem setN_spec {α : Type} : ∀ (l : List α) (i : Nat) (y : α) (l' : List α), setN l i y = some l' →
    ∃ A x B, l = A ++ x :: B ∧ l' = A ++ y :: B ∧ A.length = i
  | [], i, y, l', h => by simp [setN] at h
  | x :: r, 0, y, l', h => by simp only [setN, Option.some.injEq] at h; exact ⟨[], x, r, rfl, h.symm, rfl⟩
  | x :: r, i + 1, y, l', h => by
    simp only [setN] at h
    cases hr : setN r i y with
    | none => rw [hr] at h; cases h
    | some r' =>
      rw [hr] at h
      simp only [Option.some.injEq] at h
      obtain ⟨A, z, B, h1, h2, h3⟩ := setN_spec r i y r' hr
      exact ⟨x :: A, z, B, by rw [h1]; rfl, by rw [← h, h2]; rfl, by simp [h3]⟩
theorem setN_get {α : Type} {l l' : List α} {i : Nat} {y o : α} (h : setN l i y = some l') (hg : getN l i = some o) :
    ∃ A B, l = A ++ o :: B ∧ l' = A ++ y :: B := by
  obtain ⟨A, x, B, rfl, h2, h3⟩ := setN_spec _ _ _ _ h
  rw [getN_eq] at hg
  rw [List.getElem?_append_right (by omega), h3, Nat.sub_self] at hg
  simp only [List.getElem?_cons_zero, Option.some.injEq] at hg
  subst hg
  exact ⟨A, B, rfl, h2⟩
/-- cells written over others -/
def putN : List Value → Nat → List Value → Option (List Value)
  | c, _, [] => some c
  | [], _, _ :: _ => none
  | _ :: r, 0, v :: vs => match putN r 0 vs with
    | some r' => some (v :: r')
    | none => none
  | x :: r, i + 1, v :: vs => match putN r i (v :: vs) with
    | some r' => some (x :: r')
    | none => none
theorem putN_spec : ∀ (c : List Value) (i : Nat) (vs c' : List Value), putN c i vs = some c' → vs ≠ [] → i + vs.length ≤ c.length ∧ c' = c.take i ++ vs ++ c.drop (i + vs.length)
  | c, i, [], c', h, hne => absurd rfl hne
  | [], i, v :: vs, c', h, _ => by simp [putN] at h
  | x :: r, 0, [v], c', h, _ => by
    have : c' = v :: r := by cases r <;> simp [putN] at h <;> exact h.symm
    subst this; simp
  | x :: r, 0, v :: u :: vs, c', h, _ => by
    simp only [putN] at h
    cases hr : putN r 0 (u :: vs) with
    | none => rw [hr] at h; cases h
    | some r' =>
      rw [hr] at h
      simp only [Option.some.injEq] at h
      obtain ⟨h1, h2⟩ := putN_spec r 0 (u :: vs) r' hr (by simp)
      subst h
      simp only [List.length_cons] at *
      refine ⟨by omega, ?_⟩
      rw [h2]
      simp [Nat.add_comm, Nat.add_left_comm]
  | x :: r, i + 1, v :: vs, c', h, _ => by
    simp only [putN] at h
    cases hr : putN r i (v :: vs) with
    | none => rw [hr] at h; cases h
    | some r' =>
      rw [hr] at h
      simp only [Option.some.injEq] at h
      obtain ⟨h1, h2⟩ := putN_spec r i (v :: vs) r' hr (by simp)
      subst h
      refine ⟨by simp only [List.length_cons] at *; omega, ?_⟩
      rw [h2]
      have : i + 1 + (v :: vs).length = (i + (v :: vs).length) + 1 := by omega
      rw [this]; simp
/-- cells cut out -/
def subN : List Value → Nat → Nat → Option (List Value)
  | _, _, 0 => some []
  | [], _, _ + 1 => none
  | x :: r, 0, m + 1 => match subN r 0 m with
    | some r' => some (x :: r')
    | none => none
  | _ :: r, i + 1, m + 1 => subN r i (m + 1)
theorem subN_spec : ∀ (c : List Value) (i m : Nat) (c' : List Value), subN c i m = some c' → m ≠ 0 → i + m ≤ c.length ∧ c' = (c.drop i).take m
  | c, i, 0, c', h, hne => absurd rfl hne
  | [], i, m + 1, c', h, _ => by simp [subN] at h
  | x :: r, 0, 1, c', h, _ => by
    have : c' = [x] := by cases r <;> simp [subN] at h <;> exact h.symm
    subst this; simp
  | x :: r, 0, m + 2, c', h, _ => by
    simp only [subN] at h
    cases hr : subN r 0 (m + 1) with
    | none => rw [hr] at h; cases h
    | some r' =>
      rw [hr] at h
      simp only [Option.some.injEq] at h
      obtain ⟨h1, h2⟩ := subN_spec r 0 (m + 1) r' hr (by simp)
      subst h
      refine ⟨by simp only [List.length_cons] at *; omega, ?_⟩
      rw [h2]; simp
  | x :: r, i + 1, m + 1, c', h, _ => by
    simp only [subN] at h
    obtain ⟨h1, h2⟩ := subN_spec r i (m + 1) c' h (by simp)
    refine ⟨by simp only [List.length_cons] at *; omega, ?_⟩
    rw [h2]; simp
theorem add_addr {a : Addr} (h : a.spot = none) (j : Nat) : a.add j = ⟨a.block, a.off + j, none⟩ := by
  unfold Addr.add
  split
  · rename_i e; subst e; cases a; simp only at h; subst h; rfl
  · rfl
theorem add_new (b o j : Nat) : (⟨b, o, none⟩ : Addr).add j = ⟨b, o + j, none⟩ := add_addr rfl j
theorem Rd.cells {N : List Nat} {w : World} {A : Addr} {cs : List Value} (h : Rd N w (some A) cs) : ∀ j v, cs[j]? = some v → w.cell? (A.add j) = some v := by
  intro j v hj
  have hlt : j < cs.length := by
    rcases Nat.lt_or_ge j cs.length with h | h
    · exact h
    · rw [List.getElem?_eq_none h] at hj; cases hj
  obtain ⟨a, h1, h2, _, h4⟩ := h j hlt
  simp only [Option.some.injEq] at h1
  subst h1
  rw [add_addr h2, h4, ← hj, List.getElem?_eq_getElem hlt]
theorem bl_alloc (w : World) (o : Obj) : Bl w (w.alloc o) := (Go.RowKit.Below.refl _ _).alloc (Nat.le_refl _) o
section op
variable {P : Program} {R : Qp} {ds : List Deferred} {n : Nat} {l : Env} {k : List KI} {w w0 : World} {ops : Array Oper} {os : List Oper}
variable {d : Nat} {G gx gy ex ey : Gs} {ty : TypeId} {ps : String} {af : Array Edge} {gu : Option (Nat × Bool)} {x y : Operand} {N0 : List Nat} {L L' : List Own}
theorem St.newVar (S : St N0 w0 L w) (T : TypeId) (c : List Value) : St N0 w0 (.var w.heap.size T c :: L) (w.alloc (.cells c.toArray T)) :=
  S.new (bl_alloc w _) (heap_alloc_new w _) (by simp [Own.ids]) (by simp [Own.ids])
theorem alc {T : TypeId} {sz : Nat} {ag : Bool} {c : List Value} (hT : TyI P T sz ag c) (S : St N0 w0 L w) (hn : Nat.blt d n = true)
    (h : ∀ b w', w.heap.size ≤ b → St N0 w0 (.var b T c :: L) w' → Bl w w' → Ro P R ds n ops ((d, [], .pointer (some ⟨b, 0, none⟩)) :: l) os k w') :
    Ro P R ds n ops l ({ dst := some d, op := .alloc T, type := ty, pos := ps, after := af, guard := none } :: os) k w := by
  obtain ⟨i, z, dd, h1, h2, h3, h4, _, _⟩ := hT.get
  refine opw (w' := w.alloc (.cells c.toArray T)) rfl rfl hn ?_ (h _ _ (Nat.le_refl _) (S.newVar T c) (bl_alloc w _))
  intro a _
  have : z.cells = c.toArray := by rw [← h4]
  simp [execOp, Instr.alloc, zeroValue, typeInfo, h1, h3, newVar, newRow, this]
theorem boxA {T : TypeId} {c : List Value} (hx : ev l x = some ([], .agg c.toArray)) (S : St N0 w0 L w) (hn : Nat.blt d n = true)
    (h : ∀ b w', w.heap.size ≤ b → St N0 w0 (.var b T c :: L) w' → Bl w w' → Ro P R ds n ops ((d, [], .pointer (some ⟨b, 0, none⟩)) :: l) os k w') :
    Ro P R ds n ops l ({ dst := some d, op := .box T x, type := ty, pos := ps, after := af, guard := none } :: os) k w := by
  refine opw (w' := w.alloc (.cells c.toArray T)) rfl rfl hn ?_ (h _ _ (Nat.le_refl _) (S.newVar T c) (bl_alloc w _))
  intro a ha
  simp [execOp, Instr.box, newVar, newRow, ha.eval hx trivial, Value.cells]
theorem cells_one {v : Value} (h : v.oneCell' = true) : v.cells = #[v] := by cases v <;> first | rfl | cases h
theorem boxS {T : TypeId} {v : Value} (hx : ev l x = some ([], v)) (h1 : v.oneCell' = true) (S : St N0 w0 L w) (hn : Nat.blt d n = true)
    (h : ∀ b w', w.heap.size ≤ b → St N0 w0 (.var b T [v] :: L) w' → Bl w w' → Ro P R ds n ops ((d, [], .pointer (some ⟨b, 0, none⟩)) :: l) os k w') :
    Ro P R ds n ops l ({ dst := some d, op := .box T x, type := ty, pos := ps, after := af, guard := none } :: os) k w := by
  refine opw (w' := w.alloc (.cells [v].toArray T)) rfl rfl hn ?_ (h _ _ (Nat.le_refl _) (S.newVar T [v]) (bl_alloc w _))
  intro a ha
  simp [execOp, Instr.box, newVar, newRow, ha.eval hx trivial, cells_one h1]
theorem St.var {b : Nat} {T : TypeId} {c : List Value} (S : St N0 w0 L w) {i : Nat} (hk : getN L i = some (.var b T c)) : w.heap[b]? = some (.cells c.toArray T (0, 0)) := by
  rw [getN_eq] at hk
  exact S.hold _ (List.mem_of_getElem? hk)
theorem cellsLoad {b off : Nat} {T : TypeId} {c cs : List Value} (hh : w.heap[b]? = some (.cells c.toArray T (0, 0))) (hc : subN c off cs.length = some cs) (h0 : cs.length ≠ 0) :
    ∀ j v, cs[j]? = some v → w.cell? ((⟨b, off, none⟩ : Addr).add j) = some v := by
  obtain ⟨h1, h2⟩ := subN_spec _ _ _ _ hc h0
  intro j v hj
  rw [add_new, cell_of_row w b (off + j) _ _ _ hh]
  have hlt : j < cs.length := by
    rcases Nat.lt_or_ge j cs.length with h | h
    · exact h
    · rw [List.getElem?_eq_none h] at hj; cases hj
  rw [← hj]
  conv => rhs; rw [h2]
  rw [List.getElem?_take, if_pos hlt, List.getElem?_drop]
  simp
/-- one cell of a block of one's own -/
theorem ld1 {T : TypeId} {sz : Nat} {zc : List Value} {b off i : Nat} {T' : TypeId} {c : List Value} {v : Value} (hx : ev l x = some (gx, .pointer (some ⟨b, off, none⟩))) (hT : TyI P T sz false zc)
    (S : St N0 w0 L w) (hk : getN L i = some (.var b T' c)) (hv : getN c off = some v) (hG : gd ops l gu = some G) (hpx : G = gx ++ ex) (hn : Nat.blt d n = true)
    (h : Ro P R ds n ops ((d, G, v) :: l) os k w) :
    Ro P R ds n ops l ({ dst := some d, op := .load T x, type := ty, pos := ps, after := af, guard := gu } :: os) k w := by
  obtain ⟨i, z, dd, h1, h2, h3, h4, h5, h6⟩ := hT.get
  refine opv hG rfl hn ?_ h
  intro hT' a ha
  have hc : w.cell? ⟨b, off, none⟩ = some v := by
    rw [cell_of_row w b off _ _ _ (S.var hk), ← hv, getN_eq]; simp
  simp only [execOp, ha.eval hx (pre_T hpx hT'), Instr.loadAt, Instr.sureAddr, loadVar, isAgg]
  cases dd <;> simp [aggD] at h6 <;> simp [run_underlying h5, hc]
/-- several cells of a block of one's own -/
theorem ldA {T : TypeId} {sz : Nat} {zc : List Value} {b off i : Nat} {T' : TypeId} {c cs : List Value} (hx : ev l x = some (gx, .pointer (some ⟨b, off, none⟩))) (hT : TyI P T sz true zc)
    (S : St N0 w0 L w) (hk : getN L i = some (.var b T' c)) (hv : subN c off sz = some cs) (hl : cs.length = sz) (h0 : sz ≠ 0) (hG : gd ops l gu = some G) (hpx : G = gx ++ ex) (hn : Nat.blt d n = true)
    (h : Ro P R ds n ops ((d, G, .agg cs.toArray) :: l) os k w) :
    Ro P R ds n ops l ({ dst := some d, op := .load T x, type := ty, pos := ps, after := af, guard := gu } :: os) k w := by
  obtain ⟨i, z, dd, h1, h2, h3, h4, h5, h6⟩ := hT.get
  refine opv hG rfl hn ?_ h
  intro hT' a ha
  subst hl
  have hl := run_loadCells_list (P := P) (w := w) ⟨b, off, none⟩ cs (cellsLoad (S.var hk) hv h0)
  simp only [execOp, ha.eval hx (pre_T hpx hT'), Instr.loadAt, Instr.sureAddr, loadVar, isAgg]
  cases dd <;> simp [aggD] at h6 <;> simp [run_underlying h5, sizeOf, typeInfo, h1, h2, hl]
/-- all cells of a block of one's own -/
theorem ldW {T : TypeId} {sz : Nat} {zc : List Value} {b i : Nat} {T' : TypeId} {c : List Value} (hx : ev l x = some (gx, .pointer (some ⟨b, 0, none⟩))) (hT : TyI P T sz true zc)
    (S : St N0 w0 L w) (hk : getN L i = some (.var b T' c)) (hl : c.length = sz) (hG : gd ops l gu = some G) (hpx : G = gx ++ ex) (hn : Nat.blt d n = true)
    (h : Ro P R ds n ops ((d, G, .agg c.toArray) :: l) os k w) :
    Ro P R ds n ops l ({ dst := some d, op := .load T x, type := ty, pos := ps, after := af, guard := gu } :: os) k w := by
  obtain ⟨i, z, dd, h1, h2, h3, h4, h5, h6⟩ := hT.get
  refine opv hG rfl hn ?_ h
  intro hT' a ha
  subst hl
  have hl := run_loadCells_list (P := P) (w := w) ⟨b, 0, none⟩ c (fun j v hj => by
    rw [add_new, cell_of_row w b (0 + j) _ _ _ (S.var hk), ← hj]; simp)
  simp only [execOp, ha.eval hx (pre_T hpx hT'), Instr.loadAt, Instr.sureAddr, loadVar, isAgg]
  cases dd <;> simp [aggD] at h6 <;> simp [run_underlying h5, sizeOf, typeInfo, h1, h2, hl]
theorem setRow_keep (g : Nat) (cs : Array Value) (i : Nat) (h : i ≠ g) : (w.setRow g cs).heap[i]? = w.heap[i]? := by
  simp only [World.setRow, Array.getElem?_modify]
  rw [if_neg (by omega)]
theorem setRow_at {g : Nat} {cur cs : Array Value} {t : TypeId} (hg : w.heap[g]? = some (.cells cur t (0, 0))) : (w.setRow g cs).heap[g]? = some (.cells cs t (0, 0)) := by
  simp [World.setRow, Array.getElem?_modify, hg]
theorem St.put {b i : Nat} {T' : TypeId} {c c' : List Value} (S : St N0 w0 L w) (hk : getN L i = some (.var b T' c)) (hL : setN L i (.var b T' c') = some L') :
    St N0 w0 L' (w.setRow b c'.toArray) := by
  obtain ⟨A, B, rfl, rfl⟩ := setN_get hL hk
  refine S.turn rfl rfl rfl (by simp) ?_ (setRow_at (S.var hk)) ?_
  · intro j _ hj; exact setRow_keep _ _ _ (by simpa [Own.ids] using hj)
  · intro j hj; exact .inl hj
theorem storeRun {T : TypeId} {sz : Nat} {ag : Bool} {zc : List Value} (hT : TyI P T sz ag zc) {b off : Nat} {T' : TypeId} {c c' vs : List Value} {v : Value} (hv : v.cells.toList = vs) (hh : w.heap[b]? = some (.cells c.toArray T' (0, 0)))
    (hc : putN c off vs = some c') (h1 : ∀ u ∈ vs, u.oneCell' = true) (hl : vs.length = sz) (h0 : sz ≠ 0) :
    (storeVar T ⟨b, off, none⟩ v).run P w = .ok () (w.setRow b c'.toArray) := by
  obtain ⟨i, z, dd, g1, g2, _⟩ := hT.get
  have hne : vs ≠ [] := by intro e; subst e; simp at hl; omega
  obtain ⟨h2, h3⟩ := putN_spec _ _ _ _ hc hne
  have hst := run_storeCells_at P b off T' vs 0 c.toArray w hh (by simpa using h2) h1
  have hsz : v.cells.size = i.size := by rw [g2, ← hl, ← hv]; simp
  simp only [storeVar, sizeOf, typeInfo]
  simp only [Sem.run_bind, run_program, Result.andThen_ok, g1, Sem.run_pure, hsz, hv]
  simp only [ne_eq, not_true_eq_false, if_false, Sem.run_bind, Sem.run_pure, Result.andThen_ok]
  simp only [Nat.add_zero] at hst
  rw [hst, h3]
/-- a store of one cell -/
theorem st1 {T : TypeId} {zc : List Value} {ag : Bool} {b off i : Nat} {T' : TypeId} {c c' : List Value} {v : Value} (hx : ev l x = some ([], .pointer (some ⟨b, off, none⟩))) (hy : ev l y = some ([], v))
    (hT : TyI P T 1 ag zc) (h1 : v.oneCell' = true) (S : St N0 w0 L w) (hk : getN L i = some (.var b T' c)) (hc : putN c off [v] = some c') (hL : setN L i (.var b T' c') = some L')
    (h : ∀ w', St N0 w0 L' w' → Ro P R ds n ops l os k w') :
    Ro P R ds n ops l ({ dst := none, op := .store T x y, type := ty, pos := ps, after := af, guard := none } :: os) k w := by
  refine opu rfl rfl ?_ (h _ (S.put hk hL))
  intro a ha
  simp only [execOp, ha.eval hx trivial, ha.eval hy trivial, Instr.storeAt, Instr.sureAddr, Sem.run_bind, Sem.run_pure, Result.andThen_ok]
  rw [storeRun hT (vs := [v]) (by rw [cells_one h1]) (S.var hk) hc (by simpa using h1) rfl (by simp)]
  rfl
/-- a store of several cells -/
theorem stA {T : TypeId} {sz : Nat} {zc : List Value} {ag : Bool} {b off i : Nat} {T' : TypeId} {c c' vs : List Value} (hx : ev l x = some ([], .pointer (some ⟨b, off, none⟩))) (hy : ev l y = some ([], .agg vs.toArray))
    (hT : TyI P T sz ag zc) (hl : vs.length = sz) (h0 : sz ≠ 0) (h1 : ∀ u ∈ vs, u.oneCell' = true) (S : St N0 w0 L w) (hk : getN L i = some (.var b T' c)) (hc : putN c off vs = some c') (hL : setN L i (.var b T' c') = some L')
    (h : ∀ w', St N0 w0 L' w' → Ro P R ds n ops l os k w') :
    Ro P R ds n ops l ({ dst := none, op := .store T x y, type := ty, pos := ps, after := af, guard := none } :: os) k w := by
  refine opu rfl rfl ?_ (h _ (S.put hk hL))
  intro a ha
  simp only [execOp, ha.eval hx trivial, ha.eval hy trivial, Instr.storeAt, Instr.sureAddr, Sem.run_bind, Sem.run_pure, Result.andThen_ok]
  rw [storeRun hT (vs := vs) (by simp [Value.cells]) (S.var hk) hc h1 hl h0]
  rfl
/-- a store over a whole block -/
theorem stW {T : TypeId} {sz : Nat} {zc : List Value} {ag : Bool} {b i : Nat} {T' : TypeId} {c vs : List Value} (hx : ev l x = some ([], .pointer (some ⟨b, 0, none⟩))) (hy : ev l y = some ([], .agg vs.toArray))
    (hT : TyI P T sz ag zc) (hl : vs.length = sz) (hlc : c.length = sz) (h1 : ∀ u ∈ vs, u.oneCell' = true) (S : St N0 w0 L w) (hk : getN L i = some (.var b T' c)) (hL : setN L i (.var b T' vs) = some L')
    (h : ∀ w', St N0 w0 L' w' → Ro P R ds n ops l os k w') :
    Ro P R ds n ops l ({ dst := none, op := .store T x y, type := ty, pos := ps, after := af, guard := none } :: os) k w := by
  refine opu rfl rfl ?_ (h _ (S.put hk hL))
  intro a ha
  obtain ⟨i, z, dd, g1, g2, _⟩ := hT.get
  have hst := run_storeCells_at P b 0 T' vs 0 c.toArray w (S.var hk) (by simp [hl, hlc]) h1
  simp only [Nat.add_zero] at hst
  have e : (List.take 0 c.toArray.toList ++ vs ++ List.drop (0 + vs.length) c.toArray.toList).toArray = vs.toArray := by
    have : List.drop (0 + vs.length) c.toArray.toList = [] := List.drop_eq_nil_of_le (by simp; omega)
    rw [this]; simp
  rw [e] at hst
  simp [execOp, ha.eval hx trivial, ha.eval hy trivial, Instr.storeAt, Instr.sureAddr, storeVar, sizeOf, typeInfo, g1, g2, Value.cells, hl, hst]
/-- a field's place -/
def fldO (P : Program) (T : TypeId) (f : Nat) : Option Nat :=
  match P.underlying T with
  | some (.struct fs) => match fs[f]? with
    | some fi => match P.info? fi.type with
      | some i => if i.size = 0 then none else some fi.offset
      | none => none
    | none => none
  | _ => none
theorem fldO_spec {T : TypeId} {f o : Nat} (h : fldO P T f = some o) {a : Addr} (ha : a.spot = none) :
    (Instr.fieldAt T (.pointer (some a)) f).run P w = .ok (.pointer (some ⟨a.block, a.off + o, none⟩)) w := by
  unfold fldO at h
  cases hu : P.underlying T with
  | none => rw [hu] at h; cases h
  | some u =>
    rw [hu] at h
    cases u with
    | struct fs =>
      simp only at h
      cases hf : fs[f]? with
      | none => rw [hf] at h; cases h
      | some fi =>
        rw [hf] at h
        simp only at h
        cases hi : P.info? fi.type with
        | none => rw [hi] at h; cases h
        | some i =>
          rw [hi] at h
          simp only at h
          split at h
          · cases h
          · rename_i hz
            simp only [Option.some.injEq] at h
            subst h
            simp [Instr.fieldAt, run_underlying hu, hf, Instr.sureAddr, fieldPlace, sizeOf, typeInfo, hi, hz, add_addr ha]
    | _ => cases h
theorem fld {T : TypeId} {f o o' : Nat} {b off : Nat} (hx : ev l x = some (gx, .pointer (some ⟨b, off, none⟩))) (hf : fldO P T f = some o) (ho : off + o = o') (hG : gd ops l gu = some G) (hpx : G = gx ++ ex) (hn : Nat.blt d n = true)
    (h : Ro P R ds n ops ((d, G, .pointer (some ⟨b, o', none⟩)) :: l) os k w) :
    Ro P R ds n ops l ({ dst := some d, op := .fieldAddr T x f, type := ty, pos := ps, after := af, guard := gu } :: os) k w := by
  subst ho
  refine opv hG rfl hn ?_ h
  intro hT a ha
  simp only [execOp, ha.eval hx (pre_T hpx hT)]
  rw [Sem.run_bind, fldO_spec hf rfl]; rfl
/-! ### slices -/
theorem lenS {T E : TypeId} {sz m : Nat} {v : Value} {cs : List Value} (hx : ev l x = some (gx, v)) (hS : Sl N0 w0 sz v m cs) (hT : P.underlying T = some (.slice E)) (hG : gd ops l gu = some G) (hpx : G = gx ++ ex) (hn : Nat.blt d n = true)
    (h : Ro P R ds n ops ((d, G, .int .i64 m) :: l) os k w) :
    Ro P R ds n ops l ({ dst := some d, op := .call { callee := .builtin .len, args := #[x], argTypes := #[T] }, type := ty, pos := ps, after := af, guard := gu } :: os) k w := by
  obtain ⟨_, A, cap, rfl, _⟩ := hS
  refine opv hG rfl hn ?_ h
  intro hT' a ha
  simp [execOp, resolve, invoke, builtin, Builtin.len_, ha.eval hx (pre_T hpx hT'), run_underlying hT, goInt]
/-- the address of a cell of a slice -/
def eP : Value → Nat → Value
  | .slice (some a) _ _, j => .pointer (some ⟨a.block, a.off + j, none⟩)
  | _, _ => undef
theorem Sl.some {sz m : Nat} {v : Value} {cs : List Value} (hS : Sl N0 w0 sz v m cs) {j : Nat} (hj : j < cs.length) : ∃ a cap, v = .slice (some a) m cap ∧ a.spot = none ∧ eP v j = .pointer (some ⟨a.block, a.off + j, none⟩) ∧
    w0.cell? ⟨a.block, a.off + j, none⟩ = some cs[j] ∧ a.block ∉ N0 := by
  obtain ⟨_, A, cap, rfl, _, _, h⟩ := hS
  obtain ⟨a, rfl, h2, h3, h4⟩ := h j hj
  exact ⟨a, cap, rfl, h2, rfl, h4, h3⟩
theorem lt_mul {i m sz : Nat} (h : i < m) (hp : 0 < sz) : i * sz < m * sz := Nat.mul_lt_mul_of_pos_right h hp
theorem ixa {T E : TypeId} {sz by_ m : Nat} {zc : List Value} {v : Value} {cs : List Value} {kd : IntKind} {i : Int} (hx : ev l x = some (gx, v)) (hy : ev l y = some (gy, .int kd i)) (hS : Sl N0 w0 sz v m cs) (hE : ElT P T E sz by_ zc)
    (hG : gd ops l gu = some G) (hpx : G = gx ++ ex) (hpy : G = gy ++ ey) (hn : Nat.blt d n = true) (hb : allT G → 0 ≤ i ∧ i < m)
    (h : Ro P R ds n ops ((d, G, eP v (i.toNat * sz)) :: l) os k w) :
    Ro P R ds n ops l ({ dst := some d, op := .indexAddr T x y, type := ty, pos := ps, after := af, guard := gu } :: os) k w := by
  refine opv hG rfl hn ?_ h
  intro hT a ha
  obtain ⟨i1, z, g1, g2, g3, g4, g5⟩ := hE.get
  have hb' := hb hT
  have hj : i.toNat * sz < cs.length := by
    rw [hS.1]
    exact lt_mul (by omega) hE.p
  obtain ⟨A, cap, rfl, hsp, he, _⟩ := hS.some hj
  simp only [execOp, ha.eval hx (pre_T hpx hT), ha.eval hy (pre_T hpy hT)]
  rw [he]
  simp [Instr.indexAt, asIntOf, run_underlying hE.u, hb'.1, hb'.2, sizeOf, typeInfo, g1, g2, add_addr hsp]
theorem flE {T : TypeId} {f o sz m j : Nat} {v : Value} {cs : List Value} (hx : ev l x = some (gx, eP v j)) (hS : Sl N0 w0 sz v m cs) (hf : fldO P T f = some o) (hG : gd ops l gu = some G) (hpx : G = gx ++ ex) (hn : Nat.blt d n = true)
    (hj : allT G → j < cs.length) (h : Ro P R ds n ops ((d, G, eP v (j + o)) :: l) os k w) :
    Ro P R ds n ops l ({ dst := some d, op := .fieldAddr T x f, type := ty, pos := ps, after := af, guard := gu } :: os) k w := by
  refine opv hG rfl hn ?_ h
  intro hT a ha
  obtain ⟨A, cap, rfl, hsp, he, _⟩ := hS.some (hj hT)
  simp only [execOp, ha.eval hx (pre_T hpx hT), he]
  rw [Sem.run_bind, fldO_spec hf rfl]
  simp [eP, Nat.add_assoc]
theorem ldE {T : TypeId} {sz tsz m j : Nat} {zc : List Value} {v u : Value} {cs : List Value} (hx : ev l x = some (gx, eP v j)) (hS : Sl N0 w0 sz v m cs) (S : St N0 w0 L w) (hT : TyI P T tsz false zc) (hG : gd ops l gu = some G) (hpx : G = gx ++ ex) (hn : Nat.blt d n = true)
    (hv : allT G → cs[j]? = some u) (h : Ro P R ds n ops ((d, G, u) :: l) os k w) :
    Ro P R ds n ops l ({ dst := some d, op := .load T x, type := ty, pos := ps, after := af, guard := gu } :: os) k w := by
  obtain ⟨i, z, dd, h1, h2, h3, h4, h5, h6⟩ := hT.get
  refine opv hG rfl hn ?_ h
  intro hT' a ha
  have hu := hv hT'
  have hj : j < cs.length := by
    rcases Nat.lt_or_ge j cs.length with h | h
    · exact h
    · rw [List.getElem?_eq_none h] at hu; cases hu
  obtain ⟨A, cap, rfl, hsp, he, hc, hb⟩ := hS.some hj
  have hc' : w.cell? ⟨A.block, A.off + j, none⟩ = some u := by
    rw [cell_congr (w := w0) (S.keep _ (cell_lt hc) hb), hc, ← hu, List.getElem?_eq_getElem hj]
  simp only [execOp, ha.eval hx (pre_T hpx hT'), he, Instr.loadAt, Instr.sureAddr, loadVar, isAgg]
  cases dd <;> simp [aggD] at h6 <;> simp [run_underlying h5, hc']
/-- a struct read out of a slice -/
theorem ldEA {T : TypeId} {sz m j tsz : Nat} {zc : List Value} {v : Value} {cs us : List Value} (hx : ev l x = some (gx, eP v j)) (hS : Sl N0 w0 sz v m cs) (S : St N0 w0 L w) (hT : TyI P T tsz true zc) (hG : gd ops l gu = some G) (hpx : G = gx ++ ex) (hn : Nat.blt d n = true)
    (h0 : tsz ≠ 0) (hl : us.length = tsz) (hv : allT G → j + tsz ≤ cs.length ∧ (cs.drop j).take tsz = us) (h : Ro P R ds n ops ((d, G, .agg us.toArray) :: l) os k w) :
    Ro P R ds n ops l ({ dst := some d, op := .load T x, type := ty, pos := ps, after := af, guard := gu } :: os) k w := by
  obtain ⟨i, z, dd, h1, h2, h3, h4, h5, h6⟩ := hT.get
  refine opv hG rfl hn ?_ h
  intro hT' a ha
  obtain ⟨hlen, hus⟩ := hv hT'
  obtain ⟨A, cap, hve, hsp, he, _, _⟩ := hS.some (j := j) (by omega)
  have hcs : ∀ q u, us[q]? = some u → w.cell? ((⟨A.block, A.off + j, none⟩ : Addr).add q) = some u := by
    intro q u hq
    have hqlt : q < us.length := by
      rcases Nat.lt_or_ge q us.length with h | h
      · exact h
      · rw [List.getElem?_eq_none h] at hq; cases hq
    obtain ⟨A', cap', hve', hsp', he', hc', hb'⟩ := hS.some (j := j + q) (by omega)
    rw [hve] at hve'
    simp only [Value.slice.injEq, Option.some.injEq] at hve'
    obtain ⟨rfl, _⟩ := hve'
    rw [add_new, Nat.add_assoc, cell_congr (w := w0) (S.keep _ (cell_lt hc') hb'), hc', ← hq]
    have e : us[q]? = ((cs.drop j).take tsz)[q]? := by rw [hus]
    rw [e, List.getElem?_take, if_pos (by omega), List.getElem?_drop, List.getElem?_eq_getElem (by omega)]
  have hl' := run_loadCells_list (P := P) (w := w) ⟨A.block, A.off + j, none⟩ us hcs
  rw [hl] at hl'
  simp only [execOp, ha.eval hx (pre_T hpx hT'), he, Instr.loadAt, Instr.sureAddr, loadVar, isAgg]
  cases dd <;> simp [aggD] at h6 <;> simp [run_underlying h5, sizeOf, typeInfo, h1, h2, hl']
theorem St.rowI {v : Value} {T : TypeId} {sz m : Nat} {xs : List Value} (S : St N0 w0 L w) {i : Nat} (hk : getN L i = some (.row v T sz m xs)) : w.ownsRow 0 T sz v m xs := by
  rw [getN_eq] at hk
  exact S.hold _ (List.mem_of_getElem? hk)
theorem St.slI {v : Value} {T : TypeId} {sz m : Nat} {xs : List Value} (S : St N0 w0 L w) {i : Nat} (hk : getN L i = some (.row v T sz m xs)) : Sl [] w sz v m xs := by
  rw [getN_eq] at hk
  exact S.sl (List.mem_of_getElem? hk)
/-- a cell of one's own slice is written -/
theorem stE {T T' : TypeId} {zc : List Value} {ag : Bool} {sz m j i : Nat} {v u : Value} {xs : List Value} (hx : ev l x = some ([], eP v j)) (hy : ev l y = some ([], u)) (hT : TyI P T 1 ag zc) (h1 : u.oneCell' = true) (S : St N0 w0 L w)
    (hk : getN L i = some (.row v T' sz m xs)) (hj : j < m * sz) (hL : setN L i (.row v T' sz m (xs.set j u)) = some L')
    (h : ∀ w', St N0 w0 L' w' → Ro P R ds n ops l os k w') :
    Ro P R ds n ops l ({ dst := none, op := .store T x y, type := ty, pos := ps, after := af, guard := none } :: os) k w := by
  obtain ⟨hlen, ho⟩ := S.rowI hk
  rcases ho with ⟨rfl, rfl⟩ | ⟨b, cap, c, rfl, _, hh, hm, hcm, hs, ht⟩
  · omega
  have hjc : j < c.size := by
    have : m * sz ≤ cap * sz := Nat.mul_le_mul_right _ hm
    omega
  obtain ⟨ii, z, dd, g1, g2, _⟩ := hT.get
  have hst := run_storeCells_at P b j T' [u] 0 c w hh (by simp; omega) (by simpa using h1)
  simp only [Nat.add_zero] at hst
  obtain ⟨A, B, rfl, rfl⟩ := setN_get hL hk
  refine opu (w' := w.setRow b (c.toList.take j ++ [u] ++ c.toList.drop (j + [u].length)).toArray) rfl rfl ?_ (h _ ?_)
  · intro a ha
    have he : eP (.slice (some ⟨b, 0, none⟩) m cap) j = .pointer (some ⟨b, j, none⟩) := by simp [eP]
    simp [execOp, ha.eval hx trivial, he, ha.eval hy trivial, Instr.storeAt, Instr.sureAddr, storeVar, sizeOf, typeInfo, g1, g2, cells_one h1, hst]
  · refine S.turn rfl rfl rfl (by simp) ?_ ?_ ?_
    · intro q _ hq; exact setRow_keep _ _ _ (by simpa [Own.ids] using hq)
    · refine ⟨by simp [hlen], .inr ⟨b, cap, _, rfl, Nat.zero_le _, setRow_at hh, hm, hcm, ?_, ?_⟩⟩
      · simp only [List.size_toArray, List.length_append, List.length_take, List.length_drop, Array.length_toList, List.length_cons, List.length_nil]
        omega
      · rw [← ht]
        have e : (c.toList.take j ++ [u] ++ c.toList.drop (j + [u].length)) = c.toList.set j u := by
          rw [List.set_eq_take_append_cons_drop, if_pos (by simpa using hjc)]
          simp
        simp only [e, List.take_set]
    · intro q hq; exact .inl hq
end op
end Go.Proofs.YtkahmepenjhcpaaDoor.W
/- The base of this seat's proofs, fifth part: cutting, appending, building. No statement of the seat is proved here. -/
namespace Go.Proofs.YtkahmepenjhcpaaDoor.W
open Go
set_option linter.unusedSimpArgs false
def capV : Value → Nat
  | .slice _ _ c => c
  | _ => 0
theorem Rd.sub {N : List Nat} {w : World} {A : Addr} {cs : List Value} (h : Rd N w (some A) cs) (j m : Nat) : Rd N w (some ⟨A.block, A.off + j, none⟩) ((cs.drop j).take m) := by
  intro i hi
  have hi' : j + i < cs.length := by simp only [List.length_take, List.length_drop] at hi; omega
  obtain ⟨a, h1, h2, h3, h4⟩ := h (j + i) hi'
  simp only [Option.some.injEq] at h1
  subst h1
  refine ⟨_, rfl, rfl, h3, ?_⟩
  simp only [Nat.add_assoc]
  rw [h4]
  simp [List.getElem_take, List.getElem_drop]
theorem Rd.self {N : List Nat} {w : World} {A : Option Addr} {cs : List Value} (h : cs = []) : Rd N w A cs := by
  subst h; intro i hi; simp at hi
section op
variable {P : Program} {R : Qp} {ds : List Deferred} {n : Nat} {l : Env} {k : List KI} {w w0 : World} {ops : Array Oper} {os : List Oper}
variable {d : Nat} {G gx gy gz gu' ex ey ez eu : Gs} {ty : TypeId} {ps : String} {af : Array Edge} {gu : Option (Nat × Bool)} {x y z u : Operand} {N0 : List Nat} {L L' : List Own}
/-- what a cut of a slice comes to -/
theorem slRun {T E : TypeId} {sz by_ m : Nat} {zc : List Value} {v : Value} {cs : List Value} (hS : Sl N0 w0 sz v m cs) (hE : ElT P T E sz by_ zc) (w : World)
    (lo hi mx : Nat) (hl : lo ≤ hi) (hh : hi ≤ m) (hm : hi ≤ mx) (hc : mx ≤ capV v) :
    ∃ v', Sl N0 w0 sz v' (hi - lo) ((cs.drop (lo * sz)).take ((hi - lo) * sz)) ∧ capV v' = mx - lo ∧
      (do let size ← sizeOf E; match v with | .slice a _ _ => pure (.slice (if mx = lo then a else a.map (·.add (lo * size))) (hi - lo) (mx - lo)) | _ => stuck "" : Sem Value).run P w = .ok v' w := by
  obtain ⟨i1, z, g1, g2, g3, g4, g5⟩ := hE.get
  obtain ⟨hlen, A, cap, rfl, hmc, hA, hR⟩ := hS
  refine ⟨_, ⟨?_, (if mx = lo then A else A.map (·.add (lo * sz))), mx - lo, rfl, by omega, ?_, ?_⟩, rfl, ?_⟩
  · simp only [List.length_take, List.length_drop, hlen]
    have : (hi - lo) * sz + lo * sz ≤ m * sz := by rw [← Nat.add_mul]; exact Nat.mul_le_mul_right _ (by omega)
    omega
  · intro h
    split at h
    · omega
    · cases A with
      | none => have := hA rfl; simp only [capV] at hc; omega
      | some a => simp at h
  · split
    · rename_i e
      refine Rd.self ?_
      have : hi - lo = 0 := by omega
      simp [this]
    · cases A with
      | none =>
        refine Rd.self ?_
        have h0 := hA rfl
        have : m = 0 := by omega
        subst this
        have : cs = [] := List.eq_nil_of_length_eq_zero (by simpa using hlen)
        simp [this]
      | some a =>
        rcases Nat.eq_zero_or_pos ((cs.drop (lo * sz)).take ((hi - lo) * sz)).length with h0 | h0
        · exact Rd.self (List.eq_nil_of_length_eq_zero h0)
        · have hpos : 0 < cs.length := by simp only [List.length_take, List.length_drop] at h0; omega
          obtain ⟨a', h1, h2, _⟩ := hR 0 hpos
          simp only [Option.some.injEq] at h1
          subst h1
          simp only [Option.map_some, add_addr h2]
          exact hR.sub _ _
  · simp [sizeOf, typeInfo, g1, g2]
def bnd (l : Env) (G : Gs) : Option Operand → Option Nat → Prop
  | none, none => True
  | some x, some i => ∃ g e kd, ev l x = some (g, .int kd (i : Int)) ∧ G = g ++ e
  | _, _ => False
theorem bnd_eval {a : Act} (ha : En ds n l a) (hT : allT G) {o : Option Operand} {i : Option Nat} (h : bnd l G o i) : ∃ kd, o.map a.eval = i.map (fun (i : Nat) => Value.int kd (i : Int)) := by
  cases o with
  | none => cases i with
    | none => exact ⟨.i64, rfl⟩
    | some i => exact h.elim
  | some x => cases i with
    | none => exact h.elim
    | some i => obtain ⟨g, e, kd, h1, h2⟩ := h; exact ⟨kd, by simp [ha.eval h1 (pre_T h2 hT)]⟩
theorem sb_run {kd : IntKind} {i y : Nat} {c : BoundsCode} (h : i ≤ y) (w : World) : (Instr.sliceBound (.int kd (i : Int)) y c).run P w = .ok i w := by
  have : (i : Int) ≤ (y : Int) := by omega
  simp [Instr.sliceBound, asIntOf, this]
/-- 'x[lo:hi:mx]' of a slice: its value, in every world -/
theorem slX {T E : TypeId} {sz by_ m : Nat} {zc : List Value} {v : Value} {cs : List Value} (hS : Sl N0 w0 sz v m cs) (hE : ElT P T E sz by_ zc) (lo hi mx : Nat)
    (hb : lo ≤ hi ∧ hi ≤ m ∧ hi ≤ mx ∧ mx ≤ capV v) :
    ∃ v', Sl N0 w0 sz v' (hi - lo) ((cs.drop (lo * sz)).take ((hi - lo) * sz)) ∧ capV v' = mx - lo ∧ ∀ (w : World) (a : Act) {ds : List Deferred} {n : Nat} {l : Env} {G gx : Gs} {x : Operand} {d : Nat} {ty : TypeId} {ps : String} {af : Array Edge} {gu : Option (Nat × Bool)}
      {o1 o2 o3 : Option Operand} {i1 i2 i3 : Option Nat}, En ds n l a → allT gx → allT G → ev l x = some (gx, v) → bnd l G o1 i1 → bnd l G o2 i2 → bnd l G o3 i3 →
      i1.getD 0 = lo → i2.getD m = hi → i3.getD (capV v) = mx → (i3.isSome = true → i2.isSome = true) →
      (execOp a.eval { dst := some d, op := .slice T x o1 o2 o3, type := ty, pos := ps, after := af, guard := gu }).run P w = .ok (.value v') w := by
  obtain ⟨b1, b2, b3, b4⟩ := hb
  obtain ⟨i, z, g1, g2, g3, g4, g5⟩ := hE.get
  have hr0 := fun w => slRun hS hE w lo hi mx b1 b2 b3 b4
  obtain ⟨_, A, cap, rfl, hmc, _⟩ := hS
  refine ⟨.slice (if mx = lo then A else A.map (·.add (lo * sz))) (hi - lo) (mx - lo), ?_, rfl, ?_⟩
  · obtain ⟨v', hs', _, hr'⟩ := hr0 w0
    have : (.slice (if mx = lo then A else A.map (·.add (lo * sz))) (hi - lo) (mx - lo) : Value) = v' := by
      simpa [sizeOf, typeInfo, g1, g2] using hr'
    rw [this]; exact hs'
  · intro w a ds n l G gx x d ty ps af gu o1 o2 o3 i1 i2 i3 ha hTx hT hx h1 h2 h3 e1 e2 e3 h23
    obtain ⟨k1, q1⟩ := bnd_eval ha hT h1
    obtain ⟨k2, q2⟩ := bnd_eval ha hT h2
    obtain ⟨k3, q3⟩ := bnd_eval ha hT h3
    simp only [execOp, ha.eval hx hTx, q1, q2, q3]
    have hsb : (Instr.sliceBounds true m cap (i1.map fun (i : Nat) => Value.int k1 (i : Int)) (i2.map fun (i : Nat) => Value.int k2 (i : Int)) (i3.map fun (i : Nat) => Value.int k3 (i : Int))).run P w = .ok (lo, hi, mx) w := by
      simp only [capV] at b4 e3
      cases i3 with
      | none =>
        simp only [Option.getD_none] at e3; subst e3
        cases i2 with
        | none =>
          simp only [Option.getD_none] at e2; subst e2
          cases i1 with
          | none => simp only [Option.getD_none] at e1; subst e1; simp [Instr.sliceBounds]
          | some i1 => simp only [Option.getD_some] at e1; subst e1; simp [Instr.sliceBounds, sb_run (P := P) b1]
        | some i2 =>
          simp only [Option.getD_some] at e2; subst e2
          cases i1 with
          | none => simp only [Option.getD_none] at e1; subst e1; simp [Instr.sliceBounds, sb_run (P := P) b3]
          | some i1 => simp only [Option.getD_some] at e1; subst e1; simp [Instr.sliceBounds, sb_run (P := P) b1, sb_run (P := P) b3]
      | some i3 =>
        simp only [Option.getD_some] at e3; subst e3
        cases i2 with
        | none => simp at h23
        | some i2 =>
          simp only [Option.getD_some] at e2; subst e2
          cases i1 with
          | none => simp only [Option.getD_none] at e1; subst e1; simp [Instr.sliceBounds, sb_run (P := P) b3, sb_run (P := P) b4]
          | some i1 => simp only [Option.getD_some] at e1; subst e1; simp [Instr.sliceBounds, sb_run (P := P) b1, sb_run (P := P) b3, sb_run (P := P) b4]
    have hsz : (sizeOf E).run P w = .ok sz w := by simp [sizeOf, typeInfo, g1, g2]
    simp [Instr.sliceAt, Instr.slice, run_underlying hE.u, hsb, hsz]
/-- 'x[lo:hi:mx]' of a slice -/
theorem slS {T E : TypeId} {sz by_ m : Nat} {zc : List Value} {v : Value} {cs : List Value} {o1 o2 o3 : Option Operand} {i1 i2 i3 : Option Nat} {lo hi mx : Nat}
    (hx : ev l x = some (gx, v)) (hS : Sl N0 w0 sz v m cs) (hE : ElT P T E sz by_ zc)
    (hG : gd ops l gu = some G) (hpx : G = gx ++ ex) (hn : Nat.blt d n = true)
    (h1 : bnd l G o1 i1) (h2 : bnd l G o2 i2) (h3 : bnd l G o3 i3)
    (e1 : i1.getD 0 = lo) (e2 : i2.getD m = hi) (e3 : i3.getD (capV v) = mx) (h23 : i3.isSome = true → i2.isSome = true)
    (hb : allT G → lo ≤ hi ∧ hi ≤ m ∧ hi ≤ mx ∧ mx ≤ capV v)
    (h : ∀ v', (allT G → Sl N0 w0 sz v' (hi - lo) ((cs.drop (lo * sz)).take ((hi - lo) * sz)) ∧ capV v' = mx - lo) → Ro P R ds n ops ((d, G, v') :: l) os k w) :
    Ro P R ds n ops l ({ dst := some d, op := .slice T x o1 o2 o3, type := ty, pos := ps, after := af, guard := gu } :: os) k w := by
  rcases Classical.em (allT G) with hT0 | hT0
  case inr => exact opv (v := undef) hG rfl hn (fun hT => absurd hT hT0) (h _ (fun hT => absurd hT hT0))
  obtain ⟨v', f1, f2, f3⟩ := slX hS hE lo hi mx (hb hT0)
  refine opv hG rfl hn ?_ (h v' (fun _ => ⟨f1, f2⟩))
  intro hT a ha
  exact f3 w a (d := d) (ty := ty) (ps := ps) (af := af) (gu := gu) ha (pre_T hpx hT) hT hx h1 h2 h3 e1 e2 e3 h23
theorem map_drop_take {l : List Int} {lo m : Nat} : ((l.map u8).drop (lo * 1)).take (m * 1) = ((l.drop lo).take m).map u8 := by
  simp [List.map_drop, List.map_take]
theorem BS.cap {N : List Nat} {v : Value} {bs : List Int} (h : BS N w v bs) : bs.length ≤ capV v := by
  obtain ⟨_, _, A, cap, rfl, h1, _⟩ := h; exact h1
theorem Sl.cap {N : List Nat} {v : Value} {sz m : Nat} {cs : List Value} (h : Sl N w sz v m cs) : m ≤ capV v := by
  obtain ⟨_, A, cap, rfl, h1, _⟩ := h; exact h1
/-! ### append -/
theorem append_run {T E : TypeId} {sz by_ : Nat} {zc : List Value} (hE : ElT P T E sz by_ zc) {v : Value} {m : Nat} {xs : List Value} (hown : w.ownsRow 0 E sz v m xs)
    {q : Value} {mm : Nat} {ys : List Value} (hq : Sl [] w sz q mm ys) (h1 : ∀ e ∈ ys, e.oneCell' = true) (hroom : (m + mm) * by_ ≤ 140737488355328) (hmax : m + mm ≤ maxLen) (ty : TypeId) :
    ∃ v' w', (Builtin.append_ #[T, T] ty #[v, q]).run P w = .ok v' w' ∧ w'.ownsRow 0 E sz v' (m + mm) (xs ++ ys) ∧ w.grownBy w' v.ownBlock ∧ (∀ i, v'.ownBlock = some i → v.ownBlock = some i ∨ w.heap.size ≤ i) := by
  obtain ⟨i, z, g1, g2, g3, g4, g5⟩ := hE.get
  obtain ⟨hlen, A, cap, rfl, hc, hA, hR⟩ := hq
  cases A with
  | none =>
    have hc0 := hA rfl
    have hmm : mm = 0 := by omega
    subst hmm; subst hc0
    have hys : ys = [] := List.eq_nil_of_length_eq_zero (by simpa using hlen)
    subst hys
    have hr := run_append_owned_none (P := P) (w := w) 0 T ty E i sz hE.u g1 v m xs hown
    exact ⟨v, w, hr, by simpa using hown, ⟨rfl, rfl, rfl, Nat.le_refl _, fun _ _ _ => rfl⟩, fun i hi => .inl hi⟩
  | some a =>
    have hzs : z.cells.size = sz := by rw [← hE.l, ← g5]; simp
    obtain ⟨v', w', q1, q2, q3, q4⟩ := run_append_own (P := P) w 0 T ty E i z sz by_ hE.u g1 g4 g2 g3 hzs hE.p v m xs hown a mm cap ys hlen hR.cells h1 hmax hroom (Nat.zero_le _)
    refine ⟨v', w', q1, q2, q3, ?_⟩
    intro j hj
    -- which block it is: by the three ways of an append
    subst g2; subst g3
    rcases hown.2 with ⟨rfl, rfl⟩ | ⟨g, cap', cur, rfl, _, hg, hnc, hcm, hcs, htake⟩
    · by_cases hm : mm = 0
      · subst hm
        have hn : ys = [] := List.eq_nil_of_length_eq_zero (by simpa using hlen)
        subst hn
        have hv := q4.2 ⟨rfl, rfl⟩
        subst hv
        simp [Value.ownBlock] at hj
      · have hr := run_append_nil (P := P) w T ty E i z hE.u g1 g4 a mm cap ys hlen hR.cells (by omega) (by simp only [maxLen] at hmax; omega) (by simp only [Nat.zero_add] at hroom; omega)
        rw [hr] at q1
        simp only [Result.ok.injEq] at q1
        rw [← q1.1] at hj
        simp only [Value.ownBlock, Option.some.injEq] at hj
        exact .inr (by omega)
    · by_cases hroom' : m + mm ≤ cap'
      · have hfit : m * i.size + ys.length ≤ cur.size := by rw [hlen, hcs, ← Nat.add_mul]; exact Nat.mul_le_mul_right _ hroom'
        have hr := run_append_room (P := P) w T ty E i hE.u g1 g m cap' cur hg a mm cap ys hlen hR.cells h1 hroom' hfit
        rw [hr] at q1
        simp only [Result.ok.injEq] at q1
        rw [← q1.1] at hj
        exact .inl hj
      · have holds : ∀ j u, xs[j]? = some u → w.cell? ((⟨g, 0, none⟩ : Addr).add j) = some u := hown.cells (g := g) rfl
        have hr := run_append_grow (P := P) w T ty E i z hE.u g1 g4 ⟨g, 0, none⟩ m cap' xs hown.1 holds a mm cap ys hlen hR.cells (by omega) (by simp only [maxLen] at hmax; omega) (growslice_fits (by omega) hroom)
        rw [hr] at q1
        simp only [Result.ok.injEq] at q1
        rw [← q1.1] at hj
        simp only [Value.ownBlock, Option.some.injEq] at hj
        exact .inr (by omega)
theorem ids_ownBlock (v : Value) (T : TypeId) (sz m : Nat) (xs : List Value) (i : Nat) : i ∈ (Own.row v T sz m xs).ids ↔ v.ownBlock = some i := by
  cases v <;> first | (simp [Own.ids, Value.ownBlock]; done) | (rename_i a _ _; cases a <;> simp [Own.ids, Value.ownBlock, eq_comm])
/-- append to a slice of one's own -/
theorem ap {T E : TypeId} {sz by_ m mm i : Nat} {zc : List Value} {v q : Value} {xs ys : List Value} {L' : Value → List Own} (hx : ev l x = some ([], v)) (hy : ev l y = some ([], q)) (hE : ElT P T E sz by_ zc)
    (hq : Sl [] w sz q mm ys) (h1 : ∀ e ∈ ys, e.oneCell' = true) (S : St N0 w0 L w) (hk : getN L i = some (.row v E sz m xs)) (hn : Nat.blt d n = true)
    (hL : ∀ v', setN L i (.row v' E sz (m + mm) (xs ++ ys)) = some (L' v')) (hroom : (m + mm) * by_ ≤ 140737488355328) (hmax : m + mm ≤ maxLen)
    (h : ∀ v' w', St N0 w0 (L' v') w' → w.heap.size ≤ w'.heap.size → Ro P R ds n ops ((d, [], v') :: l) os k w') :
    Ro P R ds n ops l ({ dst := some d, op := .call { callee := .builtin .append, args := #[x, y], argTypes := #[T, T] }, type := ty, pos := ps, after := af, guard := none } :: os) k w := by
  obtain ⟨v', w', hr, ho, hg, hb⟩ := append_run (P := P) hE (S.rowI hk) hq h1 hroom hmax ty
  obtain ⟨A, B, e1, e2⟩ := setN_get (hL v') hk
  subst e1
  refine opw (w' := w') rfl rfl hn ?_ (h v' w' ?_ hg.size)
  · intro a ha
    simp [execOp, resolve, invoke, builtin, ha.eval hx trivial, ha.eval hy trivial, hr]
  · rw [e2]
    refine S.turn hg.os hg.tape hg.output hg.size ?_ ho ?_
    · intro j hj hj'
      refine hg.block j hj ?_
      intro e
      exact hj' ((ids_ownBlock v E sz m xs j).2 e.symm)
    · intro j hj
      rcases hb j ((ids_ownBlock v' E sz (m + mm) (xs ++ ys) j).1 hj) with h | h
      · exact .inl ((ids_ownBlock v E sz m xs j).2 h)
      · exact .inr h
theorem St.nilRow (S : St N0 w0 L w) (T : TypeId) (sz : Nat) : St N0 w0 (.row (.slice none 0 0) T sz 0 [] :: L) w :=
  S.new (Bl.refl w) (World.ownsRow_nil w 0 T sz) (by simp [Own.ids]) (by simp [Own.ids])
/-! ### new slices -/
theorem St.newRow {T : TypeId} {sz m : Nat} {xs : List Value} (S : St N0 w0 L w) (hl : xs.length = m * sz) (hm : m ≤ maxLen) :
    St N0 w0 (.row (.slice (some ⟨w.heap.size, 0, none⟩) m m) T sz m xs :: L) (w.alloc (.cells xs.toArray T)) := by
  refine S.new (bl_alloc w _) ⟨hl, .inr ⟨w.heap.size, m, xs.toArray, rfl, Nat.zero_le _, heap_alloc_new w _, Nat.le_refl _, hm, by simpa using hl, ?_⟩⟩ (by simp [Own.ids]) (by simp [Own.ids])
  simp [← hl]
/-- parts laid into cells -/
def fillN : List Value → List (Nat × List Value) → Option (List Value)
  | c, [] => some c
  | c, (off, vs) :: r => match putN c off vs with
    | some c' => fillN c' r
    | none => none
theorem foldl_put (vs : List Value) : ∀ (i j : Nat) (c : Array Value), i + j + vs.length ≤ c.size →
    (vs.zipIdx j).foldl (fun cs p => cs.setIfInBounds (i + p.2) p.1) c = (c.toList.take (i + j) ++ vs ++ c.toList.drop (i + j + vs.length)).toArray := by
  induction vs with
  | nil => intro i j c h; simp
  | cons v r ih =>
    intro i j c h
    simp only [List.zipIdx_cons, List.foldl_cons]
    rw [ih i (j + 1) _ (by simp only [List.length_cons] at h; simp; omega)]
    apply Array.ext'
    simp only [List.length_cons] at h
    simp only [Array.toList_setIfInBounds]
    rw [List.take_set, List.drop_set_of_lt (by omega)]
    have hlt : i + j < c.toList.length := by simp; omega
    have e1 : i + (j + 1) = (i + j) + 1 := by omega
    rw [e1, List.take_succ_eq_append_getElem hlt, List.set_append_right _ _ (by rw [List.length_take]; omega)]
    have e2 : i + j - (List.take (i + j) c.toList).length = 0 := by
      rw [List.length_take, Nat.min_eq_left (by omega)]; omega
    rw [e2]
    simp [Nat.add_assoc, Nat.add_comm, Nat.add_left_comm]
theorem zip_foldl (vs : Array Value) (off : Nat) (c : Array Value) : vs.zipIdx.foldl (fun cs (c, j) => cs.setIfInBounds (off + j) c) c = (vs.toList.zipIdx 0).foldl (fun cs p => cs.setIfInBounds (off + p.2) p.1) c := by
  rw [← Array.foldl_toList, Array.toList_zipIdx]
/-- the parts as Go's model lays them -/
theorem fill_run {place : Nat → Option (Nat × Nat)} : ∀ (ps : List (Nat × Value)) (qs : List (Nat × List Value)) (c c' : List Value),
    (ps.length = qs.length ∧ ∀ (i : Nat) (p : Nat × Value) (q : Nat × List Value), ps[i]? = some p → qs[i]? = some q → place p.1 = some (q.1, q.2.length) ∧ p.2.cells.toList = q.2 ∧ q.2 ≠ []) → fillN c qs = some c' → Instr.fill place c.toArray ps = some c'.toArray
  | [], [], c, c', _, h => by simp only [fillN, Option.some.injEq] at h; subst h; rfl
  | [], _ :: _, _, _, h, _ => by simp at h
  | _ :: _, [], _, _, h, _ => by simp at h
  | (i, v) :: ps, (off, vs) :: qs, c, c', hp, h => by
    obtain ⟨hl, hp⟩ := hp
    obtain ⟨h1, h2, h3⟩ := hp 0 _ _ rfl rfl
    simp only at h1 h2 h3
    simp only [fillN] at h
    cases hc : putN c off vs with
    | none => rw [hc] at h; cases h
    | some c1 =>
      rw [hc] at h
      obtain ⟨h4, h5⟩ := putN_spec _ _ _ _ hc h3
      have ih := fill_run ps qs c1 c' ⟨by simpa using hl, fun j p q hj hq => hp (j + 1) p q (by simpa using hj) (by simpa using hq)⟩ h
      have hsz : v.cells.size = vs.length := by rw [← h2]; simp
      unfold Instr.fill
      simp only [h1, hsz]
      rw [if_neg (by simp; omega), zip_foldl, h2, foldl_put vs off 0 c.toArray (by simp; omega)]
      simp only [Nat.add_zero]
      rw [← h5]
      exact ih
/-- the parts' values: each a cell or a struct's cells -/
def Pts (l : Env) (G : Gs) (place : Nat → Option (Nat × Nat)) : List (Nat × Operand) → List (Nat × List Value) → Prop
  | [], [] => True
  | (i, x) :: r, (off, vs) :: q => (∃ g e v, ev l x = some (g, v) ∧ G = g ++ e ∧ v.cells.toList = vs ∧ place i = some (off, vs.length) ∧ vs ≠ []) ∧ Pts l G place r q
  | _, _ => False
theorem Pts.get {a : Act} (ha : En ds n l a) (hT : allT G) {place : Nat → Option (Nat × Nat)} : ∀ {r : List (Nat × Operand)} {q : List (Nat × List Value)}, Pts l G place r q →
    (r.map fun p => (p.1, a.eval p.2)).length = q.length ∧ ∀ (i : Nat) (p : Nat × Value) (s : Nat × List Value), (r.map fun p => (p.1, a.eval p.2))[i]? = some p → q[i]? = some s → place p.1 = some (s.1, s.2.length) ∧ p.2.cells.toList = s.2 ∧ s.2 ≠ []
  | [], [], _ => ⟨rfl, fun i p s h => by simp at h⟩
  | [], _ :: _, h => h.elim
  | _ :: _, [], h => h.elim
  | (j, x) :: r, (off, vs) :: q, ⟨⟨g, e, v, h1, h2, h3, h4, h5⟩, h⟩ => by
    obtain ⟨i1, i2⟩ := Pts.get ha hT h
    refine ⟨by simpa using i1, ?_⟩
    intro i p s hi hs
    cases i with
    | zero =>
      simp only [List.map_cons, List.getElem?_cons_zero, Option.some.injEq] at hi hs
      subst hi; subst hs
      refine ⟨h4, ?_, h5⟩
      simp only [ha.eval h1 (pre_T h2 hT)]; exact h3
    | succ i => exact i2 i p s (by simpa using hi) (by simpa using hs)
/-- a struct type: its zero, where its fields lie -/
structure BldT (P : Program) (T : TypeId) (places : List (Nat × Nat)) (zc : List Value) : Prop where
  z : ∀ w, (zeroValue T).run P w = .ok (.agg zc.toArray) w
  p : ∀ w, (do let u ← underlying T; match u with | .struct fields => fields.mapM fun f => do pure (f.offset, ← sizeOf f.type) | _ => stuck "" : Sem (Array (Nat × Nat))).run P w = .ok places.toArray w
  s : ∃ fs, P.underlying T = some (.struct fs)
theorem bld {T : TypeId} {places : List (Nat × Nat)} {zc c : List Value} {parts : List (Nat × Operand)} {qs : List (Nat × List Value)} (hT : BldT P T places zc)
    (hp : Pts l G (getN places) parts qs) (hf : fillN zc qs = some c) (hG : gd ops l gu = some G) (hn : Nat.blt d n = true)
    (h : Ro P R ds n ops ((d, G, .agg c.toArray) :: l) os k w) :
    Ro P R ds n ops l ({ dst := some d, op := .build T parts.toArray, type := ty, pos := ps, after := af, guard := gu } :: os) k w := by
  refine opv hG rfl hn ?_ h
  intro hT' a ha
  obtain ⟨fs, hu⟩ := hT.s
  have hpl := hT.p w
  simp only [Sem.run_bind, run_underlying hu, Result.andThen_ok] at hpl
  have hfr := fill_run _ qs zc c (Pts.get ha hT' hp) hf
  have hpe : (fun i => places.toArray[i]?) = getN places := by funext i; rw [getN_eq]; simp
  simp only [execOp, Instr.build, Sem.run_bind, hT.z w, Result.andThen_ok, run_underlying hu, Value.cells]
  rw [hpl]
  simp only [Result.andThen_ok]
  have e : (parts.toArray.map fun x => (x.1, a.eval x.2)).toList = parts.map fun p => (p.1, a.eval p.2) := by simp
  rw [e, hpe, hfr]
  rfl
theorem flat_rep (zc : List Value) : ∀ (m i : Nat), i < m * zc.length → (List.replicate m zc).flatten[i]? = zc[i % zc.length]? := by
  intro m
  induction m with
  | zero => intro i h; omega
  | succ m ih =>
    intro i h
    simp only [List.replicate_succ, List.flatten_cons]
    rcases Nat.lt_or_ge i zc.length with hi | hi
    · rw [List.getElem?_append_left hi, Nat.mod_eq_of_lt hi]
    · rw [List.getElem?_append_right hi, ih _ (by rw [Nat.add_mul] at h; omega), Nat.mod_eq_sub_mod hi]
theorem range_rep (zc : List Value) (hz : 0 < zc.length) (m : Nat) : (Array.range (m * zc.length)).map (fun i => zc.toArray[i % zc.length]!) = ((List.replicate m zc).flatten).toArray := by
  apply Array.ext'
  apply List.ext_getElem?
  intro i
  rw [Array.toList_map, List.getElem?_map]
  rcases Nat.lt_or_ge i (m * zc.length) with h | h
  · have hm := Nat.mod_lt i hz
    rw [flat_rep zc m i h]
    simp [h, hm]
  · rw [List.getElem?_eq_none (by simpa using h)]
    simp [h]
/-- a new slice of given elements, one cell each or a struct's cells -/
theorem bsl {T E : TypeId} {sz by_ len : Nat} {zc c : List Value} {parts : List (Nat × Operand)} {qs : List (Nat × List Value)} (hE : ElT P T E sz by_ zc)
    (hp : Pts l [] (fun i => some (i * sz, sz)) parts qs) (hlen : Nat.ble (len * sz) 16777216 = true)
    (hf : fillN (List.replicate len zc).flatten qs = some c) (hcl : c.length = len * sz) (hn : Nat.blt d n = true) (S : St N0 w0 L w)
    (h : ∀ v w', St N0 w0 (.row v E sz len c :: L) w' → Bl w w' → Ro P R ds n ops ((d, [], v) :: l) os k w') :
    Ro P R ds n ops l ({ dst := some d, op := .buildSlice T len parts.toArray, type := ty, pos := ps, after := af, guard := none } :: os) k w := by
  have hlen' : len * sz ≤ 16777216 := Nat.le_of_ble_eq_true hlen
  have hzl : ((List.replicate len zc).flatten).length = len * sz := by simp [hE.l]
  have hz : (Array.range (len * sz)).map (fun i => zc.toArray[i % zc.length]!) = ((List.replicate len zc).flatten).toArray := by
    have := range_rep zc (by rw [hE.l]; exact hE.p) len
    rwa [hE.l] at this ⊢
  generalize (List.replicate len zc).flatten = zs at hf hzl hz
  have hlm : len ≤ maxLen := by
    have : len * 1 ≤ len * sz := Nat.mul_le_mul_left _ hE.p
    simp only [maxLen]; omega
  obtain ⟨i, z, g1, g2, g3, g4, g5⟩ := hE.get
  refine opw (w' := w.alloc (.cells c.toArray E)) rfl rfl hn ?_ (h _ _ (S.newRow hcl hlm) (bl_alloc w _))
  intro a ha
  have hfr := fill_run _ qs zs c (Pts.get ha (show allT [] from trivial) hp) hf
  have e : (parts.toArray.map fun x => (x.1, a.eval x.2)).toList = parts.map fun p => (p.1, a.eval p.2) := by simp
  have hzc : z.cells = zc.toArray := by rw [← g5]
  have hbig : ¬ (16777216 < len * sz) := by omega
  simp only [execOp, Instr.buildSlice, Sem.run_bind, run_underlying hE.u, Result.andThen_ok, sizeOf, typeInfo, run_program, g1, Sem.run_pure, g2]
  by_cases h0 : len * sz = 0
  · have hzs : zs = [] := List.eq_nil_of_length_eq_zero (by omega)
    subst hzs
    simp [h0, newRow, Array.range_zero'] at *
    rw [hfr]
    simp
  · simp only [hbig, h0, if_false, Sem.run_ite, zeroValue, typeInfo, Sem.run_bind, run_program, Result.andThen_ok, g1, g4, Sem.run_pure, hzc]
    have e2 : (Array.range (len * sz)).map (fun x => zc.toArray[x % zc.toArray.size]!) = zs.toArray := by rw [← hz]; simp
    simp only [gt_iff_lt, Nat.reducePow, hbig, if_false, Sem.run_pure, Result.andThen_ok, e2]
    rw [e, hfr]
    simp [newRow]
end op
end Go.Proofs.YtkahmepenjhcpaaDoor.W
/- The base of this seat's proofs, sixth part: making, copying, texts, arrays, results that lie in memory. No statement of the seat is proved here. -/
namespace Go.Proofs.YtkahmepenjhcpaaDoor.W
open Go
set_option linter.unusedVariables false
set_option linter.unusedSimpArgs false
section op
variable {P : Program} {R : Qp} {ds : List Deferred} {n : Nat} {l : Env} {k : List KI} {w w0 : World} {ops : Array Oper} {os : List Oper}
variable {d : Nat} {G gx gy ex ey : Gs} {ty : TypeId} {ps : String} {af : Array Edge} {gu : Option (Nat × Bool)} {x y z : Operand} {N0 : List Nat} {L L' : List Own}
/-- make of a slice of m elements -/
theorem mk {T E : TypeId} {sz by_ : Nat} {zc xs : List Value} {k1 k2 : IntKind} {m : Nat} (hx : ev l x = some ([], .int k1 (m : Int))) (hy : ev l y = some ([], .int k2 (m : Int))) (hE : ElT P T E sz by_ zc)
    (S : St N0 w0 L w) (hn : Nat.blt d n = true) (hroom : m * by_ ≤ 281474976710656) (hmax : m ≤ maxLen)
    (hxs : (madeCells zc.toArray (m * sz)).toList = xs)
    (h : ∀ v w', St N0 w0 (.row v E sz m xs :: L) w' → Bl w w' → Ro P R ds n ops ((d, [], v) :: l) os k w') :
    Ro P R ds n ops l ({ dst := some d, op := .makeSlice T x y, type := ty, pos := ps, after := af, guard := none } :: os) k w := by
  obtain ⟨i, z, g1, g2, g3, g4, g5⟩ := hE.get
  have hby : (i.bytes : Int) * (m : Int) ≤ 281474976710656 := by
    rw [g3]
    have : ((m * by_ : Nat) : Int) = (by_ : Int) * (m : Int) := by rw [Nat.mul_comm]; simp
    omega
  have hr := run_make (P := P) w T E i z hE.u g1 g4 k1 k2 m m (by omega) (by omega) hby (by simp only [maxLen] at hmax; omega)
  have hzc : z.cells = zc.toArray := by rw [← g5]
  rw [hzc, g2] at hr
  simp only [Int.toNat_natCast] at hr
  have hxl : xs.length = m * sz := by rw [← hxs]; simp [madeCells]
  have e : madeCells zc.toArray (m * sz) = xs.toArray := by rw [← hxs]
  rw [e] at hr
  refine opw (w' := w.alloc (.cells xs.toArray E)) rfl rfl hn ?_ (h _ _ (S.newRow hxl hmax) (bl_alloc w _))
  intro a ha
  simp [execOp, ha.eval hx trivial, ha.eval hy trivial, hr]
theorem made_one (v : Value) (m : Nat) : (madeCells [v].toArray (m * 1)).toList = List.replicate m v := by
  apply List.ext_getElem
  · simp [madeCells]
  · intro i h1 h2
    simp [madeCells, Nat.mod_one]
/-- an array's cells, cut from their begin -/
theorem slA {T E : TypeId} {m hi b off : Nat} {o2 : Option Operand} {i2 : Option Nat} {ei : TypeInfo} (hx : ev l x = some (gx, .pointer (some ⟨b, off, none⟩))) (hu : P.underlying T = some (.array m E)) (hi' : P.info? E = some ei)
    (hG : gd ops l gu = some G) (hpx : G = gx ++ ex) (hn : Nat.blt d n = true) (h2 : bnd l G o2 i2) (e2 : i2.getD m = hi) (hb : Nat.ble hi m = true) (h0 : m ≠ 0)
    (h : Ro P R ds n ops ((d, G, .slice (some ⟨b, off, none⟩) hi m) :: l) os k w) :
    Ro P R ds n ops l ({ dst := some d, op := .slice T x none o2 none, type := ty, pos := ps, after := af, guard := gu } :: os) k w := by
  have hb' : hi ≤ m := Nat.le_of_ble_eq_true hb
  refine opv hG rfl hn ?_ h
  intro hT a ha
  obtain ⟨k2, q2⟩ := bnd_eval ha hT h2
  simp only [execOp, ha.eval hx (pre_T hpx hT), Option.map_none, q2]
  cases i2 with
  | none =>
    simp only [Option.getD_none] at e2; subst e2
    simp [Instr.sliceAt, run_underlying hu, Instr.sureAddr, Instr.sliceBounds, sizeOf, typeInfo, hi', h0, add_new]
  | some i2 =>
    simp only [Option.getD_some] at e2; subst e2
    simp [Instr.sliceAt, run_underlying hu, Instr.sureAddr, Instr.sliceBounds, sizeOf, typeInfo, hi', h0, sb_run (P := P) hb', add_new]
/-- a part of a variable, read as a slice -/
theorem St.varSl {b off i sz m cap : Nat} {T : TypeId} {c cs : List Value} (S : St N0 w0 L w) (hk : getN L i = some (.var b T c)) (hc : subN c off (m * sz) = some cs) (hl : cs.length = m * sz) (hm : m ≤ cap) :
    Sl [] w sz (.slice (some ⟨b, off, none⟩) m cap) m cs := by
  refine ⟨hl, some ⟨b, off, none⟩, cap, rfl, hm, (fun e => absurd e (by simp)), ?_⟩
  intro j hj
  refine ⟨_, rfl, rfl, by simp, ?_⟩
  have := cellsLoad (S.var hk) (by rw [hl]; exact hc) (by omega) j cs[j] (List.getElem?_eq_getElem hj)
  rw [add_new] at this
  exact this
/-- copy into a variable's cells -/
theorem cpV {T T2 E : TypeId} {by_ : Nat} {zc : List Value} {b off dl dc i : Nat} {T' : TypeId} {c c' ys : List Value} {q : Value} (hx : ev l x = some ([], .slice (some ⟨b, off, none⟩) dl dc)) (hy : ev l y = some ([], q)) (hE : ElT P T E 1 by_ zc)
    (hq : Sl [] w 1 q dl ys) (h1 : ∀ e ∈ ys, e.oneCell' = true) (h0 : dl ≠ 0) (S : St N0 w0 L w) (hk : getN L i = some (.var b T' c)) (hc : putN c off ys = some c') (hL : setN L i (.var b T' c') = some L') (hn : Nat.blt d n = true)
    (h : ∀ w', St N0 w0 L' w' → Ro P R ds n ops ((d, [], .int .i64 dl) :: l) os k w') :
    Ro P R ds n ops l ({ dst := some d, op := .call { callee := .builtin .copy, args := #[x, y], argTypes := #[T, T2] }, type := ty, pos := ps, after := af, guard := none } :: os) k w := by
  obtain ⟨hlen, A, cap, rfl, hcap, hA, hR⟩ := hq
  obtain ⟨a, rfl⟩ : ∃ a, A = some a := by
    obtain ⟨a, ha, _⟩ := hR 0 (by omega); exact ⟨a, ha⟩
  have hne : ys ≠ [] := by intro e; subst e; simp at hlen; omega
  obtain ⟨h2, h3⟩ := putN_spec _ _ _ _ hc hne
  have hi : (P.info? E).map (·.size) = some 1 := by
    obtain ⟨i, z, g1, g2, _⟩ := hE.get
    simp [g1, g2]
  have hl1 : ys.length = dl := by omega
  have hr := run_copy_row (P := P) w T T2 ty E b off dl dc a dl cap c.toArray T' ys hE.u hi (S.var hk) (by simp [hl1, Nat.min_def]) hR.cells (by simpa using h2) h1
  refine opw (w' := w.setRow b c'.toArray) rfl rfl hn ?_ (h _ (S.put hk hL))
  intro A ha
  have : (Builtin.copy_ #[T, T2] ty #[.slice (some ⟨b, off, none⟩) dl dc, .slice (some a) dl cap]).run P w = .ok (.int .i64 dl) (w.setRow b c'.toArray) := by
    rw [hr, h3, hl1]; simp [goInt]
  simp [execOp, resolve, invoke, builtin, ha.eval hx trivial, ha.eval hy trivial, this]
/-! ### texts -/
def strB (bs : List Int) : ByteArray := bs.foldl (fun r n => r.push (UInt8.ofNat n.toNat)) ByteArray.empty
theorem strB_toList (bs : List Int) : (strB bs).toList = bs.map fun n => UInt8.ofNat n.toNat := by
  have key : ∀ (bs : List Int) (s : ByteArray), (bs.foldl (fun r n => r.push (UInt8.ofNat n.toNat)) s).toList = s.toList ++ bs.map fun n => UInt8.ofNat n.toNat := by
    intro bs
    induction bs with
    | nil => intro s; simp
    | cons b r ih =>
      intro s
      simp only [List.foldl_cons, ih, List.map_cons]
      have : (s.push (UInt8.ofNat b.toNat)).toList = s.toList ++ [UInt8.ofNat b.toNat] := by
        rw [ByteArray.toList_eq, ByteArray.toList_eq]
        simp [ByteArray.push]
      rw [this]; simp
  have := key bs ByteArray.empty
  simpa [strB] using this
theorem strB_inj {a b : List Int} (ha : byt a) (hb : byt b) : (strB a).toList = (strB b).toList ↔ a = b := by
  rw [strB_toList, strB_toList]
  constructor
  · intro h
    induction a generalizing b with
    | nil => cases b with
      | nil => rfl
      | cons y s => simp at h
    | cons x r ih => cases b with
      | nil => simp at h
      | cons y s =>
        simp only [List.map_cons, List.cons.injEq] at h
        have hx := ha x (by simp)
        have hy := hb y (by simp)
        have he : x = y := by
          have := congrArg UInt8.toNat h.1
          simp only [UInt8.toNat_ofNat'] at this
          omega
        subst he
        rw [ih (fun z hz => ha z (by simp [hz])) (fun z hz => hb z (by simp [hz])) h.2]
  · rintro rfl; rfl
/-- bytes as a text -/
theorem cvS {src dst E : TypeId} {by_ : Nat} {zc : List Value} {v : Value} {bs : List Int} (hx : ev l x = some (gx, v)) (hB : BS N0 w0 v bs) (S : St N0 w0 L w) (hE : ElT P src E 1 by_ zc) (hu8 : P.underlying E = some (.int .u8)) (hd : P.underlying dst = some .string)
    (hG : gd ops l gu = some G) (hpx : G = gx ++ ex) (hn : Nat.blt d n = true) (h : Ro P R ds n ops ((d, G, .string (strB bs)) :: l) os k w) :
    Ro P R ds n ops l ({ dst := some d, op := .convert src dst x, type := ty, pos := ps, after := af, guard := gu } :: os) k w := by
  refine opv hG rfl hn ?_ h
  intro hT a ha
  have hB' := hB.now S
  obtain ⟨hlen, A, cap, rfl, hcap, hA, hR⟩ := hB'.2
  simp only [execOp, ha.eval hx (pre_T hpx hT), Sem.run_bind]
  rw [run_convert_bytes_string w src dst E A _ _ hE.u hu8 hd]
  cases A with
  | none =>
    have hc := hA rfl
    have : bs = [] := List.eq_nil_of_length_eq_zero (by omega)
    subst this
    simp [Conv.bytesToString, strB]
  | some a =>
    have hl := run_loadCells_list (P := P) (w := w) a (bs.map u8) hR.cells
    rw [List.length_map] at hl
    rw [run_bytesToString w a bs.length cap bs (by rw [hl])]
    rfl
theorem eqS {t yt : TypeId} {a b : List Int} (hx : ev l x = some (gx, .string (strB a))) (hy : ev l y = some (gy, .string (strB b))) (ha : byt a) (hb : byt b) (hG : gd ops l gu = some G) (hpx : G = gx ++ ex) (hpy : G = gy ++ ey) (hn : Nat.blt d n = true)
    (h : Ro P R ds n ops ((d, G, .bool (decide (a = b))) :: l) os k w) :
    Ro P R ds n ops l ({ dst := some d, op := .binOp .eql t x y yt, type := ty, pos := ps, after := af, guard := gu } :: os) k w :=
  bin hx hy hG hpx hpy hn (fun _ => by
    have h2 : eqGuard .eql t x y (.string (strB a)) (.string (strB b)) = pure () := by unfold eqGuard; rfl
    rw [h2]
    have h3 : ((strB a).toList == (strB b).toList) = decide (a = b) := by
      rw [Bool.eq_iff_iff]; simp [strB_inj ha hb]
    simp [binOp, Op.stringOp, h3]) h
/-! ### truth values compared -/
theorem eqB {t yt : TypeId} {a b : Bool} (hx : ev l x = some (gx, .bool a)) (hy : ev l y = some (gy, .bool b)) (ht : P.underlying t = some .bool) (hG : gd ops l gu = some G) (hpx : G = gx ++ ex) (hpy : G = gy ++ ey) (hn : Nat.blt d n = true)
    (h : Ro P R ds n ops ((d, G, .bool (a == b)) :: l) os k w) :
    Ro P R ds n ops l ({ dst := some d, op := .binOp .eql t x y yt, type := ty, pos := ps, after := af, guard := gu } :: os) k w :=
  bin hx hy hG hpx hpy hn (fun _ => by
    have h2 : eqGuard .eql t x y (.bool a) (.bool b) = pure () := by unfold eqGuard; rfl
    rw [h2]
    simp [binOp, run_equal_bool w t a b ht]) h
theorem neB {t yt : TypeId} {a b : Bool} (hx : ev l x = some (gx, .bool a)) (hy : ev l y = some (gy, .bool b)) (ht : P.underlying t = some .bool) (hG : gd ops l gu = some G) (hpx : G = gx ++ ex) (hpy : G = gy ++ ey) (hn : Nat.blt d n = true)
    (h : Ro P R ds n ops ((d, G, .bool (!(a == b))) :: l) os k w) :
    Ro P R ds n ops l ({ dst := some d, op := .binOp .neq t x y yt, type := ty, pos := ps, after := af, guard := gu } :: os) k w :=
  bin hx hy hG hpx hpy hn (fun _ => by
    have h2 : eqGuard .neq t x y (.bool a) (.bool b) = pure () := by unfold eqGuard; rfl
    rw [h2]
    simp [binOp, run_equal_bool w t a b ht]) h
/-! ### results that lie in memory -/
theorem loadVarRun {T : TypeId} {sz b i : Nat} {T' : TypeId} {c zc : List Value} (hT : TyI P T sz true zc) (S : St N0 w0 L w) (hk : getN L i = some (.var b T' c)) (hl : c.length = sz) :
    (loadVar T ⟨b, 0, none⟩).run P w = .ok (.agg c.toArray) w := by
  obtain ⟨i, z, dd, h1, h2, h3, h4, h5, h6⟩ := hT.get
  subst hl
  have hl := run_loadCells_list (P := P) (w := w) ⟨b, 0, none⟩ c (fun j v hj => by
    rw [add_new, cell_of_row w b (0 + j) _ _ _ (S.var hk), ← hj]; simp)
  simp only [loadVar, isAgg]
  cases dd <;> simp [aggD] at h6 <;> simp [run_underlying h5, sizeOf, typeInfo, h1, h2, hl]
theorem Rt.cell2 {fn : Func} {Rr : Value → World → Prop} {t u : Nat} {v : Value} {T : TypeId} {sz b i : Nat} {T' : TypeId} {c zc : List Value} (hr : fn.results = #[.cell t T, .tmp u]) (ht : lk l t = some ([], .pointer (some ⟨b, 0, none⟩))) (hu : lk l u = some ([], v))
    (hT : TyI P T sz true zc) (S : St N0 w0 L w) (hk : getN L i = some (.var b T' c)) (hl : c.length = sz) (h : Rr (.tuple #[.agg c.toArray, v]) w) :
    Rt P (bodyPost P fn (RV Rr)) [] n l k w :=
  Rt.top (R := bodyPost P fn (RV Rr)) (fun a ha => show bodyPost P fn (RV Rr) .ret a w from bodyPost_ret (v := .tuple #[.agg c.toArray, v]) (by
    have h1 := ha.getD ht
    have h2 := ha.getD hu
    simp only [Array.getD_eq_getD_getElem?] at h1 h2
    simp [results, hr, h1, h2, asAddr, loadVarRun hT S hk hl]) ha.defers h) k
theorem Rt.cell1 {fn : Func} {Rr : Value → World → Prop} {t : Nat} {T : TypeId} {sz b i : Nat} {T' : TypeId} {c zc : List Value} (hr : fn.results = #[.cell t T]) (ht : lk l t = some ([], .pointer (some ⟨b, 0, none⟩)))
    (hT : TyI P T sz true zc) (S : St N0 w0 L w) (hk : getN L i = some (.var b T' c)) (hl : c.length = sz) (h : Rr (.agg c.toArray) w) :
    Rt P (bodyPost P fn (RV Rr)) [] n l k w :=
  Rt.top (R := bodyPost P fn (RV Rr)) (fun a ha => show bodyPost P fn (RV Rr) .ret a w from bodyPost_ret (v := .agg c.toArray) (by
    have h1 := ha.getD ht
    simp only [Array.getD_eq_getD_getElem?] at h1
    simp [results, hr, h1, asAddr, loadVarRun hT S hk hl]) ha.defers h) k
end op
end Go.Proofs.YtkahmepenjhcpaaDoor.W
/- Closed facts on the program of this seat: each function has a body; sizes, zeros, places. No statement of the seat is proved here. -/
namespace Go.Proofs.YtkahmepenjhcpaaDoor.W
open Go
theorem k28 : Callable Tryd.prog 28 := ⟨⟨_, Tryd.func28, by kernel_rfl, rfl⟩⟩
theorem k30 : Callable Tryd.prog 30 := ⟨⟨_, Tryd.func30, by kernel_rfl, rfl⟩⟩
theorem k31 : Callable Tryd.prog 31 := ⟨⟨_, Tryd.func31, by kernel_rfl, rfl⟩⟩
theorem k32 : Callable Tryd.prog 32 := ⟨⟨_, Tryd.func32, by kernel_rfl, rfl⟩⟩
theorem k33 : Callable Tryd.prog 33 := ⟨⟨_, Tryd.func33, by kernel_rfl, rfl⟩⟩
theorem k34 : Callable Tryd.prog 34 := ⟨⟨_, Tryd.func34, by kernel_rfl, rfl⟩⟩
theorem k35 : Callable Tryd.prog 35 := ⟨⟨_, Tryd.func35, by kernel_rfl, rfl⟩⟩
theorem k36 : Callable Tryd.prog 36 := ⟨⟨_, Tryd.func36, by kernel_rfl, rfl⟩⟩
theorem k37 : Callable Tryd.prog 37 := ⟨⟨_, Tryd.func37, by kernel_rfl, rfl⟩⟩
theorem k38 : Callable Tryd.prog 38 := ⟨⟨_, Tryd.func38, by kernel_rfl, rfl⟩⟩
theorem k39 : Callable Tryd.prog 39 := ⟨⟨_, Tryd.func39, by kernel_rfl, rfl⟩⟩
theorem k40 : Callable Tryd.prog 40 := ⟨⟨_, Tryd.func40, by kernel_rfl, rfl⟩⟩
theorem k42 : Callable Tryd.prog 42 := ⟨⟨_, Tryd.func42, by kernel_rfl, rfl⟩⟩
theorem k43 : Callable Tryd.prog 43 := ⟨⟨_, Tryd.func43, by kernel_rfl, rfl⟩⟩
theorem k44 : Callable Tryd.prog 44 := ⟨⟨_, Tryd.func44, by kernel_rfl, rfl⟩⟩
theorem k45 : Callable Tryd.prog 45 := ⟨⟨_, Tryd.func45, by kernel_rfl, rfl⟩⟩
theorem k46 : Callable Tryd.prog 46 := ⟨⟨_, Tryd.func46, by kernel_rfl, rfl⟩⟩
theorem k49 : Callable Tryd.prog 49 := ⟨⟨_, Tryd.func49, by kernel_rfl, rfl⟩⟩
theorem k54 : Callable Tryd.prog 54 := ⟨⟨_, Tryd.func54, by kernel_rfl, rfl⟩⟩
theorem k55 : Callable Tryd.prog 55 := ⟨⟨_, Tryd.func55, by kernel_rfl, rfl⟩⟩
theorem k56 : Callable Tryd.prog 56 := ⟨⟨_, Tryd.func56, by kernel_rfl, rfl⟩⟩
theorem k57 : Callable Tryd.prog 57 := ⟨⟨_, Tryd.func57, by kernel_rfl, rfl⟩⟩
theorem k58 : Callable Tryd.prog 58 := ⟨⟨_, Tryd.func58, by kernel_rfl, rfl⟩⟩
theorem k59 : Callable Tryd.prog 59 := ⟨⟨_, Tryd.func59, by kernel_rfl, rfl⟩⟩
theorem k60 : Callable Tryd.prog 60 := ⟨⟨_, Tryd.func60, by kernel_rfl, rfl⟩⟩
theorem k61 : Callable Tryd.prog 61 := ⟨⟨_, Tryd.func61, by kernel_rfl, rfl⟩⟩
theorem k62 : Callable Tryd.prog 62 := ⟨⟨_, Tryd.func62, by kernel_rfl, rfl⟩⟩
theorem k63 : Callable Tryd.prog 63 := ⟨⟨_, Tryd.func63, by kernel_rfl, rfl⟩⟩
theorem k64 : Callable Tryd.prog 64 := ⟨⟨_, Tryd.func64, by kernel_rfl, rfl⟩⟩
theorem k66 : Callable Tryd.prog 66 := ⟨⟨_, Tryd.func66, by kernel_rfl, rfl⟩⟩
theorem k67 : Callable Tryd.prog 67 := ⟨⟨_, Tryd.func67, by kernel_rfl, rfl⟩⟩
theorem k68 : Callable Tryd.prog 68 := ⟨⟨_, Tryd.func68, by kernel_rfl, rfl⟩⟩
theorem k69 : Callable Tryd.prog 69 := ⟨⟨_, Tryd.func69, by kernel_rfl, rfl⟩⟩
theorem k70 : Callable Tryd.prog 70 := ⟨⟨_, Tryd.func70, by kernel_rfl, rfl⟩⟩
theorem k73 : Callable Tryd.prog 73 := ⟨⟨_, Tryd.func73, by kernel_rfl, rfl⟩⟩
theorem k92 : Callable Tryd.prog 92 := ⟨⟨_, Tryd.func92, by kernel_rfl, rfl⟩⟩
theorem k94 : Callable Tryd.prog 94 := ⟨⟨_, Tryd.func94, by kernel_rfl, rfl⟩⟩
theorem k95 : Callable Tryd.prog 95 := ⟨⟨_, Tryd.func95, by kernel_rfl, rfl⟩⟩
theorem k96 : Callable Tryd.prog 96 := ⟨⟨_, Tryd.func96, by kernel_rfl, rfl⟩⟩
theorem k97 : Callable Tryd.prog 97 := ⟨⟨_, Tryd.func97, by kernel_rfl, rfl⟩⟩
theorem k98 : Callable Tryd.prog 98 := ⟨⟨_, Tryd.func98, by kernel_rfl, rfl⟩⟩
theorem k99 : Callable Tryd.prog 99 := ⟨⟨_, Tryd.func99, by kernel_rfl, rfl⟩⟩
theorem k100 : Callable Tryd.prog 100 := ⟨⟨_, Tryd.func100, by kernel_rfl, rfl⟩⟩
theorem k101 : Callable Tryd.prog 101 := ⟨⟨_, Tryd.func101, by kernel_rfl, rfl⟩⟩
theorem k102 : Callable Tryd.prog 102 := ⟨⟨_, Tryd.func102, by kernel_rfl, rfl⟩⟩
theorem k103 : Callable Tryd.prog 103 := ⟨⟨_, Tryd.func103, by kernel_rfl, rfl⟩⟩
theorem k104 : Callable Tryd.prog 104 := ⟨⟨_, Tryd.func104, by kernel_rfl, rfl⟩⟩
theorem k105 : Callable Tryd.prog 105 := ⟨⟨_, Tryd.func105, by kernel_rfl, rfl⟩⟩
theorem k106 : Callable Tryd.prog 106 := ⟨⟨_, Tryd.func106, by kernel_rfl, rfl⟩⟩
theorem k107 : Callable Tryd.prog 107 := ⟨⟨_, Tryd.func107, by kernel_rfl, rfl⟩⟩
theorem k108 : Callable Tryd.prog 108 := ⟨⟨_, Tryd.func108, by kernel_rfl, rfl⟩⟩
theorem k109 : Callable Tryd.prog 109 := ⟨⟨_, Tryd.func109, by kernel_rfl, rfl⟩⟩
theorem k111 : Callable Tryd.prog 111 := ⟨⟨_, Tryd.func111, by kernel_rfl, rfl⟩⟩
theorem k112 : Callable Tryd.prog 112 := ⟨⟨_, Tryd.func112, by kernel_rfl, rfl⟩⟩
theorem k113 : Callable Tryd.prog 113 := ⟨⟨_, Tryd.func113, by kernel_rfl, rfl⟩⟩
theorem k114 : Callable Tryd.prog 114 := ⟨⟨_, Tryd.func114, by kernel_rfl, rfl⟩⟩
theorem k115 : Callable Tryd.prog 115 := ⟨⟨_, Tryd.func115, by kernel_rfl, rfl⟩⟩
theorem k117 : Callable Tryd.prog 117 := ⟨⟨_, Tryd.func117, by kernel_rfl, rfl⟩⟩
theorem k122 : Callable Tryd.prog 122 := ⟨⟨_, Tryd.func122, by kernel_rfl, rfl⟩⟩
theorem k123 : Callable Tryd.prog 123 := ⟨⟨_, Tryd.func123, by kernel_rfl, rfl⟩⟩
theorem k124 : Callable Tryd.prog 124 := ⟨⟨_, Tryd.func124, by kernel_rfl, rfl⟩⟩
theorem k125 : Callable Tryd.prog 125 := ⟨⟨_, Tryd.func125, by kernel_rfl, rfl⟩⟩
theorem k126 : Callable Tryd.prog 126 := ⟨⟨_, Tryd.func126, by kernel_rfl, rfl⟩⟩
theorem k127 : Callable Tryd.prog 127 := ⟨⟨_, Tryd.func127, by kernel_rfl, rfl⟩⟩
theorem k128 : Callable Tryd.prog 128 := ⟨⟨_, Tryd.func128, by kernel_rfl, rfl⟩⟩
theorem k136 : Callable Tryd.prog 136 := ⟨⟨_, Tryd.func136, by kernel_rfl, rfl⟩⟩
theorem k140 : Callable Tryd.prog 140 := ⟨⟨_, Tryd.func140, by kernel_rfl, rfl⟩⟩
theorem k141 : Callable Tryd.prog 141 := ⟨⟨_, Tryd.func141, by kernel_rfl, rfl⟩⟩
theorem k142 : Callable Tryd.prog 142 := ⟨⟨_, Tryd.func142, by kernel_rfl, rfl⟩⟩
theorem k143 : Callable Tryd.prog 143 := ⟨⟨_, Tryd.func143, by kernel_rfl, rfl⟩⟩
theorem k144 : Callable Tryd.prog 144 := ⟨⟨_, Tryd.func144, by kernel_rfl, rfl⟩⟩
theorem k145 : Callable Tryd.prog 145 := ⟨⟨_, Tryd.func145, by kernel_rfl, rfl⟩⟩
theorem k146 : Callable Tryd.prog 146 := ⟨⟨_, Tryd.func146, by kernel_rfl, rfl⟩⟩
theorem k147 : Callable Tryd.prog 147 := ⟨⟨_, Tryd.func147, by kernel_rfl, rfl⟩⟩
theorem k148 : Callable Tryd.prog 148 := ⟨⟨_, Tryd.func148, by kernel_rfl, rfl⟩⟩
theorem k149 : Callable Tryd.prog 149 := ⟨⟨_, Tryd.func149, by kernel_rfl, rfl⟩⟩
theorem k150 : Callable Tryd.prog 150 := ⟨⟨_, Tryd.func150, by kernel_rfl, rfl⟩⟩
theorem k151 : Callable Tryd.prog 151 := ⟨⟨_, Tryd.func151, by kernel_rfl, rfl⟩⟩
theorem k155 : Callable Tryd.prog 155 := ⟨⟨_, Tryd.func155, by kernel_rfl, rfl⟩⟩
theorem k156 : Callable Tryd.prog 156 := ⟨⟨_, Tryd.func156, by kernel_rfl, rfl⟩⟩
theorem k157 : Callable Tryd.prog 157 := ⟨⟨_, Tryd.func157, by kernel_rfl, rfl⟩⟩
theorem T3 : TyI Tryd.prog 3 1 false [.int .i64 0] := ⟨by kernel_rfl, by kernel_rfl⟩
theorem T4 : TyI Tryd.prog 4 1 false [.bool false] := ⟨by kernel_rfl, by kernel_rfl⟩
theorem T5 : TyI Tryd.prog 5 1 false [.int .u8 0] := ⟨by kernel_rfl, by kernel_rfl⟩
theorem T22 : TyI Tryd.prog 22 16 true [.int .u8 0, .int .u8 0, .int .u8 0, .int .u8 0, .int .u8 0, .int .u8 0, .int .u8 0, .int .u8 0, .int .u8 0, .int .u8 0, .int .u8 0, .int .u8 0, .int .u8 0, .int .u8 0, .int .u8 0, .int .u8 0] := ⟨by kernel_rfl, by kernel_rfl⟩
theorem T24 : TyI Tryd.prog 24 17 true [.int .i64 0, .int .u8 0, .int .u8 0, .int .u8 0, .int .u8 0, .int .u8 0, .int .u8 0, .int .u8 0, .int .u8 0, .int .u8 0, .int .u8 0, .int .u8 0, .int .u8 0, .int .u8 0, .int .u8 0, .int .u8 0, .int .u8 0] := ⟨by kernel_rfl, by kernel_rfl⟩
theorem T25 : TyI Tryd.prog 25 1 false [.slice none 0 0] := ⟨by kernel_rfl, by kernel_rfl⟩
theorem T26 : TyI Tryd.prog 26 1 false [.slice none 0 0] := ⟨by kernel_rfl, by kernel_rfl⟩
theorem T31 : TyI Tryd.prog 31 1 false [.int .i64 0] := ⟨by kernel_rfl, by kernel_rfl⟩
theorem T132 : TyI Tryd.prog 132 1 false [.slice none 0 0] := ⟨by kernel_rfl, by kernel_rfl⟩
theorem T93 : TyI Tryd.prog 93 2 true [.int .i64 0, .slice none 0 0] := ⟨by kernel_rfl, by kernel_rfl⟩
theorem T28 : TyI Tryd.prog 28 43 true [.int .i64 0, .int .i64 0, .bool false, .bool false, .int .i64 0, .int .i64 0, .int .i64 0, .int .i64 0, .int .u8 0, .int .u8 0, .int .u8 0, .int .u8 0, .int .u8 0, .int .u8 0, .int .u8 0, .int .u8 0, .int .u8 0, .int .u8 0, .int .u8 0, .int .u8 0, .int .u8 0, .int .u8 0, .int .u8 0, .int .u8 0, .int .i64 0, .int .u8 0, .int .u8 0, .int .u8 0, .int .u8 0, .int .u8 0, .int .u8 0, .int .u8 0, .int .u8 0, .int .u8 0, .int .u8 0, .int .u8 0, .int .u8 0, .int .u8 0, .int .u8 0, .int .u8 0, .int .u8 0, .slice none 0 0, .slice none 0 0] := ⟨by kernel_rfl, by kernel_rfl⟩
theorem T73 : TyI Tryd.prog 73 4 true [.int .i64 0, .int .i64 0, .bool false, .slice none 0 0] := ⟨by kernel_rfl, by kernel_rfl⟩
theorem T82 : TyI Tryd.prog 82 9 true [.int .i64 0, .int .i64 0, .int .i64 0, .int .i64 0, .int .i64 0, .int .i64 0, .int .i64 0, .slice none 0 0, .slice none 0 0] := ⟨by kernel_rfl, by kernel_rfl⟩
theorem T130 : TyI Tryd.prog 130 12 true [.int .i64 0, .int .i64 0, .int .i64 0, .int .i64 0, .int .i64 0, .int .i64 0, .int .i64 0, .int .i64 0, .int .i64 0, .int .i64 0, .int .i64 0, .int .i64 0] := ⟨by kernel_rfl, by kernel_rfl⟩
theorem T163 : TyI Tryd.prog 163 4 true [.int .i64 0, .int .i64 0, .int .i64 0, .int .i64 0] := ⟨by kernel_rfl, by kernel_rfl⟩
theorem T166 : TyI Tryd.prog 166 10 true [.int .i64 0, .int .i64 0, .int .i64 0, .int .i64 0, .int .i64 0, .int .i64 0, .int .i64 0, .int .i64 0, .int .i64 0, .int .i64 0] := ⟨by kernel_rfl, by kernel_rfl⟩
theorem T181 : TyI Tryd.prog 181 3 true [.int .i64 0, .int .i64 0, .int .i64 0] := ⟨by kernel_rfl, by kernel_rfl⟩
theorem T182 : TyI Tryd.prog 182 1 false [.int .u64 0] := ⟨by kernel_rfl, by kernel_rfl⟩
theorem T144 : TyI Tryd.prog 144 46 true [.int .i64 0, .slice none 0 0, .int .i64 0, .int .i64 0, .bool false, .bool false, .int .i64 0, .int .i64 0, .int .i64 0, .int .i64 0, .int .u8 0, .int .u8 0, .int .u8 0, .int .u8 0, .int .u8 0, .int .u8 0, .int .u8 0, .int .u8 0, .int .u8 0, .int .u8 0, .int .u8 0, .int .u8 0, .int .u8 0, .int .u8 0, .int .u8 0, .int .u8 0, .int .i64 0, .int .u8 0, .int .u8 0, .int .u8 0, .int .u8 0, .int .u8 0, .int .u8 0, .int .u8 0, .int .u8 0, .int .u8 0, .int .u8 0, .int .u8 0, .int .u8 0, .int .u8 0, .int .u8 0, .int .u8 0, .int .u8 0, .slice none 0 0, .slice none 0 0, .slice none 0 0] := ⟨by kernel_rfl, by kernel_rfl⟩
theorem e26 : ElT Tryd.prog 26 5 1 1 [.int .u8 0] := ⟨Tryd.underlying26, by kernel_rfl, rfl, by decide⟩
theorem e132 : ElT Tryd.prog 132 3 1 8 [.int .i64 0] := ⟨Tryd.underlying132, by kernel_rfl, rfl, by decide⟩
theorem e25 : ElT Tryd.prog 25 93 2 32 [.int .i64 0, .slice none 0 0] := ⟨Tryd.underlying25, by kernel_rfl, rfl, by decide⟩
theorem e102 : ElT Tryd.prog 102 26 1 24 [.slice none 0 0] := ⟨Tryd.underlying102, by kernel_rfl, rfl, by decide⟩
theorem e43 : ElT Tryd.prog 43 144 46 200 [.int .i64 0, .slice none 0 0, .int .i64 0, .int .i64 0, .bool false, .bool false, .int .i64 0, .int .i64 0, .int .i64 0, .int .i64 0, .int .u8 0, .int .u8 0, .int .u8 0, .int .u8 0, .int .u8 0, .int .u8 0, .int .u8 0, .int .u8 0, .int .u8 0, .int .u8 0, .int .u8 0, .int .u8 0, .int .u8 0, .int .u8 0, .int .u8 0, .int .u8 0, .int .i64 0, .int .u8 0, .int .u8 0, .int .u8 0, .int .u8 0, .int .u8 0, .int .u8 0, .int .u8 0, .int .u8 0, .int .u8 0, .int .u8 0, .int .u8 0, .int .u8 0, .int .u8 0, .int .u8 0, .int .u8 0, .int .u8 0, .slice none 0 0, .slice none 0 0, .slice none 0 0] := ⟨Tryd.underlying43, by kernel_rfl, rfl, by decide⟩
theorem fo28_0 : fldO Tryd.prog 28 0 = some 0 := by kernel_rfl
theorem fo28_1 : fldO Tryd.prog 28 1 = some 1 := by kernel_rfl
theorem fo28_2 : fldO Tryd.prog 28 2 = some 2 := by kernel_rfl
theorem fo28_3 : fldO Tryd.prog 28 3 = some 3 := by kernel_rfl
theorem fo28_4 : fldO Tryd.prog 28 4 = some 4 := by kernel_rfl
theorem fo28_5 : fldO Tryd.prog 28 5 = some 5 := by kernel_rfl
theorem fo28_6 : fldO Tryd.prog 28 6 = some 6 := by kernel_rfl
theorem fo28_7 : fldO Tryd.prog 28 7 = some 7 := by kernel_rfl
theorem fo28_8 : fldO Tryd.prog 28 8 = some 24 := by kernel_rfl
theorem fo28_9 : fldO Tryd.prog 28 9 = some 41 := by kernel_rfl
theorem fo28_10 : fldO Tryd.prog 28 10 = some 42 := by kernel_rfl
theorem B28 : BldT Tryd.prog 28 [(0, 1), (1, 1), (2, 1), (3, 1), (4, 1), (5, 1), (6, 1), (7, 17), (24, 17), (41, 1), (42, 1)] [.int .i64 0, .int .i64 0, .bool false, .bool false, .int .i64 0, .int .i64 0, .int .i64 0, .int .i64 0, .int .u8 0, .int .u8 0, .int .u8 0, .int .u8 0, .int .u8 0, .int .u8 0, .int .u8 0, .int .u8 0, .int .u8 0, .int .u8 0, .int .u8 0, .int .u8 0, .int .u8 0, .int .u8 0, .int .u8 0, .int .u8 0, .int .i64 0, .int .u8 0, .int .u8 0, .int .u8 0, .int .u8 0, .int .u8 0, .int .u8 0, .int .u8 0, .int .u8 0, .int .u8 0, .int .u8 0, .int .u8 0, .int .u8 0, .int .u8 0, .int .u8 0, .int .u8 0, .int .u8 0, .slice none 0 0, .slice none 0 0] := ⟨fun _ => by kernel_rfl, fun _ => by kernel_rfl, ⟨_, Tryd.underlying28⟩⟩
theorem fo93_0 : fldO Tryd.prog 93 0 = some 0 := by kernel_rfl
theorem fo93_1 : fldO Tryd.prog 93 1 = some 1 := by kernel_rfl
theorem B93 : BldT Tryd.prog 93 [(0, 1), (1, 1)] [.int .i64 0, .slice none 0 0] := ⟨fun _ => by kernel_rfl, fun _ => by kernel_rfl, ⟨_, Tryd.underlying93⟩⟩
theorem fo73_0 : fldO Tryd.prog 73 0 = some 0 := by kernel_rfl
theorem fo73_1 : fldO Tryd.prog 73 1 = some 1 := by kernel_rfl
theorem fo73_2 : fldO Tryd.prog 73 2 = some 2 := by kernel_rfl
theorem fo73_3 : fldO Tryd.prog 73 3 = some 3 := by kernel_rfl
theorem B73 : BldT Tryd.prog 73 [(0, 1), (1, 1), (2, 1), (3, 1)] [.int .i64 0, .int .i64 0, .bool false, .slice none 0 0] := ⟨fun _ => by kernel_rfl, fun _ => by kernel_rfl, ⟨_, Tryd.underlying73⟩⟩
theorem fo82_0 : fldO Tryd.prog 82 0 = some 0 := by kernel_rfl
theorem fo82_1 : fldO Tryd.prog 82 1 = some 1 := by kernel_rfl
theorem fo82_2 : fldO Tryd.prog 82 2 = some 2 := by kernel_rfl
theorem fo82_3 : fldO Tryd.prog 82 3 = some 3 := by kernel_rfl
theorem fo82_4 : fldO Tryd.prog 82 4 = some 4 := by kernel_rfl
theorem fo82_5 : fldO Tryd.prog 82 5 = some 5 := by kernel_rfl
theorem fo82_6 : fldO Tryd.prog 82 6 = some 6 := by kernel_rfl
theorem fo82_7 : fldO Tryd.prog 82 7 = some 7 := by kernel_rfl
theorem fo82_8 : fldO Tryd.prog 82 8 = some 8 := by kernel_rfl
theorem B82 : BldT Tryd.prog 82 [(0, 1), (1, 1), (2, 1), (3, 1), (4, 1), (5, 1), (6, 1), (7, 1), (8, 1)] [.int .i64 0, .int .i64 0, .int .i64 0, .int .i64 0, .int .i64 0, .int .i64 0, .int .i64 0, .slice none 0 0, .slice none 0 0] := ⟨fun _ => by kernel_rfl, fun _ => by kernel_rfl, ⟨_, Tryd.underlying82⟩⟩
theorem fo24_0 : fldO Tryd.prog 24 0 = some 0 := by kernel_rfl
theorem fo24_1 : fldO Tryd.prog 24 1 = some 1 := by kernel_rfl
theorem B24 : BldT Tryd.prog 24 [(0, 1), (1, 16)] [.int .i64 0, .int .u8 0, .int .u8 0, .int .u8 0, .int .u8 0, .int .u8 0, .int .u8 0, .int .u8 0, .int .u8 0, .int .u8 0, .int .u8 0, .int .u8 0, .int .u8 0, .int .u8 0, .int .u8 0, .int .u8 0, .int .u8 0] := ⟨fun _ => by kernel_rfl, fun _ => by kernel_rfl, ⟨_, Tryd.underlying24⟩⟩
theorem fo144_0 : fldO Tryd.prog 144 0 = some 0 := by kernel_rfl
theorem fo144_1 : fldO Tryd.prog 144 1 = some 1 := by kernel_rfl
theorem fo144_2 : fldO Tryd.prog 144 2 = some 2 := by kernel_rfl
theorem fo144_3 : fldO Tryd.prog 144 3 = some 45 := by kernel_rfl
end Go.Proofs.YtkahmepenjhcpaaDoor.W
/- The base of this seat's proofs, seventh part: bytes that are loaded, with their bounds; shifts and masks; the data of the program. No statement of the seat is proved here. -/
namespace Go.Proofs.YtkahmepenjhcpaaDoor.W
open Go
set_option linter.unusedSimpArgs false
theorem sh8 (a : Int) : a.fdiv (2 ^ (min (8 : Int).toNat IntKind.i64.bits)) = a / 256 := by
  have : (2 ^ (min (8 : Int).toNat IntKind.i64.bits) : Int) = 256 := rfl
  rw [this, Int.fdiv_eq_ediv_of_nonneg _ (by omega)]
theorem sh16 (a : Int) : a.fdiv (2 ^ (min (16 : Int).toNat IntKind.i64.bits)) = a / 65536 := by
  have : (2 ^ (min (16 : Int).toNat IntKind.i64.bits) : Int) = 65536 := rfl
  rw [this, Int.fdiv_eq_ediv_of_nonneg _ (by omega)]
theorem sl8 {a : Int} (h : 0 ≤ a ∧ a < 36028797018963968) : IntKind.i64.wrap (a * 2 ^ (min (8 : Int).toNat IntKind.i64.bits)) = a * 256 := by
  have : (2 ^ (min (8 : Int).toNat IntKind.i64.bits) : Int) = 256 := rfl
  rw [this]; exact w64 (by omega)
theorem sl1 {a : Int} (h : 0 ≤ a ∧ a < 4611686018427387904) : IntKind.i64.wrap (a * 2 ^ (min (1 : Int).toNat IntKind.i64.bits)) = a * 2 := by
  have : (2 ^ (min (1 : Int).toNat IntKind.i64.bits) : Int) = 2 := rfl
  rw [this]; exact w64 (by omega)
theorem toNat_mod64 {a : Int} (h : 0 ≤ a ∧ a ≤ 9223372036854775807) : (a % 2 ^ IntKind.i64.bits).toNat = a.toNat := by
  have : (2 ^ IntKind.i64.bits : Int) = 18446744073709551616 := rfl
  rw [this, Int.emod_eq_of_lt h.1 (by omega)]
/-- a & 65535 -/
theorem an16 {a : Int} (h : 0 ≤ a ∧ a ≤ 9223372036854775807) : IntKind.i64.wrap (((a % 2 ^ IntKind.i64.bits).toNat &&& ((65535 : Int) % 2 ^ IntKind.i64.bits).toNat : Nat) : Int) = a % 65536 := by
  rw [toNat_mod64 h, toNat_mod64 (by omega)]
  have e : a.toNat &&& (65535 : Int).toNat = a.toNat % 65536 := Nat.and_two_pow_sub_one_eq_mod a.toNat 16
  rw [e, w64 (by omega)]
  omega
/-- a*256 | b for a byte b -/
theorem or8 {a b : Int} (h : 0 ≤ a ∧ a < 36028797018963968) (hb : 0 ≤ b ∧ b < 256) : IntKind.i64.wrap (((a * 256 % 2 ^ IntKind.i64.bits).toNat ||| (b % 2 ^ IntKind.i64.bits).toNat : Nat) : Int) = a * 256 + b := by
  rw [toNat_mod64 (by omega), toNat_mod64 (by omega)]
  obtain ⟨x, rfl⟩ := Int.eq_ofNat_of_zero_le h.1
  obtain ⟨y, rfl⟩ := Int.eq_ofNat_of_zero_le hb.1
  have e : ((x : Int) * 256).toNat = x * 2 ^ 8 := by omega
  have e2 : ((y : Int)).toNat = y := by omega
  rw [e, e2]
  have hy : y < 2 ^ 8 := by omega
  have e3 : x * 2 ^ 8 ||| y = x * 2 ^ 8 + y := by
    rw [Nat.mul_comm, ← Nat.two_pow_add_eq_or_of_lt hy]
  rw [e3, w64 (by omega)]
  omega
section op
variable {P : Program} {R : Qp} {ds : List Deferred} {n : Nat} {l : Env} {k : List KI} {w w0 : World} {ops : Array Oper} {os : List Oper}
variable {d : Nat} {G gx gy ex ey : Gs} {ty : TypeId} {ps : String} {af : Array Edge} {gu : Option (Nat × Bool)} {x y z : Operand} {N0 : List Nat} {L L' : List Own}
theorem bs_cell {bs : List Int} {i : Nat} (h : i < bs.length) : (bs.map u8)[i]? = some (u8 (bs.getD i 0)) := by
  simp [h, List.getD_eq_getElem?_getD]
/-- a byte out of a slice, with its bounds -/
theorem ldB {T : TypeId} {tsz : Nat} {zc : List Value} {v : Value} {bs : List Int} {j : Nat} (hx : ev l x = some (gx, eP v j)) (hB : BS N0 w0 v bs) (S : St N0 w0 L w) (hT : TyI P T tsz false zc)
    (hG : gd ops l gu = some G) (hpx : G = gx ++ ex) (hn : Nat.blt d n = true) (hj : allT G → j < bs.length)
    (h : ∀ q, q = bs.getD j 0 → 0 ≤ q ∧ q < 256 → Ro P R ds n ops ((d, G, .int .u8 q) :: l) os k w) :
    Ro P R ds n ops l ({ dst := some d, op := .load T x, type := ty, pos := ps, after := af, guard := gu } :: os) k w :=
  ldE hx hB.2 S hT hG hpx hn (fun hT => bs_cell (hj hT)) (h _ rfl (byt_getD hB.1 j))
/-- whole numbers, read -/
def IS (N : List Nat) (w : World) (v : Value) (l : List Int) : Prop := Sl N w 1 v l.length (l.map i64)
theorem IS.st {w0 w : World} {v : Value} {bs : List Int} (h : IS N0 w0 v bs) (S : St N0 w0 L w) : IS (idsL L) w v bs := Sl.st h S
theorem IS.now {w0 w : World} {v : Value} {bs : List Int} (h : IS N0 w0 v bs) (S : St N0 w0 L w) : IS [] w v bs := Sl.now h S
theorem is_cell {bs : List Int} {i : Nat} (h : i < bs.length) : (bs.map i64)[i]? = some (i64 (bs.getD i 0)) := by
  simp [h, List.getD_eq_getElem?_getD]
theorem ldI {T : TypeId} {tsz : Nat} {zc : List Value} {v : Value} {bs : List Int} {j : Nat} (hx : ev l x = some (gx, eP v j)) (hB : IS N0 w0 v bs) (S : St N0 w0 L w) (hT : TyI P T tsz false zc)
    (hG : gd ops l gu = some G) (hpx : G = gx ++ ex) (hn : Nat.blt d n = true) (hj : allT G → j < bs.length)
    (h : ∀ q, q = bs.getD j 0 → Ro P R ds n ops ((d, G, .int .i64 q) :: l) os k w) :
    Ro P R ds n ops l ({ dst := some d, op := .load T x, type := ty, pos := ps, after := af, guard := gu } :: os) k w :=
  ldE hx hB S hT hG hpx hn (fun hT => is_cell (hj hT)) (h _ rfl)
end op
theorem one_u8 (l : List Int) : ∀ e ∈ l.map u8, e.oneCell' = true := by
  intro e he; obtain ⟨x, _, rfl⟩ := List.mem_map.1 he; rfl
theorem one_i64 (l : List Int) : ∀ e ∈ l.map i64, e.oneCell' = true := by
  intro e he; obtain ⟨x, _, rfl⟩ := List.mem_map.1 he; rfl
theorem one_nil : ∀ e ∈ ([] : List Value), e.oneCell' = true := by intro e he; simp at he
theorem one_cons {v : Value} {r : List Value} (h : v.oneCell' = true) (hr : ∀ e ∈ r, e.oneCell' = true) : ∀ e ∈ v :: r, e.oneCell' = true := by
  intro e he
  rcases List.mem_cons.1 he with rfl | he
  · exact h
  · exact hr e he
theorem BS.one {N : List Nat} {w : World} {v : Value} {l : List Int} (h : BS N w v l) : v.oneCell' = true := by
  obtain ⟨_, _, A, cap, rfl, _⟩ := h; rfl
theorem Sl.one {N : List Nat} {w : World} {sz m : Nat} {v : Value} {cs : List Value} (h : Sl N w sz v m cs) : v.oneCell' = true := by
  obtain ⟨_, A, cap, rfl, _⟩ := h; rfl
/-! ### slices of slices of bytes -/
/-- the slices that hold the lists -/
def BSs (N : List Nat) (w : World) : List Value → List (List Int) → Prop
  | [], [] => True
  | v :: vs, l :: ls => BS N w v l ∧ BSs N w vs ls
  | _, _ => False
theorem BSs.st {N0 : List Nat} {w0 w : World} {L : List Own} (S : St N0 w0 L w) : ∀ {vs : List Value} {ls : List (List Int)}, BSs N0 w0 vs ls → BSs (idsL L) w vs ls
  | [], [], h => h
  | [], _ :: _, h => h.elim
  | _ :: _, [], h => h.elim
  | _ :: _, _ :: _, h => ⟨h.1.st S, BSs.st S h.2⟩
theorem BSs.weak {N N' : List Nat} {w : World} (hN : ∀ i ∈ N', i ∈ N) : ∀ {vs : List Value} {ls : List (List Int)}, BSs N w vs ls → BSs N' w vs ls
  | [], [], h => h
  | [], _ :: _, h => h.elim
  | _ :: _, [], h => h.elim
  | _ :: _, _ :: _, h => ⟨h.1.weak hN, BSs.weak hN h.2⟩
theorem BSs.len {N : List Nat} {w : World} : ∀ {vs : List Value} {ls : List (List Int)}, BSs N w vs ls → vs.length = ls.length
  | [], [], _ => rfl
  | [], _ :: _, h => h.elim
  | _ :: _, [], h => h.elim
  | _ :: _, _ :: _, h => by simp [BSs.len h.2]
theorem BSs.at {N : List Nat} {w : World} : ∀ {vs : List Value} {ls : List (List Int)} {i : Nat}, BSs N w vs ls → i < ls.length → ∃ v, vs[i]? = some v ∧ BS N w v (ls.getD i [])
  | [], [], i, _, hi => by simp at hi
  | [], _ :: _, _, h, _ => h.elim
  | _ :: _, [], _, h, _ => h.elim
  | v :: vs, l :: ls, 0, h, _ => ⟨v, rfl, h.1⟩
  | v :: vs, l :: ls, i + 1, h, hi => by
    obtain ⟨u, h1, h2⟩ := BSs.at h.2 (i := i) (by simpa using hi)
    exact ⟨u, by simpa using h1, by simpa using h2⟩
/-- a slice of slices of bytes -/
def SS (N : List Nat) (w : World) (v : Value) (ls : List (List Int)) : Prop := ∃ vs, Sl N w 1 v ls.length vs ∧ BSs N w vs ls
theorem SS.st {N0 : List Nat} {w0 w : World} {L : List Own} {v : Value} {ls : List (List Int)} (h : SS N0 w0 v ls) (S : St N0 w0 L w) : SS (idsL L) w v ls :=
  let ⟨vs, h1, h2⟩ := h; ⟨vs, h1.st S, h2.st S⟩
theorem SS.weak {N N' : List Nat} {w : World} {v : Value} {ls : List (List Int)} (h : SS N w v ls) (hN : ∀ i ∈ N', i ∈ N) : SS N' w v ls :=
  let ⟨vs, h1, h2⟩ := h; ⟨vs, h1.weak hN, h2.weak hN⟩
theorem SS.now {N0 : List Nat} {w0 w : World} {L : List Own} {v : Value} {ls : List (List Int)} (h : SS N0 w0 v ls) (S : St N0 w0 L w) : SS [] w v ls := (h.st S).weak (by simp)
/-! ### options -/
structure Opt where
  kind : Int
  data : List Int
/-- the cells of a list of options -/
def optC : List Opt → List Value → List Value
  | o :: os, d :: ds => i64 o.kind :: d :: optC os ds
  | _, _ => []
def OSs (N : List Nat) (w : World) (ds : List Value) (os : List Opt) : Prop := BSs N w ds (os.map Opt.data)
def OS (N : List Nat) (w : World) (v : Value) (os : List Opt) : Prop := ∃ ds, Sl N w 2 v os.length (optC os ds) ∧ OSs N w ds os
theorem OS.st {N0 : List Nat} {w0 w : World} {L : List Own} {v : Value} {os : List Opt} (h : OS N0 w0 v os) (S : St N0 w0 L w) : OS (idsL L) w v os :=
  let ⟨vs, h1, h2⟩ := h; ⟨vs, h1.st S, BSs.st S h2⟩
theorem OS.weak {N N' : List Nat} {w : World} {v : Value} {os : List Opt} (h : OS N w v os) (hN : ∀ i ∈ N', i ∈ N) : OS N' w v os :=
  let ⟨vs, h1, h2⟩ := h; ⟨vs, h1.weak hN, BSs.weak hN h2⟩
theorem OS.now {N0 : List Nat} {w0 w : World} {L : List Own} {v : Value} {os : List Opt} (h : OS N0 w0 v os) (S : St N0 w0 L w) : OS [] w v os := (h.st S).weak (by simp)
theorem OS.one {N : List Nat} {w : World} {v : Value} {os : List Opt} (h : OS N w v os) : v.oneCell' = true := let ⟨_, h1, _⟩ := h; h1.one
theorem optC_at : ∀ {os : List Opt} {ds : List Value} {i : Nat} {d : Value}, i < os.length → ds[i]? = some d → (optC os ds)[i * 2]? = some (i64 (os.getD i ⟨0, []⟩).kind) ∧ (optC os ds)[i * 2 + 1]? = some d
  | [], _, i, _, hi, _ => by simp at hi
  | _ :: _, [], i, _, _, hd => by simp at hd
  | o :: os, d' :: ds, 0, d, _, hd => by simp at hd; subst hd; simp [optC]
  | o :: os, d' :: ds, i + 1, d, hi, hd => by
    obtain ⟨h1, h2⟩ := optC_at (os := os) (ds := ds) (i := i) (d := d) (by simpa using hi) (by simpa using hd)
    have e : (i + 1) * 2 = i * 2 + 1 + 1 := by omega
    simp only [optC, e, List.getElem?_cons_succ]
    exact ⟨by simpa using h1, by simpa using h2⟩
theorem optC_len : ∀ {os : List Opt} {ds : List Value}, ds.length = os.length → (optC os ds).length = os.length * 2
  | [], [], _ => rfl
  | [], _ :: _, h => by simp at h
  | _ :: _, [], h => by simp at h
  | o :: os, d :: ds, h => by simp only [optC, List.length_cons, optC_len (os := os) (ds := ds) (by simpa using h)]; omega
theorem optC_app : ∀ {a b : List Opt} {x y : List Value}, x.length = a.length → optC (a ++ b) (x ++ y) = optC a x ++ optC b y
  | [], _, [], _, _ => rfl
  | [], _, _ :: _, _, h => by simp at h
  | _ :: _, _, [], _, h => by simp at h
  | o :: a, b, d :: x, y, h => by simp [optC, optC_app (a := a) (b := b) (x := x) (y := y) (by simpa using h)]
/-! ### addresses, datagrams, segments -/
structure IP where
  v : Int
  a : Nat → Int
def encIP (x : IP) : List Value := [i64 x.v, u8 (x.a 0), u8 (x.a 1), u8 (x.a 2), u8 (x.a 3), u8 (x.a 4), u8 (x.a 5), u8 (x.a 6), u8 (x.a 7), u8 (x.a 8), u8 (x.a 9), u8 (x.a 10), u8 (x.a 11), u8 (x.a 12), u8 (x.a 13), u8 (x.a 14), u8 (x.a 15)]
def IP.ok (x : IP) : Prop := (∀ i, i < 16 → 0 ≤ x.a i ∧ x.a i < 256) ∧ (-9223372036854775808 ≤ x.v ∧ x.v ≤ 9223372036854775807)
def IP.same (x y : IP) : Prop := x.v = y.v ∧ ∀ i, i < 16 → x.a i = y.a i
structure Ip4 where
  tos : Int
  id : Int
  df : Bool
  mf : Bool
  off : Int
  ttl : Int
  proto : Int
  src : IP
  dst : IP
  opts : List Opt
  data : List Int
def encIp4 (h : Ip4) (o d : Value) : List Value := [i64 h.tos, i64 h.id, .bool h.df, .bool h.mf, i64 h.off, i64 h.ttl, i64 h.proto] ++ (encIP h.src ++ (encIP h.dst ++ [o, d]))
def inI (x : Int) : Prop := -9223372036854775808 ≤ x ∧ x ≤ 9223372036854775807
def Ip4.ok (h : Ip4) : Prop := inI h.tos ∧ inI h.id ∧ inI h.off ∧ inI h.ttl ∧ inI h.proto ∧ h.src.ok ∧ h.dst.ok ∧ ∀ o ∈ h.opts, inI o.kind
/-- a datagram's value, as it is read -/
def Ip4V (N : List Nat) (w : World) (v : Value) (h : Ip4) : Prop := ∃ o d, v = .agg (encIp4 h o d).toArray ∧ OS N w o h.opts ∧ BS N w d h.data
structure Udp where
  sport : Int
  dport : Int
  nosum : Bool
  data : List Int
def encUdp (u : Udp) (d : Value) : List Value := [i64 u.sport, i64 u.dport, .bool u.nosum, d]
def UdpV (N : List Nat) (w : World) (v : Value) (u : Udp) : Prop := ∃ d, v = .agg (encUdp u d).toArray ∧ BS N w d u.data
structure Tcp where
  sport : Int
  dport : Int
  seq : Int
  ack : Int
  flags : Int
  win : Int
  urg : Int
  opts : List Opt
  data : List Int
def encTcp (t : Tcp) (o d : Value) : List Value := [i64 t.sport, i64 t.dport, i64 t.seq, i64 t.ack, i64 t.flags, i64 t.win, i64 t.urg, o, d]
def TcpV (N : List Nat) (w : World) (v : Value) (t : Tcp) : Prop := ∃ o d, v = .agg (encTcp t o d).toArray ∧ OS N w o t.opts ∧ BS N w d t.data
end Go.Proofs.YtkahmepenjhcpaaDoor.W
/- The base of this seat's proofs, eighth part: the rules again, for regions that draw their order. No statement of the seat is proved here. -/
namespace Go.Proofs.YtkahmepenjhcpaaDoor.W
open Go
set_option linter.unusedSimpArgs false
set_option linter.unusedVariables false
def Qo (P : Program) (R : Qp) (ds : List Deferred) (n : Nat) (ops : Array Oper) (C : World → Prop) (l : Env) (os : List Oper) (k : List KI) : Prop :=
  ∀ a, En ds n l a → wpQuiet P ops C (fun a' => ∀ w', C w' → kont P R k .normal a' w') os a
section op
variable {P : Program} {R : Qp} {ds : List Deferred} {n : Nat} {l : Env} {k : List KI} {w w0 : World} {C : World → Prop} {ops : Array Oper} {os : List Oper}
variable {d : Nat} {G gx gy ex ey : Gs} {ty xt yt : TypeId} {ps : String} {af : Array Edge} {gu : Option (Nat × Bool)} {x y z : Operand} {N0 : List Nat} {L L' : List Own}
/-- a region that draws its order and only reads: one walk in the text's order -/
theorem Run.draw {id : Nat} (hm : P.follows .mixedOrders = true) (hB : Region.lexB .any ops = true) (S : St N0 w0 L w)
    (h : Qo P R ds n ops (fun w' => St N0 w0 L w') l ops.toList k) : Run P R ds n l (.region id ops true) k w :=
  fun a ha => wp_region_quiet hm hB (S.drew _) (h a ha)
theorem Qo.nil (h : ∀ w', C w' → Nrm P R ds n l k w') : Qo P R ds n ops C l [] k := fun a ha w' hw => h w' hw a ha
theorem qopv {o : Oper} {G : Gs} {d : Nat} {v : Value} (hG : gd ops l o.guard = some G) (hd : o.dst = some d) (hn : Nat.blt d n = true)
    (hx : allT G → ∀ w, C w → ∀ a, En ds n l a → (execOp a.eval o).run P w = .ok (.value v) w)
    (h : Qo P R ds n ops C ((d, G, v) :: l) os k) : Qo P R ds n ops C l (o :: os) k := by
  intro a ha
  have hn' : d < n := by simpa [Nat.blt_eq] using hn
  simp only [wpQuiet]
  cases hw : Region.wanted o (yielded ops a.tmps) with
  | true =>
    rw [gd_wanted ha hG] at hw
    have hT := (allB_iff G).1 hw
    simp only [if_true]
    refine ⟨v, fun w hC => ?_, ?_⟩
    · simp only [Oper.quietAt, hx hT w hC a ha, Oper.quietUpon]; exact ⟨trivial, trivial⟩
    · rw [hd]; exact h _ (ha.put_true hn' hT v)
  | false =>
    rw [gd_wanted ha hG] at hw
    have hT : ¬ allT G := fun hT => by rw [(allB_iff G).2 hT] at hw; cases hw
    simp only [Bool.false_eq_true, if_false]
    rw [hd]; exact h _ (ha.put_false hn' hT v)
/-- a call with one answer -/
theorem qcal {f : FuncId} {xs : List Operand} {vs : List Value} {at_ : Array TypeId} {v : Value} (hG : gd ops l gu = some G)
    (hx : Evs l G xs vs) (hk : Callable P f) (hn : Nat.blt d n = true) (hC : ∀ w w', C w → Bl w w' → C w') (hc : allT G → ∀ w, C w → CallsD P f vs.toArray w v)
    (h : Qo P R ds n ops C ((d, G, v) :: l) os k) :
    Qo P R ds n ops C l ({ dst := some d, op := .call { callee := .value (.func f), args := xs.toArray, argTypes := at_ }, type := ty, pos := ps, after := af, guard := gu } :: os) k := by
  intro a ha
  have hn' : d < n := by simpa [Nat.blt_eq] using hn
  simp only [wpQuiet]
  split
  · rename_i hw
    rw [gd_wanted ha hG] at hw
    have hT := (allB_iff G).1 hw
    refine ⟨v, fun w hCw => ?_, h _ (ha.put_true hn' hT v)⟩
    have hr := call_run (P := P) (w := w) (d := d) (ty := ty) (ps := ps) (af := af) (gu := gu) (at_ := at_) hk (Evs.eval ha hT hx)
    simp only [Oper.quietAt, hr, Oper.quietUpon]
    refine ⟨trivial, Calls.mono (hc hT w hCw) ?_⟩
    intro e w' r
    cases e with
    | returned v' => obtain ⟨rfl, hb⟩ := r; exact ⟨rfl, hC w w' hCw hb⟩
    | panicked ch => exact r.elim
    | outgrown => exact r.elim
  · rename_i hw
    simp only [Bool.not_eq_true] at hw
    rw [gd_wanted ha hG] at hw
    have hT : ¬ allT G := fun hT => by rw [(allB_iff G).2 hT] at hw; cases hw
    exact h _ (ha.put_false hn' hT v)
theorem qmv {x : Operand} {d : Nat} {G g ex : Gs} {v : Value} {ty : TypeId} {ps : String} {af : Array Edge} {gu : Option (Nat × Bool)}
    (hx : ev l x = some (g, v)) (hG : gd ops l gu = some G) (hp : G = g ++ ex) (hn : Nat.blt d n = true)
    (h : Qo P R ds n ops C ((d, G, v) :: l) os k) :
    Qo P R ds n ops C l ({ dst := some d, op := .move x, type := ty, pos := ps, after := af, guard := gu } :: os) k :=
  qopv hG rfl hn (fun hT w hw a ha => by simp [execOp, pure, ha.eval hx (pre_T hp hT)]) h
theorem qasg {x : Operand} {d : Nat} {G g ex : Gs} {v : Value} {ty : TypeId} {ps : String} {af : Array Edge} {gu : Option (Nat × Bool)}
    (hx : ev l x = some (g, v)) (hG : gd ops l gu = some G) (hp : G = g ++ ex) (hn : Nat.blt d n = true)
    (h : Qo P R ds n ops C ((d, G, v) :: l) os k) :
    Qo P R ds n ops C l ({ dst := some d, op := .assign x, type := ty, pos := ps, after := af, guard := gu } :: os) k :=
  qopv hG rfl hn (fun hT w hw a ha => by simp [execOp, pure, ha.eval hx (pre_T hp hT)]) h
theorem qbin {op : BinOp} {a b v : Value} (hx : ev l x = some (gx, a)) (hy : ev l y = some (gy, b)) (hG : gd ops l gu = some G) (hpx : G = gx ++ ex) (hpy : G = gy ++ ey)
    (hn : Nat.blt d n = true) (he : allT G → ∀ w, (do eqGuard op xt x y a b; binOp op xt a b : Sem Value).run P w = .ok v w)
    (h : Qo P R ds n ops C ((d, G, v) :: l) os k) :
    Qo P R ds n ops C l ({ dst := some d, op := .binOp op xt x y yt, type := ty, pos := ps, after := af, guard := gu } :: os) k :=
  qopv hG rfl hn (fun hT w hw A ha => by
    have h1 := he hT w
    simp only [execOp, ha.eval hx (pre_T hpx hT), ha.eval hy (pre_T hpy hT)]
    rw [Sem.run_bind, h1]; rfl) h
theorem qintBin {op : BinOp} {kd : IntKind} {a b : Int} {v : Value} (hx : ev l x = some (gx, .int kd a)) (hy : ev l y = some (gy, .int kd b)) (hG : gd ops l gu = some G) (hpx : G = gx ++ ex) (hpy : G = gy ++ ey)
    (hn : Nat.blt d n = true) (he : allT G → ∀ w, (binOp op xt (.int kd a) (.int kd b) : Sem Value).run P w = .ok v w)
    (h : Qo P R ds n ops C ((d, G, v) :: l) os k) :
    Qo P R ds n ops C l ({ dst := some d, op := .binOp op xt x y yt, type := ty, pos := ps, after := af, guard := gu } :: os) k :=
  qbin hx hy hG hpx hpy hn (fun hT w => by
    have : eqGuard op xt x y (.int kd a) (.int kd b) = pure () := by unfold eqGuard; split <;> rfl
    rw [this]; exact he hT w) h
theorem qadd {kd : IntKind} {a b z : Int} (hx : ev l x = some (gx, .int kd a)) (hy : ev l y = some (gy, .int kd b)) (hG : gd ops l gu = some G) (hpx : G = gx ++ ex) (hpy : G = gy ++ ey)
    (hn : Nat.blt d n = true) (he : allT G → kd.wrap (a + b) = z) (h : Qo P R ds n ops C ((d, G, .int kd z) :: l) os k) :
    Qo P R ds n ops C l ({ dst := some d, op := .binOp .add xt x y yt, type := ty, pos := ps, after := af, guard := gu } :: os) k :=
  qintBin hx hy hG hpx hpy hn (fun hT w => by simp [binOp, Op.intArith, pure, Sem.run, he hT]) h
theorem qsub {kd : IntKind} {a b z : Int} (hx : ev l x = some (gx, .int kd a)) (hy : ev l y = some (gy, .int kd b)) (hG : gd ops l gu = some G) (hpx : G = gx ++ ex) (hpy : G = gy ++ ey)
    (hn : Nat.blt d n = true) (he : allT G → kd.wrap (a - b) = z) (h : Qo P R ds n ops C ((d, G, .int kd z) :: l) os k) :
    Qo P R ds n ops C l ({ dst := some d, op := .binOp .sub xt x y yt, type := ty, pos := ps, after := af, guard := gu } :: os) k :=
  qintBin hx hy hG hpx hpy hn (fun hT w => by simp [binOp, Op.intArith, pure, Sem.run, he hT]) h
theorem qmul {kd : IntKind} {a b z : Int} (hx : ev l x = some (gx, .int kd a)) (hy : ev l y = some (gy, .int kd b)) (hG : gd ops l gu = some G) (hpx : G = gx ++ ex) (hpy : G = gy ++ ey)
    (hn : Nat.blt d n = true) (he : allT G → kd.wrap (a * b) = z) (h : Qo P R ds n ops C ((d, G, .int kd z) :: l) os k) :
    Qo P R ds n ops C l ({ dst := some d, op := .binOp .mul xt x y yt, type := ty, pos := ps, after := af, guard := gu } :: os) k :=
  qintBin hx hy hG hpx hpy hn (fun hT w => by simp [binOp, Op.intArith, pure, Sem.run, he hT]) h
theorem qquo {kd : IntKind} {a b z : Int} (hx : ev l x = some (gx, .int kd a)) (hy : ev l y = some (gy, .int kd b)) (hG : gd ops l gu = some G) (hpx : G = gx ++ ex) (hpy : G = gy ++ ey)
    (hn : Nat.blt d n = true) (h0 : allT G → b ≠ 0) (he : allT G → kd.wrap (a.tdiv b) = z) (h : Qo P R ds n ops C ((d, G, .int kd z) :: l) os k) :
    Qo P R ds n ops C l ({ dst := some d, op := .binOp .quo xt x y yt, type := ty, pos := ps, after := af, guard := gu } :: os) k :=
  qintBin hx hy hG hpx hpy hn (fun hT w => by simp [binOp, Op.intDiv, pure, Sem.run, he hT, h0 hT]) h
theorem qrem {kd : IntKind} {a b z : Int} (hx : ev l x = some (gx, .int kd a)) (hy : ev l y = some (gy, .int kd b)) (hG : gd ops l gu = some G) (hpx : G = gx ++ ex) (hpy : G = gy ++ ey)
    (hn : Nat.blt d n = true) (h0 : allT G → b ≠ 0) (he : allT G → a.tmod b = z) (h : Qo P R ds n ops C ((d, G, .int kd z) :: l) os k) :
    Qo P R ds n ops C l ({ dst := some d, op := .binOp .rem xt x y yt, type := ty, pos := ps, after := af, guard := gu } :: os) k :=
  qintBin hx hy hG hpx hpy hn (fun hT w => by simp [binOp, Op.intDiv, pure, Sem.run, he hT, h0 hT]) h
theorem qshr {kd yk : IntKind} {a b z : Int} (hx : ev l x = some (gx, .int kd a)) (hy : ev l y = some (gy, .int yk b)) (hG : gd ops l gu = some G) (hpx : G = gx ++ ex) (hpy : G = gy ++ ey)
    (hn : Nat.blt d n = true) (h0 : allT G → 0 ≤ b) (he : allT G → a.fdiv (2 ^ (min b.toNat kd.bits)) = z) (h : Qo P R ds n ops C ((d, G, .int kd z) :: l) os k) :
    Qo P R ds n ops C l ({ dst := some d, op := .binOp .shr xt x y yt, type := ty, pos := ps, after := af, guard := gu } :: os) k :=
  qbin hx hy hG hpx hpy hn (fun hT w => by
    have h1 : ¬ b < 0 := by have := h0 hT; omega
    have h2 : eqGuard .shr xt x y (.int kd a) (.int yk b) = pure () := by unfold eqGuard; rfl
    rw [h2]; simp [binOp, Op.shift, bind, Sem.bind, pure, Sem.run, he hT, h1]) h
theorem qshl {kd yk : IntKind} {a b z : Int} (hx : ev l x = some (gx, .int kd a)) (hy : ev l y = some (gy, .int yk b)) (hG : gd ops l gu = some G) (hpx : G = gx ++ ex) (hpy : G = gy ++ ey)
    (hn : Nat.blt d n = true) (h0 : allT G → 0 ≤ b) (he : allT G → kd.wrap (a * 2 ^ (min b.toNat kd.bits)) = z) (h : Qo P R ds n ops C ((d, G, .int kd z) :: l) os k) :
    Qo P R ds n ops C l ({ dst := some d, op := .binOp .shl xt x y yt, type := ty, pos := ps, after := af, guard := gu } :: os) k :=
  qbin hx hy hG hpx hpy hn (fun hT w => by
    have h1 : ¬ b < 0 := by have := h0 hT; omega
    have h2 : eqGuard .shl xt x y (.int kd a) (.int yk b) = pure () := by unfold eqGuard; rfl
    rw [h2]; simp [binOp, Op.shift, bind, Sem.bind, pure, Sem.run, he hT, h1]) h
theorem qbor {kd : IntKind} {a b z : Int} (hx : ev l x = some (gx, .int kd a)) (hy : ev l y = some (gy, .int kd b)) (hG : gd ops l gu = some G) (hpx : G = gx ++ ex) (hpy : G = gy ++ ey)
    (hn : Nat.blt d n = true) (he : allT G → kd.wrap (((a % 2 ^ kd.bits).toNat ||| (b % 2 ^ kd.bits).toNat : Nat) : Int) = z)
    (h : Qo P R ds n ops C ((d, G, .int kd z) :: l) os k) :
    Qo P R ds n ops C l ({ dst := some d, op := .binOp .or xt x y yt, type := ty, pos := ps, after := af, guard := gu } :: os) k :=
  qintBin hx hy hG hpx hpy hn (fun hT w => by
    have := he hT
    simp [binOp, Op.intBits, pure, Sem.run, this]) h
theorem qbxor {kd : IntKind} {a b z : Int} (hx : ev l x = some (gx, .int kd a)) (hy : ev l y = some (gy, .int kd b)) (hG : gd ops l gu = some G) (hpx : G = gx ++ ex) (hpy : G = gy ++ ey)
    (hn : Nat.blt d n = true) (he : allT G → kd.wrap (((a % 2 ^ kd.bits).toNat ^^^ (b % 2 ^ kd.bits).toNat : Nat) : Int) = z)
    (h : Qo P R ds n ops C ((d, G, .int kd z) :: l) os k) :
    Qo P R ds n ops C l ({ dst := some d, op := .binOp .xor xt x y yt, type := ty, pos := ps, after := af, guard := gu } :: os) k :=
  qintBin hx hy hG hpx hpy hn (fun hT w => by
    have := he hT
    simp [binOp, Op.intBits, pure, Sem.run, this]) h
theorem qeql {kd : IntKind} {a b : Int} (hx : ev l x = some (gx, .int kd a)) (hy : ev l y = some (gy, .int kd b)) (hG : gd ops l gu = some G) (hpx : G = gx ++ ex) (hpy : G = gy ++ ey)
    (hn : Nat.blt d n = true) (h : Qo P R ds n ops C ((d, G, .bool (decide (a = b))) :: l) os k) :
    Qo P R ds n ops C l ({ dst := some d, op := .binOp .eql xt x y yt, type := ty, pos := ps, after := af, guard := gu } :: os) k :=
  qintBin hx hy hG hpx hpy hn (fun _ w => by simp [binOp, Op.intCmp, pure, Sem.run]; by_cases hab : a = b <;> simp [hab]) h
theorem qneq {kd : IntKind} {a b : Int} (hx : ev l x = some (gx, .int kd a)) (hy : ev l y = some (gy, .int kd b)) (hG : gd ops l gu = some G) (hpx : G = gx ++ ex) (hpy : G = gy ++ ey)
    (hn : Nat.blt d n = true) (h : Qo P R ds n ops C ((d, G, .bool (decide (a ≠ b))) :: l) os k) :
    Qo P R ds n ops C l ({ dst := some d, op := .binOp .neq xt x y yt, type := ty, pos := ps, after := af, guard := gu } :: os) k :=
  qintBin hx hy hG hpx hpy hn (fun _ w => by simp [binOp, Op.intCmp, pure, Sem.run]; by_cases hab : a = b <;> simp [hab]) h
theorem qnt {b : Bool} (hx : ev l x = some (gx, .bool b)) (hG : gd ops l gu = some G) (hpx : G = gx ++ ex) (hn : Nat.blt d n = true)
    (h : Qo P R ds n ops C ((d, G, .bool (!b)) :: l) os k) :
    Qo P R ds n ops C l ({ dst := some d, op := .unOp .not xt x, type := ty, pos := ps, after := af, guard := gu } :: os) k :=
  qopv hG rfl hn (fun hT w hw a ha => by simp [execOp, ha.eval hx (pre_T hpx hT), Op.unary, bind, Sem.bind, pure, Sem.run]) h
theorem qextr {i : Nat} {vs : Array Value} {v : Value} (hx : ev l x = some (gx, .tuple vs)) (hv : vs[i]? = some v) (hG : gd ops l gu = some G) (hpx : G = gx ++ ex) (hn : Nat.blt d n = true)
    (h : Qo P R ds n ops C ((d, G, v) :: l) os k) :
    Qo P R ds n ops C l ({ dst := some d, op := .extract x i, type := ty, pos := ps, after := af, guard := gu } :: os) k :=
  qopv hG rfl hn (fun hT w hw a ha => by simp [execOp, ha.eval hx (pre_T hpx hT), Instr.extract, hv, bind, Sem.bind, pure, Sem.run]) h
theorem qpkO {c : Operand} {gc gb eb ec : Gs} {p q : Bool} (hc : ev l c = some (gc, .bool p)) (hb : ev l y = some (gb, .bool q)) (hG : gd ops l gu = some G) (hpc : G = gc ++ ec)
    (hpb : G ++ [!p] = gb ++ eb) (hn : Nat.blt d n = true) (h : Qo P R ds n ops C ((d, G, .bool (p || q)) :: l) os k) :
    Qo P R ds n ops C l ({ dst := some d, op := .pick c (.const (.bool true)) y, type := ty, pos := ps, after := af, guard := gu } :: os) k :=
  qopv hG rfl hn (fun hT w hw a ha => by
    have h1 := ha.eval hc (pre_T hpc hT)
    cases p with
    | true => simp only [execOp, h1]; rfl
    | false =>
      have hT' : allT (G ++ [!false]) := allT_app.2 ⟨hT, rfl, trivial⟩
      simp [execOp, h1, ha.eval hb (pre_T hpb hT'), asBool, bind, Sem.bind, pure, Sem.run]) h
theorem qpkA {c : Operand} {gc gb eb ec : Gs} {p q : Bool} (hc : ev l c = some (gc, .bool p)) (hb : ev l y = some (gb, .bool q)) (hG : gd ops l gu = some G) (hpc : G = gc ++ ec)
    (hpb : G ++ [p] = gb ++ eb) (hn : Nat.blt d n = true) (h : Qo P R ds n ops C ((d, G, .bool (p && q)) :: l) os k) :
    Qo P R ds n ops C l ({ dst := some d, op := .pick c y (.const (.bool false)), type := ty, pos := ps, after := af, guard := gu } :: os) k :=
  qopv hG rfl hn (fun hT w hw a ha => by
    have h1 := ha.eval hc (pre_T hpc hT)
    cases p with
    | false => simp only [execOp, h1]; rfl
    | true =>
      have hT' : allT (G ++ [true]) := allT_app.2 ⟨hT, rfl, trivial⟩
      simp [execOp, h1, ha.eval hb (pre_T hpb hT'), asBool, bind, Sem.bind, pure, Sem.run]) h
theorem qcvi {kd kd' : IntKind} {src dst : TypeId} {a z : Int} {u : TypeDesc} (hx : ev l x = some (gx, .int kd a)) (hG : gd ops l gu = some G) (hpx : G = gx ++ ex) (hn : Nat.blt d n = true)
    (hs : P.underlying src = some u) (ht : P.underlying dst = some (.int kd')) (he : allT G → kd'.wrap a = z) (h : Qo P R ds n ops C ((d, G, .int kd' z) :: l) os k) :
    Qo P R ds n ops C l ({ dst := some d, op := .convert src dst x, type := ty, pos := ps, after := af, guard := gu } :: os) k :=
  qopv hG rfl hn (fun hT w hw A ha => by
    simp only [execOp, ha.eval hx (pre_T hpx hT)]
    simp [Go.convert, underlying, program, hs, ht, Conv.intToInt, bind, Sem.bind, pure, Sem.run, he hT]) h
theorem qld1 {T : TypeId} {sz : Nat} {zc : List Value} {b off i : Nat} {T' : TypeId} {c : List Value} {v : Value} (hx : ev l x = some (gx, .pointer (some ⟨b, off, none⟩))) (hT : TyI P T sz false zc)
    (S : ∀ w, C w → St N0 w0 L w) (hk : getN L i = some (.var b T' c)) (hv : getN c off = some v) (hG : gd ops l gu = some G) (hpx : G = gx ++ ex) (hn : Nat.blt d n = true)
    (h : Qo P R ds n ops C ((d, G, v) :: l) os k) :
    Qo P R ds n ops C l ({ dst := some d, op := .load T x, type := ty, pos := ps, after := af, guard := gu } :: os) k := by
  obtain ⟨i, z, dd, h1, h2, h3, h4, h5, h6⟩ := hT.get
  refine qopv hG rfl hn ?_ h
  intro hT' w hw a ha
  have hc : w.cell? ⟨b, off, none⟩ = some v := by
    rw [cell_of_row w b off _ _ _ ((S w hw).var hk), ← hv, getN_eq]; simp
  simp only [execOp, ha.eval hx (pre_T hpx hT'), Instr.loadAt, Instr.sureAddr, loadVar, isAgg]
  cases dd <;> simp [aggD] at h6 <;> simp [run_underlying h5, hc]
theorem qldA {T : TypeId} {sz : Nat} {zc : List Value} {b off i : Nat} {T' : TypeId} {c cs : List Value} (hx : ev l x = some (gx, .pointer (some ⟨b, off, none⟩))) (hT : TyI P T sz true zc)
    (S : ∀ w, C w → St N0 w0 L w) (hk : getN L i = some (.var b T' c)) (hv : subN c off sz = some cs) (hl : cs.length = sz) (h0 : sz ≠ 0) (hG : gd ops l gu = some G) (hpx : G = gx ++ ex) (hn : Nat.blt d n = true)
    (h : Qo P R ds n ops C ((d, G, .agg cs.toArray) :: l) os k) :
    Qo P R ds n ops C l ({ dst := some d, op := .load T x, type := ty, pos := ps, after := af, guard := gu } :: os) k := by
  obtain ⟨i, z, dd, h1, h2, h3, h4, h5, h6⟩ := hT.get
  refine qopv hG rfl hn ?_ h
  intro hT' w hw a ha
  subst hl
  have hl := run_loadCells_list (P := P) (w := w) ⟨b, off, none⟩ cs (cellsLoad ((S w hw).var hk) hv h0)
  simp only [execOp, ha.eval hx (pre_T hpx hT'), Instr.loadAt, Instr.sureAddr, loadVar, isAgg]
  cases dd <;> simp [aggD] at h6 <;> simp [run_underlying h5, sizeOf, typeInfo, h1, h2, hl]
theorem qldW {T : TypeId} {sz : Nat} {zc : List Value} {b i : Nat} {T' : TypeId} {c : List Value} (hx : ev l x = some (gx, .pointer (some ⟨b, 0, none⟩))) (hT : TyI P T sz true zc)
    (S : ∀ w, C w → St N0 w0 L w) (hk : getN L i = some (.var b T' c)) (hl : c.length = sz) (hG : gd ops l gu = some G) (hpx : G = gx ++ ex) (hn : Nat.blt d n = true)
    (h : Qo P R ds n ops C ((d, G, .agg c.toArray) :: l) os k) :
    Qo P R ds n ops C l ({ dst := some d, op := .load T x, type := ty, pos := ps, after := af, guard := gu } :: os) k := by
  obtain ⟨i, z, dd, h1, h2, h3, h4, h5, h6⟩ := hT.get
  refine qopv hG rfl hn ?_ h
  intro hT' w hw a ha
  subst hl
  have hl := run_loadCells_list (P := P) (w := w) ⟨b, 0, none⟩ c (fun j v hj => by
    rw [add_new, cell_of_row w b (0 + j) _ _ _ ((S w hw).var hk), ← hj]; simp)
  simp only [execOp, ha.eval hx (pre_T hpx hT'), Instr.loadAt, Instr.sureAddr, loadVar, isAgg]
  cases dd <;> simp [aggD] at h6 <;> simp [run_underlying h5, sizeOf, typeInfo, h1, h2, hl]
theorem qfld {T : TypeId} {f o o' : Nat} {b off : Nat} (hx : ev l x = some (gx, .pointer (some ⟨b, off, none⟩))) (hf : fldO P T f = some o) (ho : off + o = o') (hG : gd ops l gu = some G) (hpx : G = gx ++ ex) (hn : Nat.blt d n = true)
    (h : Qo P R ds n ops C ((d, G, .pointer (some ⟨b, o', none⟩)) :: l) os k) :
    Qo P R ds n ops C l ({ dst := some d, op := .fieldAddr T x f, type := ty, pos := ps, after := af, guard := gu } :: os) k := by
  subst ho
  refine qopv hG rfl hn ?_ h
  intro hT w hw a ha
  simp only [execOp, ha.eval hx (pre_T hpx hT)]
  rw [Sem.run_bind, fldO_spec hf rfl]; rfl
theorem qlenS {T E : TypeId} {sz m : Nat} {v : Value} {cs : List Value} (hx : ev l x = some (gx, v)) (hS : Sl N0 w0 sz v m cs) (hT : P.underlying T = some (.slice E)) (hG : gd ops l gu = some G) (hpx : G = gx ++ ex) (hn : Nat.blt d n = true)
    (h : Qo P R ds n ops C ((d, G, .int .i64 m) :: l) os k) :
    Qo P R ds n ops C l ({ dst := some d, op := .call { callee := .builtin .len, args := #[x], argTypes := #[T] }, type := ty, pos := ps, after := af, guard := gu } :: os) k := by
  obtain ⟨_, A, cap, rfl, _⟩ := hS
  refine qopv hG rfl hn ?_ h
  intro hT' w hw a ha
  simp [execOp, resolve, invoke, builtin, Builtin.len_, ha.eval hx (pre_T hpx hT'), run_underlying hT, goInt]
theorem qixa {T E : TypeId} {sz by_ m : Nat} {zc : List Value} {v : Value} {cs : List Value} {kd : IntKind} {i : Int} (hx : ev l x = some (gx, v)) (hy : ev l y = some (gy, .int kd i)) (hS : Sl N0 w0 sz v m cs) (hE : ElT P T E sz by_ zc)
    (hG : gd ops l gu = some G) (hpx : G = gx ++ ex) (hpy : G = gy ++ ey) (hn : Nat.blt d n = true) (hb : allT G → 0 ≤ i ∧ i < m)
    (h : Qo P R ds n ops C ((d, G, eP v (i.toNat * sz)) :: l) os k) :
    Qo P R ds n ops C l ({ dst := some d, op := .indexAddr T x y, type := ty, pos := ps, after := af, guard := gu } :: os) k := by
  refine qopv hG rfl hn ?_ h
  intro hT w hw a ha
  obtain ⟨i1, z, g1, g2, g3, g4, g5⟩ := hE.get
  have hb' := hb hT
  have hj : i.toNat * sz < cs.length := by
    rw [hS.1]
    exact lt_mul (by omega) hE.p
  obtain ⟨A, cap, rfl, hsp, he, _⟩ := hS.some hj
  simp only [execOp, ha.eval hx (pre_T hpx hT), ha.eval hy (pre_T hpy hT)]
  rw [he]
  simp [Instr.indexAt, asIntOf, run_underlying hE.u, hb'.1, hb'.2, sizeOf, typeInfo, g1, g2, add_addr hsp]
theorem qflE {T : TypeId} {f o sz m j : Nat} {v : Value} {cs : List Value} (hx : ev l x = some (gx, eP v j)) (hS : Sl N0 w0 sz v m cs) (hf : fldO P T f = some o) (hG : gd ops l gu = some G) (hpx : G = gx ++ ex) (hn : Nat.blt d n = true)
    (hj : allT G → j < cs.length) (h : Qo P R ds n ops C ((d, G, eP v (j + o)) :: l) os k) :
    Qo P R ds n ops C l ({ dst := some d, op := .fieldAddr T x f, type := ty, pos := ps, after := af, guard := gu } :: os) k := by
  refine qopv hG rfl hn ?_ h
  intro hT w hw a ha
  obtain ⟨A, cap, rfl, hsp, he, _⟩ := hS.some (hj hT)
  simp only [execOp, ha.eval hx (pre_T hpx hT), he]
  rw [Sem.run_bind, fldO_spec hf rfl]
  simp [eP, Nat.add_assoc]
theorem qldE {T : TypeId} {sz tsz m j : Nat} {zc : List Value} {v u : Value} {cs : List Value} (hx : ev l x = some (gx, eP v j)) (hS : Sl N0 w0 sz v m cs) (S : ∀ w, C w → St N0 w0 L w) (hT : TyI P T tsz false zc) (hG : gd ops l gu = some G) (hpx : G = gx ++ ex) (hn : Nat.blt d n = true)
    (hv : allT G → cs[j]? = some u) (h : Qo P R ds n ops C ((d, G, u) :: l) os k) :
    Qo P R ds n ops C l ({ dst := some d, op := .load T x, type := ty, pos := ps, after := af, guard := gu } :: os) k := by
  obtain ⟨i, z, dd, h1, h2, h3, h4, h5, h6⟩ := hT.get
  refine qopv hG rfl hn ?_ h
  intro hT' w hw a ha
  have hu := hv hT'
  have hj : j < cs.length := by
    rcases Nat.lt_or_ge j cs.length with h | h
    · exact h
    · rw [List.getElem?_eq_none h] at hu; cases hu
  obtain ⟨A, cap, rfl, hsp, he, hc, hb⟩ := hS.some hj
  have hc' : w.cell? ⟨A.block, A.off + j, none⟩ = some u := by
    rw [cell_congr (w := w0) ((S w hw).keep _ (cell_lt hc) hb), hc, ← hu, List.getElem?_eq_getElem hj]
  simp only [execOp, ha.eval hx (pre_T hpx hT'), he, Instr.loadAt, Instr.sureAddr, loadVar, isAgg]
  cases dd <;> simp [aggD] at h6 <;> simp [run_underlying h5, hc']
theorem qbld {T : TypeId} {places : List (Nat × Nat)} {zc c : List Value} {parts : List (Nat × Operand)} {qs : List (Nat × List Value)} (hT : BldT P T places zc)
    (hp : Pts l G (getN places) parts qs) (hf : fillN zc qs = some c) (hG : gd ops l gu = some G) (hn : Nat.blt d n = true)
    (h : Qo P R ds n ops C ((d, G, .agg c.toArray) :: l) os k) :
    Qo P R ds n ops C l ({ dst := some d, op := .build T parts.toArray, type := ty, pos := ps, after := af, guard := gu } :: os) k := by
  refine qopv hG rfl hn ?_ h
  intro hT' w hw a ha
  obtain ⟨fs, hu⟩ := hT.s
  have hpl := hT.p w
  simp only [Sem.run_bind, run_underlying hu, Result.andThen_ok] at hpl
  have hfr := fill_run _ qs zc c (Pts.get ha hT' hp) hf
  have hpe : (fun i => places.toArray[i]?) = getN places := by funext i; rw [getN_eq]; simp
  simp only [execOp, Instr.build, Sem.run_bind, hT.z w, Result.andThen_ok, run_underlying hu, Value.cells]
  rw [hpl]
  simp only [Result.andThen_ok]
  have e : (parts.toArray.map fun x => (x.1, a.eval x.2)).toList = parts.map fun p => (p.1, a.eval p.2) := by simp
  rw [e, hpe, hfr]
  rfl
theorem qslA {T E : TypeId} {m hi b off : Nat} {o2 : Option Operand} {i2 : Option Nat} {ei : TypeInfo} (hx : ev l x = some (gx, .pointer (some ⟨b, off, none⟩))) (hu : P.underlying T = some (.array m E)) (hi' : P.info? E = some ei)
    (hG : gd ops l gu = some G) (hpx : G = gx ++ ex) (hn : Nat.blt d n = true) (h2 : bnd l G o2 i2) (e2 : i2.getD m = hi) (hb : Nat.ble hi m = true) (h0 : m ≠ 0)
    (h : Qo P R ds n ops C ((d, G, .slice (some ⟨b, off, none⟩) hi m) :: l) os k) :
    Qo P R ds n ops C l ({ dst := some d, op := .slice T x none o2 none, type := ty, pos := ps, after := af, guard := gu } :: os) k := by
  have hb' : hi ≤ m := Nat.le_of_ble_eq_true hb
  refine qopv hG rfl hn ?_ h
  intro hT w hw a ha
  obtain ⟨k2, q2⟩ := bnd_eval ha hT h2
  simp only [execOp, ha.eval hx (pre_T hpx hT), Option.map_none, q2]
  cases i2 with
  | none =>
    simp only [Option.getD_none] at e2; subst e2
    simp [Instr.sliceAt, run_underlying hu, Instr.sureAddr, Instr.sliceBounds, sizeOf, typeInfo, hi', h0, add_new]
  | some i2 =>
    simp only [Option.getD_some] at e2; subst e2
    simp [Instr.sliceAt, run_underlying hu, Instr.sureAddr, Instr.sliceBounds, sizeOf, typeInfo, hi', h0, sb_run (P := P) hb', add_new]
theorem qeqB {t yt : TypeId} {a b : Bool} (hx : ev l x = some (gx, .bool a)) (hy : ev l y = some (gy, .bool b)) (ht : P.underlying t = some .bool) (hG : gd ops l gu = some G) (hpx : G = gx ++ ex) (hpy : G = gy ++ ey) (hn : Nat.blt d n = true)
    (h : Qo P R ds n ops C ((d, G, .bool (a == b)) :: l) os k) :
    Qo P R ds n ops C l ({ dst := some d, op := .binOp .eql t x y yt, type := ty, pos := ps, after := af, guard := gu } :: os) k :=
  qbin hx hy hG hpx hpy hn (fun _ w => by
    have h2 : eqGuard .eql t x y (.bool a) (.bool b) = pure () := by unfold eqGuard; rfl
    rw [h2]
    simp [binOp, run_equal_bool w t a b ht]) h
theorem qldB {T : TypeId} {tsz : Nat} {zc : List Value} {v : Value} {bs : List Int} {j : Nat} (hx : ev l x = some (gx, eP v j)) (hB : BS N0 w0 v bs) (S : ∀ w, C w → St N0 w0 L w) (hT : TyI P T tsz false zc)
    (hG : gd ops l gu = some G) (hpx : G = gx ++ ex) (hn : Nat.blt d n = true) (hj : allT G → j < bs.length)
    (h : ∀ q, q = bs.getD j 0 → 0 ≤ q ∧ q < 256 → Qo P R ds n ops C ((d, G, .int .u8 q) :: l) os k) :
    Qo P R ds n ops C l ({ dst := some d, op := .load T x, type := ty, pos := ps, after := af, guard := gu } :: os) k :=
  qldE hx hB.2 S hT hG hpx hn (fun hT => bs_cell (hj hT)) (h _ rfl (byt_getD hB.1 j))
end op
end Go.Proofs.YtkahmepenjhcpaaDoor.W
/- The base of this seat's proofs, ninth part: slices of one's own of bytes, numbers, options, slices. No statement of the seat is proved here. -/
namespace Go.Proofs.YtkahmepenjhcpaaDoor.W
open Go
set_option linter.unusedSimpArgs false
abbrev oB (v : Value) (l : List Int) : Own := .row v 5 1 l.length (l.map u8)
abbrev oI (v : Value) (l : List Int) : Own := .row v 3 1 l.length (l.map i64)
abbrev oS (v : Value) (vs : List Value) : Own := .row v 26 1 vs.length vs
abbrev oO (v : Value) (os : List Opt) (ds : List Value) : Own := .row v 93 2 os.length (optC os ds)
section st
variable {w w0 : World} {N0 : List Nat} {L L1 L2 : List Own}
theorem St.bsI {v : Value} {l : List Int} {i : Nat} (S : St N0 w0 L w) (hk : getN L i = some (oB v l)) (hb : byt l) : BS [] w v l := ⟨hb, S.slI hk⟩
theorem St.isI {v : Value} {l : List Int} {i : Nat} (S : St N0 w0 L w) (hk : getN L i = some (oI v l)) : IS [] w v l := S.slI hk
theorem St.nilB (S : St N0 w0 L w) : St N0 w0 (oB (.slice none 0 0) [] :: L) w := S.nilRow 5 1
theorem St.nilI (S : St N0 w0 L w) : St N0 w0 (oI (.slice none 0 0) [] :: L) w := S.nilRow 3 1
theorem St.nilS (S : St N0 w0 L w) : St N0 w0 (oS (.slice none 0 0) [] :: L) w := S.nilRow 26 1
theorem St.nilO (S : St N0 w0 L w) : St N0 w0 (oO (.slice none 0 0) [] [] :: L) w := S.nilRow 93 2
end st
theorem BS.nil (N : List Nat) (w : World) : BS N w (.slice none 0 0) [] := ⟨byt_nil, rfl, none, 0, rfl, Nat.le_refl _, fun _ => rfl, Rd.self rfl⟩
theorem OS.nil (N : List Nat) (w : World) : OS N w (.slice none 0 0) [] := ⟨[], ⟨rfl, none, 0, rfl, Nat.le_refl _, fun _ => rfl, Rd.self rfl⟩, trivial⟩
section op
variable {P : Program} {R : Qp} {ds : List Deferred} {n : Nat} {l : Env} {k : List KI} {w w0 : World} {ops : Array Oper} {os : List Oper}
variable {d d1 d2 : Nat} {ty ty1 ty2 : TypeId} {ps ps1 ps2 : String} {af af1 af2 : Array Edge} {x y z : Operand} {N0 : List Nat} {L L' : List Own}
theorem St.eqv {L L' : List Own} (S : St N0 w0 L w) (h : L = L') : St N0 w0 L' w := h ▸ S
/-- append of bytes to bytes of one's own -/
theorem apB {T : TypeId} {zc : List Value} {i : Nat} {v q : Value} {a b : List Int} {L' : Value → List Own} (hx : ev l x = some ([], v)) (hy : ev l y = some ([], q)) (hE : ElT P T 5 1 1 zc)
    (hq : BS [] w q b) (S : St N0 w0 L w) (hk : getN L i = some (oB v a)) (hn : Nat.blt d n = true)
    (hL : ∀ v', setN L i (oB v' (a ++ b)) = some (L' v')) (hroom : a.length + b.length ≤ 140737488355328)
    (h : ∀ v' w', St N0 w0 (L' v') w' → w.heap.size ≤ w'.heap.size → Ro P R ds n ops ((d, [], v') :: l) os k w') :
    Ro P R ds n ops l ({ dst := some d, op := .call { callee := .builtin .append, args := #[x, y], argTypes := #[T, T] }, type := ty, pos := ps, after := af, guard := none } :: os) k w :=
  ap hx hy hE hq.2 (one_u8 b) S hk hn (fun v' => by have := hL v'; simpa [oB] using this) (by omega) (by simp only [maxLen]; omega) h
/-- append to a slice of one's own of given elements -/
theorem apF {T E : TypeId} {sz by_ m len i : Nat} {zc xs c : List Value} {v : Value} {parts : List (Nat × Operand)} {qs : List (Nat × List Value)} {L' : Value → List Own} (hx : ev l x = some ([], v)) (hE : ElT P T E sz by_ zc)
    (hp : Pts l [] (fun i => some (i * sz, sz)) parts qs) (hlen : Nat.ble (len * sz) 16777216 = true) (hf : fillN (List.replicate len zc).flatten qs = some c) (hcl : c.length = len * sz) (h1 : ∀ e ∈ c, e.oneCell' = true)
    (S : St N0 w0 L w) (hk : getN L i = some (.row v E sz m xs)) (hn1 : Nat.blt d1 n = true) (hn : Nat.blt d n = true) (hne : ∀ t, x = .tmp t → Nat.beq d1 t = false)
    (hL : ∀ v', setN L i (.row v' E sz (m + len) (xs ++ c)) = some (L' v')) (hroom : (m + len) * by_ ≤ 140737488355328) (hmax : m + len ≤ maxLen)
    (h : ∀ u v' w', St N0 w0 (L' v') w' → w.heap.size ≤ w'.heap.size → Ro P R ds n ops ((d, [], v') :: (d1, [], u) :: l) os k w') :
    Ro P R ds n ops l ({ dst := some d1, op := .buildSlice T len parts.toArray, type := ty1, pos := ps1, after := af1, guard := none } ::
      { dst := some d, op := .call { callee := .builtin .append, args := #[x, .tmp d1], argTypes := #[T, T] }, type := ty, pos := ps, after := af, guard := none } :: os) k w := by
  refine bsl hE hp hlen hf hcl hn1 S ?_
  intro u w1 S1 B1
  have hx' : ev ((d1, [], u) :: l) x = some ([], v) := by
    cases x with
    | tmp t => simp only [ev, lk, hne t rfl, cond_false]; exact hx
    | const _ => exact hx
    | global _ => exact hx
    | func _ => exact hx
  have hu : ev ((d1, [], u) :: l) (.tmp d1) = some ([], u) := by simp [ev, lk]
  refine ap (i := i + 1) (L' := fun v' => .row u E sz len c :: L' v') hx' hu hE (S1.slI (i := 0) rfl) h1 S1 hk hn (fun v' => by simp only [setN, hL v']) hroom hmax ?_
  intro v' w' S2 hsz
  exact h u v' w' S2.drop0 (Nat.le_trans B1.size hsz)
/-- append of given bytes -/
theorem apBF {T : TypeId} {zc : List Value} {len i : Nat} {v : Value} {a b : List Int} {parts : List (Nat × Operand)} {qs : List (Nat × List Value)} {L' : Value → List Own} (hx : ev l x = some ([], v)) (hE : ElT P T 5 1 1 zc)
    (hp : Pts l [] (fun i => some (i * 1, 1)) parts qs) (hlen : Nat.ble (len * 1) 16777216 = true) (hf : fillN (List.replicate len zc).flatten qs = some (b.map u8)) (hcl : b.length = len)
    (S : St N0 w0 L w) (hk : getN L i = some (oB v a)) (hn1 : Nat.blt d1 n = true) (hn : Nat.blt d n = true) (hne : ∀ t, x = .tmp t → Nat.beq d1 t = false)
    (hL : ∀ v', setN L i (oB v' (a ++ b)) = some (L' v')) (hroom : a.length + len ≤ 140737488355328)
    (h : ∀ u v' w', St N0 w0 (L' v') w' → w.heap.size ≤ w'.heap.size → Ro P R ds n ops ((d, [], v') :: (d1, [], u) :: l) os k w') :
    Ro P R ds n ops l ({ dst := some d1, op := .buildSlice T len parts.toArray, type := ty1, pos := ps1, after := af1, guard := none } ::
      { dst := some d, op := .call { callee := .builtin .append, args := #[x, .tmp d1], argTypes := #[T, T] }, type := ty, pos := ps, after := af, guard := none } :: os) k w := by
  subst hcl
  exact apF hx hE hp hlen hf (by simp) (one_u8 b) S hk hn1 hn hne (fun v' => by have := hL v'; simpa [oB] using this) (by omega) (by simp only [maxLen]; omega) h
/-- append of given numbers -/
theorem apIF {T : TypeId} {zc : List Value} {len i : Nat} {v : Value} {a b : List Int} {parts : List (Nat × Operand)} {qs : List (Nat × List Value)} {L' : Value → List Own} (hx : ev l x = some ([], v)) (hE : ElT P T 3 1 8 zc)
    (hp : Pts l [] (fun i => some (i * 1, 1)) parts qs) (hlen : Nat.ble (len * 1) 16777216 = true) (hf : fillN (List.replicate len zc).flatten qs = some (b.map i64)) (hcl : b.length = len)
    (S : St N0 w0 L w) (hk : getN L i = some (oI v a)) (hn1 : Nat.blt d1 n = true) (hn : Nat.blt d n = true) (hne : ∀ t, x = .tmp t → Nat.beq d1 t = false)
    (hL : ∀ v', setN L i (oI v' (a ++ b)) = some (L' v')) (hroom : a.length + len ≤ 17592186044416)
    (h : ∀ u v' w', St N0 w0 (L' v') w' → w.heap.size ≤ w'.heap.size → Ro P R ds n ops ((d, [], v') :: (d1, [], u) :: l) os k w') :
    Ro P R ds n ops l ({ dst := some d1, op := .buildSlice T len parts.toArray, type := ty1, pos := ps1, after := af1, guard := none } ::
      { dst := some d, op := .call { callee := .builtin .append, args := #[x, .tmp d1], argTypes := #[T, T] }, type := ty, pos := ps, after := af, guard := none } :: os) k w := by
  subst hcl
  exact apF hx hE hp hlen hf (by simp) (one_i64 b) S hk hn1 hn hne (fun v' => by have := hL v'; simpa [oI] using this) (by omega) (by simp only [maxLen]; omega) h
/-- append of one slice to slices -/
theorem apSF {T : TypeId} {zc : List Value} {i : Nat} {v q : Value} {vs : List Value} {parts : List (Nat × Operand)} {qs : List (Nat × List Value)} {L' : Value → List Own} (hx : ev l x = some ([], v)) (hE : ElT P T 26 1 24 zc)
    (hp : Pts l [] (fun i => some (i * 1, 1)) parts qs) (hf : fillN (List.replicate 1 zc).flatten qs = some [q]) (h1 : q.oneCell' = true)
    (S : St N0 w0 L w) (hk : getN L i = some (oS v vs)) (hn1 : Nat.blt d1 n = true) (hn : Nat.blt d n = true) (hne : ∀ t, x = .tmp t → Nat.beq d1 t = false)
    (hL : ∀ v', setN L i (oS v' (vs ++ [q])) = some (L' v')) (hroom : (vs.length + 1) * 24 ≤ 140737488355328)
    (h : ∀ u v' w', St N0 w0 (L' v') w' → w.heap.size ≤ w'.heap.size → Ro P R ds n ops ((d, [], v') :: (d1, [], u) :: l) os k w') :
    Ro P R ds n ops l ({ dst := some d1, op := .buildSlice T 1 parts.toArray, type := ty1, pos := ps1, after := af1, guard := none } ::
      { dst := some d, op := .call { callee := .builtin .append, args := #[x, .tmp d1], argTypes := #[T, T] }, type := ty, pos := ps, after := af, guard := none } :: os) k w :=
  apF hx hE hp (by decide) hf rfl (one_cons h1 one_nil) S hk hn1 hn hne (fun v' => by have := hL v'; simpa [oS] using this) (by omega) (by simp only [maxLen]; omega) h
/-- append of one option -/
theorem apOF {T : TypeId} {zc : List Value} {i : Nat} {v q : Value} {kd : Int} {dt : List Int} {ol : List Opt} {vs : List Value} {parts : List (Nat × Operand)} {qs : List (Nat × List Value)} {L' : Value → List Own} (hx : ev l x = some ([], v)) (hE : ElT P T 93 2 32 zc)
    (hp : Pts l [] (fun i => some (i * 2, 2)) parts qs) (hf : fillN (List.replicate 1 zc).flatten qs = some [i64 kd, q]) (h1 : q.oneCell' = true) (hl : vs.length = ol.length)
    (S : St N0 w0 L w) (hk : getN L i = some (oO v ol vs)) (hn1 : Nat.blt d1 n = true) (hn : Nat.blt d n = true) (hne : ∀ t, x = .tmp t → Nat.beq d1 t = false)
    (hL : ∀ v', setN L i (oO v' (ol ++ [⟨kd, dt⟩]) (vs ++ [q])) = some (L' v')) (hroom : (ol.length + 1) * 32 ≤ 140737488355328)
    (h : ∀ u v' w', St N0 w0 (L' v') w' → w.heap.size ≤ w'.heap.size → Ro P R ds n ops ((d, [], v') :: (d1, [], u) :: l) os k w') :
    Ro P R ds n ops l ({ dst := some d1, op := .buildSlice T 1 parts.toArray, type := ty1, pos := ps1, after := af1, guard := none } ::
      { dst := some d, op := .call { callee := .builtin .append, args := #[x, .tmp d1], argTypes := #[T, T] }, type := ty, pos := ps, after := af, guard := none } :: os) k w :=
  apF hx hE hp (by decide) hf rfl (one_cons rfl (one_cons h1 one_nil)) S hk hn1 hn hne (fun v' => by
    have := hL v'
    rw [oO, optC_app hl] at this
    simpa [optC] using this) (by omega) (by simp only [maxLen]; omega) h
end op
/-- an element of an array's value -/
theorem ixv {P : Program} {R : Qp} {ds : List Deferred} {n : Nat} {l : Env} {k : List KI} {w : World} {ops : Array Oper} {os : List Oper} {d : Nat} {ty : TypeId} {ps : String} {af : Array Edge} {x y : Operand}
    {T E : TypeId} {m : Nat} {cs : Array Value} {zc : List Value} {kd : IntKind} {i : Int} {u : Value} (hx : ev l x = some ([], .agg cs)) (hy : ev l y = some ([], .int kd i)) (hu : P.underlying T = some (.array m E)) (hE : TyI P E 1 false zc)
    (hn : Nat.blt d n = true) (hb : 0 ≤ i ∧ i < m) (hv : cs[i.toNat]? = some u) (h : Ro P R ds n ops ((d, [], u) :: l) os k w) :
    Ro P R ds n ops l ({ dst := some d, op := .index T x y, type := ty, pos := ps, after := af, guard := none } :: os) k w := by
  obtain ⟨i', z, dd, h1, h2, h3, h4, h5, h6⟩ := hE.get
  refine opw rfl rfl hn ?_ h
  intro a ha
  have hag : (isAgg E).run P w = .ok false w := by
    simp only [isAgg]
    cases dd <;> simp [aggD] at h6 <;> simp [run_underlying h5]
  simp [execOp, ha.eval hx trivial, ha.eval hy trivial, Instr.index, asIntOf, run_underlying hu, hb.1, hb.2, sizeOf, typeInfo, h1, h2, part, hag, hv]
/-- what is made new for the caller: bytes -/
def FB (w w' : World) (v : Value) (l : List Int) : Prop := Bl w w' ∧ (oB v l).holds w' ∧ ∀ i ∈ (oB v l).ids, w.heap.size ≤ i
theorem St.fb {N0 : List Nat} {w0 w w' : World} {L : List Own} {v : Value} {l : List Int} (S : St N0 w0 L w) (h : FB w w' v l) : St N0 w0 (oB v l :: L) w' :=
  S.new h.1 h.2.1 h.2.2 (Own.ids_nodup _)
theorem St.toFB {w0 w : World} {L : List Own} {v : Value} {l : List Int} {i : Nat} (S : St [] w0 L w) (hk : getN L i = some (oB v l)) : FB w0 w v l := by
  refine ⟨S.bl, S.rowI hk, fun j hj => ?_⟩
  rw [getN_eq] at hk
  rcases Nat.lt_or_ge j w0.heap.size with h | h
  · exact absurd (List.mem_flatMap.2 ⟨_, List.mem_of_getElem? hk, hj⟩) (S.off j h (by simp))
  · exact h
theorem Rd.bl {N : List Nat} {w w' : World} {A : Option Addr} {cs : List Value} (h : Rd N w A cs) (B : Bl w w') : Rd N w' A cs := fun i hi =>
  let ⟨a, h1, h2, h3, h4⟩ := h i hi; ⟨a, h1, h2, h3, (cell_congr (B.block _ (cell_lt h4))).trans h4⟩
theorem Sl.bl {N : List Nat} {w w' : World} {sz m : Nat} {v : Value} {cs : List Value} (h : Sl N w sz v m cs) (B : Bl w w') : Sl N w' sz v m cs :=
  let ⟨h0, A, cap, h1, h2, h3, h4⟩ := h; ⟨h0, A, cap, h1, h2, h3, h4.bl B⟩
theorem BS.bl {N : List Nat} {w w' : World} {v : Value} {l : List Int} (h : BS N w v l) (B : Bl w w') : BS N w' v l := ⟨h.1, h.2.bl B⟩
theorem BSs.bl {N : List Nat} {w w' : World} (B : Bl w w') : ∀ {vs : List Value} {ls : List (List Int)}, BSs N w vs ls → BSs N w' vs ls
  | [], [], h => h
  | [], _ :: _, h => h.elim
  | _ :: _, [], h => h.elim
  | _ :: _, _ :: _, h => ⟨h.1.bl B, BSs.bl B h.2⟩
theorem OS.bl {N : List Nat} {w w' : World} {v : Value} {os : List Opt} (h : OS N w v os) (B : Bl w w') : OS N w' v os :=
  let ⟨vs, h1, h2⟩ := h; ⟨vs, h1.bl B, BSs.bl B h2⟩
/-! ### cuts of bytes, their values told -/
def cut : Value → Nat → Nat → Nat → Value
  | .slice A _ _, lo, hi, mx => .slice (if mx = lo then A else A.map (·.add lo)) (hi - lo) (mx - lo)
  | v, _, _, _ => v
theorem cut_run {P : Program} {T E : TypeId} {by_ : Nat} {zc : List Value} {N0 : List Nat} {w0 : World} {v : Value} {bs : List Int} (hS : BS N0 w0 v bs) (hE : ElT P T E 1 by_ zc) {lo hi mx : Nat} (hb : lo ≤ hi ∧ hi ≤ bs.length ∧ hi ≤ mx ∧ mx ≤ capV v)
    (w : World) (a : Act) {ds : List Deferred} {n : Nat} {l : Env} {G gx : Gs} {x : Operand} {d : Nat} {ty : TypeId} {ps : String} {af : Array Edge} {gu : Option (Nat × Bool)}
    {o1 o2 o3 : Option Operand} {i1 i2 i3 : Option Nat} (ha : En ds n l a) (hTx : allT gx) (hT : allT G) (hx : ev l x = some (gx, v)) (h1 : bnd l G o1 i1) (h2 : bnd l G o2 i2) (h3 : bnd l G o3 i3)
    (e1 : i1.getD 0 = lo) (e2 : i2.getD bs.length = hi) (e3 : i3.getD (capV v) = mx) (h23 : i3.isSome = true → i2.isSome = true) :
    (execOp a.eval { dst := some d, op := .slice T x o1 o2 o3, type := ty, pos := ps, after := af, guard := gu }).run P w = .ok (.value (cut v lo hi mx)) w ∧ BS N0 w0 (cut v lo hi mx) ((bs.drop lo).take (hi - lo)) := by
  obtain ⟨v', f1, f2, f3⟩ := slX hS.2 hE lo hi mx hb
  have hr := f3 w a (d := d) (ty := ty) (ps := ps) (af := af) (gu := gu) ha hTx hT hx h1 h2 h3 e1 e2 e3 h23
  have e : v' = cut v lo hi mx := by
    -- both are read off the operation's run
    obtain ⟨i, z, g1, g2, g3, g4, g5⟩ := hE.get
    obtain ⟨b1, b2, b3, b4⟩ := hb
    obtain ⟨_, _, A, cap, rfl, hmc, _⟩ := hS
    obtain ⟨k1, q1⟩ := bnd_eval ha hT h1
    obtain ⟨k2, q2⟩ := bnd_eval ha hT h2
    obtain ⟨k3, q3⟩ := bnd_eval ha hT h3
    simp only [execOp, ha.eval hx hTx, q1, q2, q3] at hr
    have hsb : (Instr.sliceBounds true bs.length cap (i1.map fun (i : Nat) => Value.int k1 (i : Int)) (i2.map fun (i : Nat) => Value.int k2 (i : Int)) (i3.map fun (i : Nat) => Value.int k3 (i : Int))).run P w = .ok (lo, hi, mx) w := by
      simp only [capV] at b4 e3
      cases i3 with
      | none =>
        simp only [Option.getD_none] at e3; subst e3
        cases i2 with
        | none =>
          simp only [Option.getD_none] at e2; subst e2
          cases i1 with
          | none => simp only [Option.getD_none] at e1; subst e1; simp [Instr.sliceBounds]
          | some i1 => simp only [Option.getD_some] at e1; subst e1; simp [Instr.sliceBounds, sb_run (P := P) b1]
        | some i2 =>
          simp only [Option.getD_some] at e2; subst e2
          cases i1 with
          | none => simp only [Option.getD_none] at e1; subst e1; simp [Instr.sliceBounds, sb_run (P := P) b3]
          | some i1 => simp only [Option.getD_some] at e1; subst e1; simp [Instr.sliceBounds, sb_run (P := P) b1, sb_run (P := P) b3]
      | some i3 =>
        simp only [Option.getD_some] at e3; subst e3
        cases i2 with
        | none => simp at h23
        | some i2 =>
          simp only [Option.getD_some] at e2; subst e2
          cases i1 with
          | none => simp only [Option.getD_none] at e1; subst e1; simp [Instr.sliceBounds, sb_run (P := P) b3, sb_run (P := P) b4]
          | some i1 => simp only [Option.getD_some] at e1; subst e1; simp [Instr.sliceBounds, sb_run (P := P) b1, sb_run (P := P) b3, sb_run (P := P) b4]
    have hsz : (sizeOf E).run P w = .ok 1 w := by simp [sizeOf, typeInfo, g1, g2]
    simp [Instr.sliceAt, Instr.slice, run_underlying hE.u, hsb, hsz] at hr
    rw [← hr]
    simp [cut]
  subst e
  refine ⟨hr, byt_take (byt_drop hS.1 _) _, ?_⟩
  rw [map_drop_take] at f1
  have hl : ((bs.drop lo).take (hi - lo)).length = hi - lo := by simp; omega
  rw [hl]; exact f1
theorem BS.cut {N0 : List Nat} {w0 : World} {v : Value} {bs : List Int} (hS : BS N0 w0 v bs) {lo hi mx : Nat} (hb : lo ≤ hi ∧ hi ≤ bs.length ∧ hi ≤ mx ∧ mx ≤ capV v) : BS N0 w0 (W.cut v lo hi mx) ((bs.drop lo).take (hi - lo)) := by
  let l : Env := [(0, [], v), (1, [], .int .i64 lo), (2, [], .int .i64 hi), (3, [], .int .i64 mx)]
  let a : Act := { tmps := #[v, .int .i64 lo, .int .i64 hi, .int .i64 mx], defers := [] }
  have ha : En [] 4 l a := ⟨rfl, rfl, fun t g u h => by
    simp only [l, lk] at h
    rcases t with _ | _ | _ | _ | t <;> simp [Nat.beq] at h <;> obtain ⟨rfl, rfl⟩ := h <;> rfl⟩
  exact (cut_run (P := Tryd.prog) (T := 26) (d := 0) (ty := 0) (ps := "") (af := #[]) (gu := none) (G := []) (gx := []) (x := .tmp 0) (o1 := some (.tmp 1)) (o2 := some (.tmp 2)) (o3 := some (.tmp 3)) (i1 := some lo) (i2 := some hi) (i3 := some mx)
    hS e26 hb w0 a ha trivial trivial rfl ⟨[], [], .i64, rfl, rfl⟩ ⟨[], [], .i64, rfl, rfl⟩ ⟨[], [], .i64, rfl, rfl⟩ rfl rfl rfl (fun _ => rfl)).2
theorem BS.cutCap {N0 : List Nat} {w0 : World} {v : Value} {bs : List Int} (hS : BS N0 w0 v bs) {lo hi mx : Nat} : capV (W.cut v lo hi mx) = mx - lo := by
  obtain ⟨_, _, A, cap, rfl, _⟩ := hS; rfl
section op
variable {P : Program} {R : Qp} {ds : List Deferred} {n : Nat} {l : Env} {k : List KI} {w w0 : World} {C : World → Prop} {ops : Array Oper} {os : List Oper}
variable {d : Nat} {G gx ex : Gs} {ty : TypeId} {ps : String} {af : Array Edge} {gu : Option (Nat × Bool)} {x : Operand} {N0 : List Nat}
theorem slC {T E : TypeId} {by_ : Nat} {zc : List Value} {v : Value} {bs : List Int} {o1 o2 o3 : Option Operand} {i1 i2 i3 : Option Nat} {lo hi mx : Nat}
    (hx : ev l x = some (gx, v)) (hS : BS N0 w0 v bs) (hE : ElT P T E 1 by_ zc) (hG : gd ops l gu = some G) (hpx : G = gx ++ ex) (hn : Nat.blt d n = true)
    (h1 : bnd l G o1 i1) (h2 : bnd l G o2 i2) (h3 : bnd l G o3 i3) (e1 : i1.getD 0 = lo) (e2 : i2.getD bs.length = hi) (e3 : i3.getD (capV v) = mx) (h23 : i3.isSome = true → i2.isSome = true)
    (hb : allT G → lo ≤ hi ∧ hi ≤ bs.length ∧ hi ≤ mx ∧ mx ≤ capV v) (h : Ro P R ds n ops ((d, G, cut v lo hi mx) :: l) os k w) :
    Ro P R ds n ops l ({ dst := some d, op := .slice T x o1 o2 o3, type := ty, pos := ps, after := af, guard := gu } :: os) k w :=
  opv hG rfl hn (fun hT a ha => (cut_run hS hE (hb hT) w a ha (pre_T hpx hT) hT hx h1 h2 h3 e1 e2 e3 h23).1) h
theorem qslC {T E : TypeId} {by_ : Nat} {zc : List Value} {v : Value} {bs : List Int} {o1 o2 o3 : Option Operand} {i1 i2 i3 : Option Nat} {lo hi mx : Nat}
    (hx : ev l x = some (gx, v)) (hS : BS N0 w0 v bs) (hE : ElT P T E 1 by_ zc) (hG : gd ops l gu = some G) (hpx : G = gx ++ ex) (hn : Nat.blt d n = true)
    (h1 : bnd l G o1 i1) (h2 : bnd l G o2 i2) (h3 : bnd l G o3 i3) (e1 : i1.getD 0 = lo) (e2 : i2.getD bs.length = hi) (e3 : i3.getD (capV v) = mx) (h23 : i3.isSome = true → i2.isSome = true)
    (hb : allT G → lo ≤ hi ∧ hi ≤ bs.length ∧ hi ≤ mx ∧ mx ≤ capV v) (h : Qo P R ds n ops C ((d, G, cut v lo hi mx) :: l) os k) :
    Qo P R ds n ops C l ({ dst := some d, op := .slice T x o1 o2 o3, type := ty, pos := ps, after := af, guard := gu } :: os) k :=
  qopv hG rfl hn (fun hT w _ a ha => (cut_run hS hE (hb hT) w a ha (pre_T hpx hT) hT hx h1 h2 h3 e1 e2 e3 h23).1) h
/-- a byte of one's own slice is written -/
theorem stB {T : TypeId} {zc : List Value} {ag : Bool} {j i : Nat} {v : Value} {q : Int} {a : List Int} {x y : Operand} {L L' : List Own} (hx : ev l x = some ([], eP v (j * 1))) (hy : ev l y = some ([], .int .u8 q)) (hT : TyI P T 1 ag zc) (S : St N0 w0 L w)
    (hk : getN L i = some (oB v a)) (hj : j < a.length) (hL : setN L i (oB v (a.set j q)) = some L')
    (h : ∀ w', St N0 w0 L' w' → Ro P R ds n ops l os k w') :
    Ro P R ds n ops l ({ dst := none, op := .store T x y, type := ty, pos := ps, after := af, guard := none } :: os) k w :=
  stE hx hy hT rfl S hk (by omega) (by have := hL; simpa [oB, List.map_set, Nat.mul_one] using this) h
end op
def FI (w w' : World) (v : Value) (l : List Int) : Prop := Bl w w' ∧ (oI v l).holds w' ∧ ∀ i ∈ (oI v l).ids, w.heap.size ≤ i
theorem St.fi {N0 : List Nat} {w0 w w' : World} {L : List Own} {v : Value} {l : List Int} (S : St N0 w0 L w) (h : FI w w' v l) : St N0 w0 (oI v l :: L) w' :=
  S.new h.1 h.2.1 h.2.2 (Own.ids_nodup _)
theorem St.fresh {w0 w : World} {L : List Own} {o : Own} {i : Nat} (S : St [] w0 L w) (hk : getN L i = some o) : ∀ j ∈ o.ids, w0.heap.size ≤ j := by
  intro j hj
  rw [getN_eq] at hk
  rcases Nat.lt_or_ge j w0.heap.size with h | h
  · exact absurd (List.mem_flatMap.2 ⟨_, List.mem_of_getElem? hk, hj⟩) (S.off j h (by simp))
  · exact h
theorem St.toFI {w0 w : World} {L : List Own} {v : Value} {l : List Int} {i : Nat} (S : St [] w0 L w) (hk : getN L i = some (oI v l)) : FI w0 w v l := ⟨S.bl, S.rowI hk, S.fresh hk⟩
/-! ### a deferred call -/
theorem enterD {P : Program} {f : FuncId} {fn : Func} {c : Code} {n : Nat} {args : List Value} {l : Env} {w : World} {Rr : Value → World → Prop}
    (hf : P.funcs[f]? = some fn) (hb : fn.body = some c) (hn : fn.ntmps = n) (hl : penv 0 args = l) (hsz : Nat.ble args.length n = true)
    (h : Run P (bodyPostD P fn (RV Rr)) [] n l c [] w) : CallsV P f args.toArray w Rr := by
  subst hl
  have hsz' : args.length ≤ n := Nat.le_of_ble_eq_true hsz
  refine calls_of_wp_defers hf hb (h _ ⟨rfl, by simp [hn]; omega, ?_⟩)
  intro t g v ht
  obtain ⟨_, rfl, h3⟩ := lk_penv args 0 ht
  have hlt : t < args.length := by
    rcases Nat.lt_or_ge t args.length with h | h
    · exact h
    · rw [Nat.sub_zero, List.getElem?_eq_none h] at h3; cases h3
  rw [Array.getElem?_append_left (by simpa using hlt), gval_nil]
  simpa using h3
section dfr
variable {P : Program} {R : Qp} {ds : List Deferred} {n : Nat} {l : Env} {k : List KI} {w w0 : World} {ops : Array Oper} {os : List Oper}
variable {d : Nat} {ty : TypeId} {ps : String} {af : Array Edge} {x : Operand} {N0 : List Nat}
theorem mkf {f : FuncId} {xs : List Operand} {vs : List Value} (hx : Evs l [] xs vs) (hn : Nat.blt d n = true) (h : Ro P R ds n ops ((d, [], .func (.func f) #[] vs.toArray) :: l) os k w) :
    Ro P R ds n ops l ({ dst := some d, op := .makeFunc (.func f) #[] xs.toArray, type := ty, pos := ps, after := af, guard := none } :: os) k w :=
  opw rfl rfl hn (fun a ha => by
    have := Evs.eval ha (show allT [] from trivial) hx
    have e : xs.toArray.map a.eval = vs.toArray := by rw [← this]; simp
    simp [execOp, e, Instr.makeFunc]) h
theorem dfr {f : FuncId} {caps : Array Value} (hx : ev l x = some ([], .func (.func f) #[] caps)) (h : Ro P R ({ target := .fn (.func f) caps, args := #[] } :: ds) n ops l os k w) :
    Ro P R ds n ops l ({ dst := none, op := .defer { callee := .value x, args := #[], argTypes := #[] }, type := ty, pos := ps, after := af, guard := none } :: os) k w := by
  intro a ha
  refine wpList_of (fun hw => ?_) (fun hw => ?_)
  · have hr : (execOp a.eval { dst := none, op := .defer { callee := .value x, args := #[], argTypes := #[] }, type := ty, pos := ps, after := af, guard := none }).run P w = .ok (.defer { target := .fn (.func f) caps, args := #[] }) w := by
      simp [execOp, resolve, ha.eval hx trivial, Deferred.ofValue]
    simp only [Oper.wp, hr, Oper.upon, Act.put]
    exact h _ ⟨by simp [ha.defers], ha.size, ha.at_⟩
  · simp [Region.wanted] at hw
end dfr
end Go.Proofs.YtkahmepenjhcpaaDoor.W
/- Contracts of small functions. No statement of the seat is proved here. -/
namespace Go.Proofs.YtkahmepenjhcpaaDoor.W
open Go
set_option linter.unusedSimpArgs false
set_option linter.unusedVariables false
/-- may data of n bytes be a fragment's? -/
def fragE (mf : Bool) (off n : Int) : Int := if (mf && (decide (n = 0) || decide (n % 8 ≠ 0))) || decide (65515 < off + n) then 66 else 0
set_option maxHeartbeats 1000000 in
theorem c100 (mf : Bool) (off n : Int) (w : World) (h : 0 ≤ off ∧ off ≤ 1000000 ∧ 0 ≤ n ∧ n ≤ 1000000) :
  CallsD Tryd.prog 100 #[.bool mf, .int .i64 off, .int .i64 n] w (.int .i64 (fragE mf off n)) := by
 refine enter Tryd.func100 rfl Tryd.ntmps100 (l := [(0, [], _), (1, [], _), (2, [], _)]) rfl rfl ?_
 have S := St.refl [] w
 refine Run.seq ?_
 refine Run.region ?_
 refine asg1 rfl rfl ?_
 refine Ro.nil ?_
 refine Nrm.code ?_
 refine Run.seq ?_
 refine Run.seq ?_
 refine Run.region ?_
 refine mv1 rfl rfl ?_
 refine mv1 rfl rfl ?_
 refine mv rfl rfl rfl rfl ?_
 refine eql rfl rfl rfl rfl rfl rfl ?_
 refine mv rfl rfl rfl rfl ?_
 refine mv rfl rfl rfl rfl ?_
 refine rem rfl rfl rfl rfl rfl rfl (fun hG => by first | exact by decide | (simp [allT] at hG; exact by decide)) (fun hG => by first | exact r64 (by omega) | (simp [allT] at hG; exact r64 (by omega))) ?_
 refine neq rfl rfl rfl rfl rfl rfl ?_
 refine pkO rfl rfl rfl rfl rfl rfl ?_
 refine pkA rfl rfl rfl rfl rfl rfl ?_
 refine mv1 rfl rfl ?_
 refine mv rfl rfl rfl rfl ?_
 refine mv rfl rfl rfl rfl ?_
 refine add rfl rfl rfl rfl rfl rfl (fun hG => by first | exact w64 (by omega) | (simp [allT] at hG; exact w64 (by omega))) ?_
 refine gtr rfl rfl rfl rfl rfl rfl ?_
 refine pkO rfl rfl rfl rfl rfl rfl ?_
 refine Ro.nil ?_
 refine Nrm.code ?_
 refine Run.cond rfl (fun hc1 => ?_) (fun hc1 => ?_)
 ·
  refine Run.seq ?_
  refine Run.region ?_
  refine asg1 rfl rfl ?_
  refine Ro.nil ?_
  refine Nrm.code ?_
  refine Run.ret ?_
  refine Rt.one rfl rfl ?_
  exact ⟨by simp only [fragE]; rw [hc1]; rfl, S.bl⟩
 ·
  refine Run.skip ?_
  refine Nrm.code ?_
  refine Run.seq ?_
  refine Run.region ?_
  refine asg1 rfl rfl ?_
  refine Ro.nil ?_
  refine Nrm.code ?_
  refine Run.ret ?_
  refine Rt.one rfl rfl ?_
  exact ⟨by simp only [fragE]; rw [hc1]; rfl, S.bl⟩
set_option maxHeartbeats 1000000 in
theorem c102 (n : Int) (w : World) :
  CallsD Tryd.prog 102 #[.int .i64 n] w (.bool (decide (n = 1))) := by
 refine enter Tryd.func102 rfl Tryd.ntmps102 (l := [(0, [], _)]) rfl rfl ?_
 have S := St.refl [] w
 refine Run.seq ?_
 refine Run.region ?_
 refine asg1 rfl rfl ?_
 refine Ro.nil ?_
 refine Nrm.code ?_
 refine Run.seq ?_
 refine Run.region ?_
 refine mv1 rfl rfl ?_
 refine eql1 rfl rfl rfl ?_
 refine asg1 rfl rfl ?_
 refine Ro.nil ?_
 refine Nrm.code ?_
 refine Run.ret ?_
 refine Rt.one rfl rfl ?_
 exact ⟨rfl, S.bl⟩
set_option maxHeartbeats 1000000 in
theorem c96 (b : Bool) (w : World) :
  CallsD Tryd.prog 96 #[.bool b] w (.int .i64 (if b then 1 else 0)) := by
 refine enter Tryd.func96 rfl Tryd.ntmps96 (l := [(0, [], _)]) rfl rfl ?_
 have S := St.refl [] w
 refine Run.seq ?_
 refine Run.region ?_
 refine asg1 rfl rfl ?_
 refine Ro.nil ?_
 refine Nrm.code ?_
 refine Run.seq ?_
 refine Run.seq ?_
 refine Run.region ?_
 refine mv1 rfl rfl ?_
 refine Ro.nil ?_
 refine Nrm.code ?_
 refine Run.cond rfl (fun hc1 => ?_) (fun hc1 => ?_)
 ·
  refine Run.seq ?_
  refine Run.region ?_
  refine asg1 rfl rfl ?_
  refine Ro.nil ?_
  refine Nrm.code ?_
  refine Run.ret ?_
  refine Rt.one rfl rfl ?_
  exact ⟨by rw [hc1]; rfl, S.bl⟩
 ·
  refine Run.skip ?_
  refine Nrm.code ?_
  refine Run.seq ?_
  refine Run.region ?_
  refine asg1 rfl rfl ?_
  refine Ro.nil ?_
  refine Nrm.code ?_
  refine Run.ret ?_
  refine Rt.one rfl rfl ?_
  exact ⟨by rw [hc1]; rfl, S.bl⟩
set_option maxHeartbeats 1000000 in
theorem c98 (n hi : Int) (w : World) :
  CallsD Tryd.prog 98 #[.int .i64 n, .int .i64 hi] w (.bool (decide (n < 0) || decide (hi < n))) := by
 refine enter Tryd.func98 rfl Tryd.ntmps98 (l := [(0, [], _), (1, [], _)]) rfl rfl ?_
 have S := St.refl [] w
 refine Run.seq ?_
 refine Run.region ?_
 refine asg1 rfl rfl ?_
 refine Ro.nil ?_
 refine Nrm.code ?_
 refine Run.seq ?_
 refine Run.region ?_
 refine mv1 rfl rfl ?_
 refine lss1 rfl rfl rfl ?_
 refine mv1 rfl rfl ?_
 refine mv rfl rfl rfl rfl ?_
 refine mv rfl rfl rfl rfl ?_
 refine gtr rfl rfl rfl rfl rfl rfl ?_
 refine pkO rfl rfl rfl rfl rfl rfl ?_
 refine asg1 rfl rfl ?_
 refine Ro.nil ?_
 refine Nrm.code ?_
 refine Run.ret ?_
 refine Rt.one rfl rfl ?_
 exact ⟨rfl, S.bl⟩
set_option maxHeartbeats 1000000 in
theorem c126 (n hi : Int) (w : World) :
  CallsD Tryd.prog 126 #[.int .i64 n, .int .i64 hi] w (.bool (decide (n < 0) || decide (hi < n))) := by
 refine enter Tryd.func126 rfl Tryd.ntmps126 (l := [(0, [], _), (1, [], _)]) rfl rfl ?_
 have S := St.refl [] w
 refine Run.seq ?_
 refine Run.region ?_
 refine asg1 rfl rfl ?_
 refine Ro.nil ?_
 refine Nrm.code ?_
 refine Run.seq ?_
 refine Run.region ?_
 refine mv1 rfl rfl ?_
 refine lss1 rfl rfl rfl ?_
 refine mv1 rfl rfl ?_
 refine mv rfl rfl rfl rfl ?_
 refine mv rfl rfl rfl rfl ?_
 refine gtr rfl rfl rfl rfl rfl rfl ?_
 refine pkO rfl rfl rfl rfl rfl rfl ?_
 refine asg1 rfl rfl ?_
 refine Ro.nil ?_
 refine Nrm.code ?_
 refine Run.ret ?_
 refine Rt.one rfl rfl ?_
 exact ⟨rfl, S.bl⟩
set_option maxHeartbeats 1000000 in
theorem c155 (n hi : Int) (w : World) :
  CallsD Tryd.prog 155 #[.int .i64 n, .int .i64 hi] w (.bool (decide (n < 0) || decide (hi < n))) := by
 refine enter Tryd.func155 rfl Tryd.ntmps155 (l := [(0, [], _), (1, [], _)]) rfl rfl ?_
 have S := St.refl [] w
 refine Run.seq ?_
 refine Run.region ?_
 refine asg1 rfl rfl ?_
 refine Ro.nil ?_
 refine Nrm.code ?_
 refine Run.seq ?_
 refine Run.region ?_
 refine mv1 rfl rfl ?_
 refine lss1 rfl rfl rfl ?_
 refine mv1 rfl rfl ?_
 refine mv rfl rfl rfl rfl ?_
 refine mv rfl rfl rfl rfl ?_
 refine gtr rfl rfl rfl rfl rfl rfl ?_
 refine pkO rfl rfl rfl rfl rfl rfl ?_
 refine asg1 rfl rfl ?_
 refine Ro.nil ?_
 refine Nrm.code ?_
 refine Run.ret ?_
 refine Rt.one rfl rfl ?_
 exact ⟨rfl, S.bl⟩
set_option maxHeartbeats 1000000 in
theorem c31 (n : Int) (w : World) (h : -9223372036854775808 ≤ n ∧ n ≤ 9223372036854775807) :
  CallsD Tryd.prog 31 #[.int .i64 n] w (.int .i64 n) := by
 refine enter Tryd.func31 rfl Tryd.ntmps31 (l := [(0, [], _)]) rfl rfl ?_
 have S := St.refl [] w
 refine Run.seq ?_
 refine Run.region ?_
 refine asg1 rfl rfl ?_
 refine Ro.nil ?_
 refine Nrm.code ?_
 refine Run.seq ?_
 refine Run.region ?_
 refine mv1 rfl rfl ?_
 refine asg1 rfl rfl ?_
 refine Ro.nil ?_
 refine Nrm.code ?_
 refine Run.ret ?_
 refine Rt.one rfl rfl ?_
 exact ⟨rfl, S.bl⟩
set_option maxHeartbeats 1000000 in
theorem c56 (n : Int) (w : World) (h : -9223372036854775808 ≤ n ∧ n ≤ 9223372036854775807) :
  CallsD Tryd.prog 56 #[.int .i64 n] w (.int .i64 n) := by
 refine enter Tryd.func56 rfl Tryd.ntmps56 (l := [(0, [], _)]) rfl rfl ?_
 have S := St.refl [] w
 refine Run.seq ?_
 refine Run.region ?_
 refine asg1 rfl rfl ?_
 refine Ro.nil ?_
 refine Nrm.code ?_
 refine Run.seq ?_
 refine Run.region ?_
 refine mv1 rfl rfl ?_
 refine asg1 rfl rfl ?_
 refine Ro.nil ?_
 refine Nrm.code ?_
 refine Run.ret ?_
 refine Rt.one rfl rfl ?_
 exact ⟨rfl, S.bl⟩
end Go.Proofs.YtkahmepenjhcpaaDoor.W
/- Plain facts on sums of bytes folded to 16 bits. No program here; no statement of the seat is proved here. -/
namespace Go.Proofs.YtkahmepenjhcpaaDoor.W
set_option linter.unusedVariables false
def foldS (n : Int) : Int := if n = 0 then 0 else (n - 1) % 65535 + 1
theorem foldS_step {n : Int} (h : 65535 < n) : foldS (n % 65536 + n / 65536) = foldS n := by
  unfold foldS; split <;> split <;> omega
theorem foldS_small {n : Int} (h : 0 ≤ n ∧ n ≤ 65535) : foldS n = n := by
  unfold foldS; split <;> omega
theorem foldS_bd {n : Int} (_h : 0 ≤ n) : 0 ≤ foldS n ∧ foldS n ≤ 65535 := by
  unfold foldS; split <;> omega
theorem foldS_add {a d : Int} (ha : 0 ≤ a) (hd : 0 ≤ d) : foldS (foldS a + d) = foldS (a + d) := by
  unfold foldS; (repeat' split) <;> omega
/-- the sum of the words; b: the next byte is the higher half -/
def wsum : Bool → List Int → Int
  | _, [] => 0
  | true, b :: r => b * 256 + wsum false r
  | false, b :: r => b + wsum true r
def par (h : Bool) (n : Nat) : Bool := if n % 2 = 0 then h else !h
theorem wsum_app : ∀ (a : List Int) (h : Bool) (b : List Int), wsum h (a ++ b) = wsum h a + wsum (par h a.length) b
  | [], h, b => by simp [wsum, par]
  | x :: a, h, b => by
    have ih := wsum_app a (!h) b
    have e : par (!h) a.length = par h (a.length + 1) := by
      unfold par
      rcases Nat.mod_two_eq_zero_or_one a.length with h0 | h0
      · have : (a.length + 1) % 2 = 1 := by omega
        simp [h0, this]
      · have : (a.length + 1) % 2 = 0 := by omega
        simp [h0, this]
    cases h <;> simp only [List.cons_append, wsum, List.length_cons, Bool.not_true, Bool.not_false] at * <;> rw [ih, e] <;> omega
theorem wsum_bd : ∀ (l : List Int) (h : Bool), (∀ x ∈ l, 0 ≤ x ∧ x < 256) → 0 ≤ wsum h l ∧ wsum h l ≤ 65280 * l.length
  | [], h, _ => by simp [wsum]
  | x :: l, h, hl => by
    have ih := wsum_bd l (!h) (fun y hy => hl y (by simp [hy]))
    have hx := hl x (by simp)
    cases h <;> simp only [wsum, List.length_cons, Bool.not_true, Bool.not_false] at * <;> omega
/-- the sum over some bytes -/
def sumS (l : List Int) : Int := foldS (wsum true l)
theorem getD_take_succ {l : List Int} {i : Nat} (h : i < l.length) : l.take (i + 1) = l.take i ++ [l.getD i 0] := by
  rw [List.take_succ_eq_append_getElem h, List.getD_eq_getElem?_getD, List.getElem?_eq_getElem h]; rfl
theorem flat_take_succ {ls : List (List Int)} {i : Nat} (h : i < ls.length) : (ls.take (i + 1)).flatten = (ls.take i).flatten ++ ls.getD i [] := by
  rw [List.take_succ_eq_append_getElem h, List.flatten_append, List.getD_eq_getElem?_getD, List.getElem?_eq_getElem h]; simp
theorem flat_len_take {ls : List (List Int)} : ∀ (i : Nat), i < ls.length → (ls.take i).flatten.length + (ls.getD i []).length ≤ ls.flatten.length := by
  induction ls with
  | nil => intro i h; simp at h
  | cons a r ih =>
    intro i h
    cases i with
    | zero => simp
    | succ i =>
      have := ih i (by simpa using h)
      simp only [List.take_succ_cons, List.flatten_cons, List.length_append, List.getD_cons_succ]
      omega
theorem take_flat_mem {ls : List (List Int)} {i : Nat} : ∀ x ∈ (ls.take i).flatten, x ∈ ls.flatten := by
  intro x hx
  obtain ⟨l, hl, hx⟩ := List.mem_flatten.1 hx
  exact List.mem_flatten.2 ⟨l, List.mem_of_mem_take hl, hx⟩
end Go.Proofs.YtkahmepenjhcpaaDoor.W
/- Contracts of the sums. No statement of the seat is proved here. -/
namespace Go.Proofs.YtkahmepenjhcpaaDoor.W
open Go
set_option linter.unusedSimpArgs false
set_option linter.unusedVariables false
theorem BSs.byt {N : List Nat} {w : World} : ∀ {vs : List Value} {ls : List (List Int)}, BSs N w vs ls → W.byt ls.flatten
  | [], [], _ => byt_nil
  | [], _ :: _, h => h.elim
  | _ :: _, [], h => h.elim
  | _ :: _, _ :: _, h => byt_app h.1.1 (BSs.byt h.2)
theorem par_par (b : Bool) (m i : Nat) : par (par b m) i = par b (m + i) := by
  unfold par
  rcases Nat.mod_two_eq_zero_or_one m with h | h <;> rcases Nat.mod_two_eq_zero_or_one i with h' | h' <;> cases b <;> simp [h, h', Nat.add_mod]
theorem par_flip (m : Nat) : (!(decide (m % 2 = 0))) = decide ((m + 1) % 2 = 0) := by
  rcases Nat.mod_two_eq_zero_or_one m with h | h
  · have : (m + 1) % 2 = 1 := by omega
    simp [h, this]
  · have : (m + 1) % 2 = 0 := by omega
    simp [h, this]
set_option maxHeartbeats 1000000 in
theorem c144 (n : Int) (w : World) (h : 0 ≤ n ∧ n ≤ 4611686018427387904) :
  CallsD Tryd.prog 144 #[.int .i64 n] w (.int .i64 (foldS n)) := by
 refine enter Tryd.func144 rfl Tryd.ntmps144 (l := [(0, [], _)]) rfl rfl ?_
 have S := St.refl [] w
 refine Run.seq ?_
 refine Run.region ?_
 refine asg1 rfl rfl ?_
 refine Ro.nil ?_
 refine Nrm.code ?_
 refine Run.seq ?_
 refine Run.block ?_
 refine Run.loop1 (fun (m : Int) w_ => (0 ≤ m ∧ m ≤ 4611686018427387904) ∧ foldS m = foldS n ∧ St [] w [] w_) (fun (m : Int) => [(0, [], .int .i64 m)]) (fun (m : Int) => m.toNat) (n) ⟨h, rfl, S⟩ ⟨rfl, trivial⟩ ?_
 rintro m w1 ⟨hm, he, S⟩
 refine Run.seq ?_
 refine Run.seq ?_
 refine Run.region ?_
 refine mv1 rfl rfl ?_
 refine gtr1 rfl rfl rfl ?_
 refine Ro.nil ?_
 refine Nrm.code ?_
 refine Run.cond rfl (fun hc1 => ?_) (fun hc1 => ?_)
 ·
  try simp only [Bool.or_eq_true, Bool.and_eq_true, Bool.or_eq_false_iff, Bool.and_eq_false_iff, decide_eq_true_eq, decide_eq_false_iff_not, Bool.not_eq_true', Bool.not_eq_false', Bool.not_eq_true, Bool.not_eq_false] at hc1
  refine Run.skip ?_
  refine Nrm.code ?_
  refine Run.block ?_
  refine Run.region ?_
  refine mv1 rfl rfl ?_
  refine band rfl rfl rfl rfl rfl rfl (fun _ => an16 (by omega)) ?_
  refine mv1 rfl rfl ?_
  refine shr rfl rfl rfl rfl rfl rfl (fun _ => by decide) (fun _ => sh16 _) ?_
  refine add1 rfl rfl rfl (w64 (by omega)) ?_
  refine asg1 rfl rfl ?_
  refine Ro.nil ?_
  refine Nrm.blk ?_
  refine Nrm.loop1 (_) ⟨by omega, by rw [← he]; exact foldS_step (by omega), S⟩ (by omega) ⟨rfl, trivial⟩
 ·
  try simp only [Bool.or_eq_true, Bool.and_eq_true, Bool.or_eq_false_iff, Bool.and_eq_false_iff, decide_eq_true_eq, decide_eq_false_iff_not, Bool.not_eq_true', Bool.not_eq_false', Bool.not_eq_true, Bool.not_eq_false] at hc1
  refine Run.exit ?_
  refine Lv.code ?_
  refine Lv.back ?_
  refine Lv.hit ?_
  refine Nrm.code ?_
  refine Run.seq ?_
  refine Run.region ?_
  refine mv1 rfl rfl ?_
  refine asg1 rfl rfl ?_
  refine Ro.nil ?_
  refine Nrm.code ?_
  refine Run.ret ?_
  refine Rt.one rfl rfl ?_
  exact ⟨by rw [← he, foldS_small (by omega)], S.bl⟩
set_option maxHeartbeats 1000000 in
theorem c105 (v : Value) (ls : List (List Int)) (w : World) (hs : SS [] w v ls) (hl : ls.flatten.length ≤ 1099511627776) (hm : ls.length ≤ 1099511627776) :
  CallsD Tryd.prog 105 #[v] w (.int .i64 (sumS ls.flatten)) := by
 refine enter Tryd.func105 rfl Tryd.ntmps105 (l := [(0, [], _)]) rfl rfl ?_
 have S := St.refl [] w
 obtain ⟨vs, hS, hB⟩ := hs
 have hby : byt ls.flatten := hB.byt
 refine Run.seq ?_
 refine Run.region ?_
 refine asg1 rfl rfl ?_
 refine Ro.nil ?_
 refine Nrm.code ?_
 refine Run.seq ?_
 refine Run.region ?_
 refine asg1 rfl rfl ?_
 refine asg1 rfl rfl ?_
 refine Ro.nil ?_
 refine Nrm.code ?_
 refine Run.seq ?_
 refine Run.seq ?_
 refine Run.region ?_
 refine mv1 rfl rfl ?_
 refine lenS rfl hS Tryd.underlying102 rfl rfl rfl ?_
 refine mv1 rfl rfl ?_
 refine Ro.nil ?_
 refine Nrm.code ?_
 refine Run.block ?_
 refine Run.loop3 (fun (j : Nat) (n : Int) (b : Bool) w_ => j ≤ ls.length ∧ n = foldS (wsum true (ls.take j).flatten) ∧ b = decide ((ls.take j).flatten.length % 2 = 0) ∧ St [] w [] w_) (fun (j : Nat) (n : Int) (b : Bool) => [(3, [], .int .i64 n), (4, [], .bool b), (9, [], v), (10, [], .int .i64 ls.length), (11, [], .int .i64 j)]) (fun (j : Nat) (n : Int) (b : Bool) => ls.length - j) (0) (0) (true) ⟨Nat.zero_le _, rfl, rfl, S⟩ ⟨rfl, rfl, rfl, rfl, rfl, trivial⟩ ?_
 rintro j n b w1 ⟨hj, hn, hb, S⟩
 refine Run.seq ?_
 refine Run.region ?_
 refine lss1 rfl rfl rfl ?_
 refine Ro.nil ?_
 refine Nrm.code ?_
 refine Run.seq ?_
 refine Run.cond rfl (fun hc3 => ?_) (fun hc3 => ?_)
 ·
  try simp only [Bool.or_eq_true, Bool.and_eq_true, Bool.or_eq_false_iff, Bool.and_eq_false_iff, decide_eq_true_eq, decide_eq_false_iff_not, Bool.not_eq_true', Bool.not_eq_false', Bool.not_eq_true, Bool.not_eq_false] at hc3
  refine Run.skip ?_
  refine Nrm.code ?_
  refine Run.seq ?_
  refine Run.block ?_
  refine Run.seq ?_
  refine Run.region ?_
  refine ixa rfl rfl hS e102 rfl rfl rfl rfl (fun _ => by first | omega | (simp only [List.length_cons, List.length_nil]; omega)) ?_
  obtain ⟨p, hp, hpb⟩ := hB.at (show j < ls.length by omega)
  have hjl : j < ls.length := by omega
  refine ldE rfl hS S T26 rfl rfl rfl (fun _ => by simpa using hp) ?_
  refine asg1 rfl rfl ?_
  refine Ro.nil ?_
  refine Nrm.code ?_
  refine Run.seq ?_
  refine Run.seq ?_
  refine Run.region ?_
  refine mv1 rfl rfl ?_
  refine lenS rfl hpb.2 Tryd.underlying26 rfl rfl rfl ?_
  refine mv1 rfl rfl ?_
  refine Ro.nil ?_
  refine Nrm.code ?_
  refine Run.block ?_
  refine Run.loop3 (fun (i : Nat) (n : Int) (b : Bool) w_ => i ≤ (ls.getD j []).length ∧ n = foldS (wsum true (ls.take j).flatten) + wsum (par true (ls.take j).flatten.length) ((ls.getD j []).take i) ∧ b = decide (((ls.take j).flatten.length + i) % 2 = 0) ∧ St [] w [] w_) (fun (i : Nat) (n : Int) (b : Bool) => [(3, [], .int .i64 n), (4, [], .bool b), (9, [], v), (10, [], .int .i64 ls.length), (11, [], .int .i64 j), (15, [], p), (16, [], .int .i64 (ls.getD j []).length), (17, [], .int .i64 i)]) (fun (i : Nat) (n : Int) (b : Bool) => (ls.getD j []).length - i) (0) (_) (_) ⟨Nat.zero_le _, by rw [hn]; simp [wsum], by rw [hb]; rfl, S⟩ ⟨rfl, rfl, rfl, rfl, rfl, rfl, rfl, rfl, trivial⟩ ?_
  rintro i n b w2 ⟨hi, hq2, hq3, S⟩
  have hw1 := wsum_bd (ls.take j).flatten true (fun x hx => hby x (take_flat_mem x hx))
  have hp0 := hw1.1
  have hf0 := foldS_bd hp0
  have hfl := flat_len_take j hjl
  have hw2 := wsum_bd ((ls.getD j []).take i) (par true (ls.take j).flatten.length) (fun x hx => hpb.1 x (List.mem_of_mem_take hx))
  rw [List.length_take, Nat.min_eq_left hi] at hw2
  refine Run.seq ?_
  refine Run.region ?_
  refine lss1 rfl rfl rfl ?_
  refine Ro.nil ?_
  refine Nrm.code ?_
  refine Run.seq ?_
  refine Run.cond rfl (fun hc6 => ?_) (fun hc6 => ?_)
  ·
   try simp only [Bool.or_eq_true, Bool.and_eq_true, Bool.or_eq_false_iff, Bool.and_eq_false_iff, decide_eq_true_eq, decide_eq_false_iff_not, Bool.not_eq_true', Bool.not_eq_false', Bool.not_eq_true, Bool.not_eq_false] at hc6
   refine Run.skip ?_
   refine Nrm.code ?_
   refine Run.seq ?_
   refine Run.block ?_
   refine Run.seq ?_
   refine Run.region ?_
   refine ixa rfl rfl hpb.2 e26 rfl rfl rfl rfl (fun _ => by first | omega | (simp only [List.length_cons, List.length_nil]; omega)) ?_
   refine ldB rfl hpb S T5 rfl rfl rfl (fun _ => by omega) ?_
   intro q20 hq20 hbq20
   try simp only [Int.toNat_natCast, Nat.mul_one, Int.reduceToNat] at hq20
   refine asg1 rfl rfl ?_
   refine Ro.nil ?_
   refine Nrm.code ?_
   refine Run.seq ?_
   refine Run.seq ?_
   refine Run.region ?_
   refine mv1 rfl rfl ?_
   refine Ro.nil ?_
   refine Nrm.code ?_
   refine Run.cond rfl (fun hc8 => ?_) (fun hc8 => ?_)
   ·
    try simp only [Bool.or_eq_true, Bool.and_eq_true, Bool.or_eq_false_iff, Bool.and_eq_false_iff, decide_eq_true_eq, decide_eq_false_iff_not, Bool.not_eq_true', Bool.not_eq_false', Bool.not_eq_true, Bool.not_eq_false] at hc8
    have hpar : par true ((ls.take j).flatten.length + i) = true := by unfold par; rw [hq3] at hc8; simp at hc8; simp [hc8]
    refine Run.region ?_
    refine mv1 rfl rfl ?_
    refine mv1 rfl rfl ?_
    refine cvi1 rfl rfl Tryd.underlying5 Tryd.underlying3 (w64 (by omega)) ?_
    refine shl rfl rfl rfl rfl rfl rfl (fun _ => by decide) (fun _ => sl8 (by omega)) ?_
    refine add1 rfl rfl rfl (w64 (by omega)) ?_
    refine asg1 rfl rfl ?_
    refine Ro.nil ?_
    refine Nrm.code ?_
    refine Run.region ?_
    refine mv1 rfl rfl ?_
    refine nt1 rfl rfl ?_
    refine asg1 rfl rfl ?_
    refine Ro.nil ?_
    refine Nrm.blk ?_
    refine Nrm.code ?_
    refine Run.region ?_
    refine add1 rfl rfl rfl (w64 (by omega)) ?_
    refine mv1 rfl rfl ?_
    refine Ro.nil ?_
    refine Nrm.loop3 (i + 1) (_) (_) ⟨by omega, by
      rw [getD_take_succ (by omega), wsum_app, List.length_take, Nat.min_eq_left hi, hq2, ← hq20, par_par, hpar]; simp [wsum]; omega, by
      rw [hq3]; exact par_flip _, S⟩ (by omega) ⟨rfl, rfl, rfl, rfl, rfl, rfl, rfl, rfl, trivial⟩
   ·
    try simp only [Bool.or_eq_true, Bool.and_eq_true, Bool.or_eq_false_iff, Bool.and_eq_false_iff, decide_eq_true_eq, decide_eq_false_iff_not, Bool.not_eq_true', Bool.not_eq_false', Bool.not_eq_true, Bool.not_eq_false] at hc8
    have hpar : par true ((ls.take j).flatten.length + i) = false := by unfold par; rw [hq3] at hc8; simp at hc8; simp [hc8]
    refine Run.region ?_
    refine mv1 rfl rfl ?_
    refine mv1 rfl rfl ?_
    refine cvi1 rfl rfl Tryd.underlying5 Tryd.underlying3 (w64 (by omega)) ?_
    refine add1 rfl rfl rfl (w64 (by omega)) ?_
    refine asg1 rfl rfl ?_
    refine Ro.nil ?_
    refine Nrm.code ?_
    refine Run.region ?_
    refine mv1 rfl rfl ?_
    refine nt1 rfl rfl ?_
    refine asg1 rfl rfl ?_
    refine Ro.nil ?_
    refine Nrm.blk ?_
    refine Nrm.code ?_
    refine Run.region ?_
    refine add1 rfl rfl rfl (w64 (by omega)) ?_
    refine mv1 rfl rfl ?_
    refine Ro.nil ?_
    refine Nrm.loop3 (i + 1) (_) (_) ⟨by omega, by
      rw [getD_take_succ (by omega), wsum_app, List.length_take, Nat.min_eq_left hi, hq2, ← hq20, par_par, hpar]; simp [wsum]; omega, by
      rw [hq3]; exact par_flip _, S⟩ (by omega) ⟨rfl, rfl, rfl, rfl, rfl, rfl, rfl, rfl, trivial⟩
  ·
   try simp only [Bool.or_eq_true, Bool.and_eq_true, Bool.or_eq_false_iff, Bool.and_eq_false_iff, decide_eq_true_eq, decide_eq_false_iff_not, Bool.not_eq_true', Bool.not_eq_false', Bool.not_eq_true, Bool.not_eq_false] at hc6
   have hi' : i = (ls.getD j []).length := by omega
   subst hi'; rw [List.take_length] at hq2 hw2
   refine Run.exit ?_
   refine Lv.code ?_
   refine Lv.back ?_
   refine Lv.hit ?_
   refine Nrm.code ?_
   refine Run.region ?_
   refine mv1 rfl rfl ?_
   refine calg (vs := [_]) rfl ⟨⟨_, _, rfl, rfl⟩, trivial⟩ k144 rfl (fun hG => c144 _ _ (by omega)) ?_
   intro w3 B_; have S := S.call B_
   refine asg1 rfl rfl ?_
   refine Ro.nil ?_
   refine Nrm.blk ?_
   refine Nrm.code ?_
   refine Run.region ?_
   refine add1 rfl rfl rfl (w64 (by omega)) ?_
   refine mv1 rfl rfl ?_
   refine Ro.nil ?_
   refine Nrm.loop3 (j + 1) (_) (_) ⟨by omega, by
     rw [flat_take_succ hjl, wsum_app, hq2, foldS_add hp0 (by omega)], by
     rw [hq3, flat_take_succ hjl, List.length_append], S⟩ (by omega) ⟨rfl, rfl, rfl, rfl, rfl, trivial⟩
 ·
  try simp only [Bool.or_eq_true, Bool.and_eq_true, Bool.or_eq_false_iff, Bool.and_eq_false_iff, decide_eq_true_eq, decide_eq_false_iff_not, Bool.not_eq_true', Bool.not_eq_false', Bool.not_eq_true, Bool.not_eq_false] at hc3
  refine Run.exit ?_
  refine Lv.code ?_
  refine Lv.back ?_
  refine Lv.hit ?_
  refine Nrm.code ?_
  refine Run.seq ?_
  refine Run.region ?_
  refine mv1 rfl rfl ?_
  refine asg1 rfl rfl ?_
  refine Ro.nil ?_
  refine Nrm.code ?_
  refine Run.ret ?_
  refine Rt.one rfl rfl ?_
  have e : j = ls.length := by omega
  exact ⟨by rw [hn, e, List.take_length]; rfl, S.bl⟩
end Go.Proofs.YtkahmepenjhcpaaDoor.W
