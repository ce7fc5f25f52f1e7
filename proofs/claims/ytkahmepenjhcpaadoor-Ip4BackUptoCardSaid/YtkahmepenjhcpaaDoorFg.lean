/- The base of this seat's proofs, seventh part: bytes that are loaded, with their bounds; shifts and masks; the data of the program. No statement of the seat is proved here. -/
import Derived.Test.YtkahmepenjhcpaaDoorFk
namespace Go.Proofs.YtkahmepenjhcpaaDoor.W
open Go
set_option linter.unusedSimpArgs false

theorem sh8 (a : Int) : a.fdiv (2 ^ (min (8 : Int).toNat IntKind.i64.bits)) = a / 256 := by
  have : (2 ^ (min (8 : Int).toNat IntKind.i64.bits) : Int) = 256 := rfl
  rw [this, Int.fdiv_eq_ediv_of_nonneg _ (by omega)]
theorem sh16 (a : Int) : a.fdiv (2 ^ (min (16 : Int).toNat IntKind.i64.bits)) = a / 65536 := by
  have : (2 ^ (min (16 : Int).toNat IntKind.i64.bits) : Int) = 65536 := rfl
  rw [this, Int.fdiv_eq_ediv_of_nonneg _ (by omega)]
theorem sl8 {a : Int} (h : 0 ≤ a ∧ a < 36028797018963968) : IntKind.i64.wrap (a * 2 ^ (min (8 : Int).toNat IntKind.i64.bits)) = a * 256 := by
  have : (2 ^ (min (8 : Int).toNat IntKind.i64.bits) : Int) = 256 := rfl
  rw [this]; exact w64 (by omega)
theorem sl1 {a : Int} (h : 0 ≤ a ∧ a < 4611686018427387904) : IntKind.i64.wrap (a * 2 ^ (min (1 : Int).toNat IntKind.i64.bits)) = a * 2 := by
  have : (2 ^ (min (1 : Int).toNat IntKind.i64.bits) : Int) = 2 := rfl
  rw [this]; exact w64 (by omega)

theorem toNat_mod64 {a : Int} (h : 0 ≤ a ∧ a ≤ 9223372036854775807) : (a % 2 ^ IntKind.i64.bits).toNat = a.toNat := by
  have : (2 ^ IntKind.i64.bits : Int) = 18446744073709551616 := rfl
  rw [this, Int.emod_eq_of_lt h.1 (by omega)]

/-- a & 65535 -/
theorem an16 {a : Int} (h : 0 ≤ a ∧ a ≤ 9223372036854775807) : IntKind.i64.wrap (((a % 2 ^ IntKind.i64.bits).toNat &&& ((65535 : Int) % 2 ^ IntKind.i64.bits).toNat : Nat) : Int) = a % 65536 := by
  rw [toNat_mod64 h, toNat_mod64 (by omega)]
  have e : a.toNat &&& (65535 : Int).toNat = a.toNat % 65536 := Nat.and_two_pow_sub_one_eq_mod a.toNat 16
  rw [e, w64 (by omega)]
  omega

/-- a*256 | b for a byte b -/
theorem or8 {a b : Int} (h : 0 ≤ a ∧ a < 36028797018963968) (hb : 0 ≤ b ∧ b < 256) : IntKind.i64.wrap (((a * 256 % 2 ^ IntKind.i64.bits).toNat ||| (b % 2 ^ IntKind.i64.bits).toNat : Nat) : Int) = a * 256 + b := by
  rw [toNat_mod64 (by omega), toNat_mod64 (by omega)]
  obtain ⟨x, rfl⟩ := Int.eq_ofNat_of_zero_le h.1
  obtain ⟨y, rfl⟩ := Int.eq_ofNat_of_zero_le hb.1
  have e : ((x : Int) * 256).toNat = x * 2 ^ 8 := by omega
  have e2 : ((y : Int)).toNat = y := by omega
  rw [e, e2]
  have hy : y < 2 ^ 8 := by omega
  have e3 : x * 2 ^ 8 ||| y = x * 2 ^ 8 + y := by
    rw [Nat.mul_comm, ← Nat.two_pow_add_eq_or_of_lt hy]
  rw [e3, w64 (by omega)]
  omega

section op
variable {P : Program} {R : Qp} {ds : List Deferred} {n : Nat} {l : Env} {k : List KI} {w w0 : World} {ops : Array Oper} {os : List Oper}
variable {d : Nat} {G gx gy ex ey : Gs} {ty : TypeId} {ps : String} {af : Array Edge} {gu : Option (Nat × Bool)} {x y z : Operand} {N0 : List Nat} {L L' : List Own}

theorem bs_cell {bs : List Int} {i : Nat} (h : i < bs.length) : (bs.map u8)[i]? = some (u8 (bs.getD i 0)) := by
  simp [h, List.getD_eq_getElem?_getD]

/-- a byte out of a slice, with its bounds -/
theorem ldB {T : TypeId} {tsz : Nat} {zc : List Value} {v : Value} {bs : List Int} {j : Nat} (hx : ev l x = some (gx, eP v j)) (hB : BS N0 w0 v bs) (S : St N0 w0 L w) (hT : TyI P T tsz false zc)
    (hG : gd ops l gu = some G) (hpx : G = gx ++ ex) (hn : Nat.blt d n = true) (hj : allT G → j < bs.length)
    (h : ∀ q, q = bs.getD j 0 → 0 ≤ q ∧ q < 256 → Ro P R ds n ops ((d, G, .int .u8 q) :: l) os k w) :
    Ro P R ds n ops l ({ dst := some d, op := .load T x, type := ty, pos := ps, after := af, guard := gu } :: os) k w :=
  ldE hx hB.2 S hT hG hpx hn (fun hT => bs_cell (hj hT)) (h _ rfl (byt_getD hB.1 j))

/-- whole numbers, read -/
def IS (N : List Nat) (w : World) (v : Value) (l : List Int) : Prop := Sl N w 1 v l.length (l.map i64)
theorem IS.st {w0 w : World} {v : Value} {bs : List Int} (h : IS N0 w0 v bs) (S : St N0 w0 L w) : IS (idsL L) w v bs := Sl.st h S
theorem IS.now {w0 w : World} {v : Value} {bs : List Int} (h : IS N0 w0 v bs) (S : St N0 w0 L w) : IS [] w v bs := Sl.now h S
theorem is_cell {bs : List Int} {i : Nat} (h : i < bs.length) : (bs.map i64)[i]? = some (i64 (bs.getD i 0)) := by
  simp [h, List.getD_eq_getElem?_getD]
theorem ldI {T : TypeId} {tsz : Nat} {zc : List Value} {v : Value} {bs : List Int} {j : Nat} (hx : ev l x = some (gx, eP v j)) (hB : IS N0 w0 v bs) (S : St N0 w0 L w) (hT : TyI P T tsz false zc)
    (hG : gd ops l gu = some G) (hpx : G = gx ++ ex) (hn : Nat.blt d n = true) (hj : allT G → j < bs.length)
    (h : ∀ q, q = bs.getD j 0 → Ro P R ds n ops ((d, G, .int .i64 q) :: l) os k w) :
    Ro P R ds n ops l ({ dst := some d, op := .load T x, type := ty, pos := ps, after := af, guard := gu } :: os) k w :=
  ldE hx hB S hT hG hpx hn (fun hT => is_cell (hj hT)) (h _ rfl)

/-- a byte of one's own variable's array or slice -/
theorem ldO {T : TypeId} {tsz : Nat} {zc : List Value} {v : Value} {T' : TypeId} {sz m i j : Nat} {xs : List Value} {u : Value} (hx : ev l x = some (gx, eP v j)) (S : St N0 w0 L w) (hk : getN L i = some (.row v T' sz m xs)) (hT : TyI P T tsz false zc)
    (hG : gd ops l gu = some G) (hpx : G = gx ++ ex) (hn : Nat.blt d n = true) (hv : allT G → xs[j]? = some u)
    (h : Ro P R ds n ops ((d, G, u) :: l) os k w) :
    Ro P R ds n ops l ({ dst := some d, op := .load T x, type := ty, pos := ps, after := af, guard := gu } :: os) k w :=
  ldE hx (S.slI hk) (St.refl [] w) hT hG hpx hn hv h
end op

theorem one_u8 (l : List Int) : ∀ e ∈ l.map u8, e.oneCell' = true := by
  intro e he; obtain ⟨x, _, rfl⟩ := List.mem_map.1 he; rfl
theorem one_i64 (l : List Int) : ∀ e ∈ l.map i64, e.oneCell' = true := by
  intro e he; obtain ⟨x, _, rfl⟩ := List.mem_map.1 he; rfl
theorem one_nil : ∀ e ∈ ([] : List Value), e.oneCell' = true := by intro e he; simp at he
theorem one_cons {v : Value} {r : List Value} (h : v.oneCell' = true) (hr : ∀ e ∈ r, e.oneCell' = true) : ∀ e ∈ v :: r, e.oneCell' = true := by
  intro e he
  rcases List.mem_cons.1 he with rfl | he
  · exact h
  · exact hr e he
theorem one_app {a b : List Value} (ha : ∀ e ∈ a, e.oneCell' = true) (hb : ∀ e ∈ b, e.oneCell' = true) : ∀ e ∈ a ++ b, e.oneCell' = true := by
  intro e he; exact (List.mem_append.1 he).elim (ha e) (hb e)
theorem BS.one {N : List Nat} {w : World} {v : Value} {l : List Int} (h : BS N w v l) : v.oneCell' = true := by
  obtain ⟨_, _, A, cap, rfl, _⟩ := h; rfl
theorem Sl.one {N : List Nat} {w : World} {sz m : Nat} {v : Value} {cs : List Value} (h : Sl N w sz v m cs) : v.oneCell' = true := by
  obtain ⟨_, A, cap, rfl, _⟩ := h; rfl

/-! ### slices of slices of bytes -/
/-- the slices that hold the lists -/
def BSs (N : List Nat) (w : World) : List Value → List (List Int) → Prop
  | [], [] => True
  | v :: vs, l :: ls => BS N w v l ∧ BSs N w vs ls
  | _, _ => False
theorem BSs.st {N0 : List Nat} {w0 w : World} {L : List Own} (S : St N0 w0 L w) : ∀ {vs : List Value} {ls : List (List Int)}, BSs N0 w0 vs ls → BSs (idsL L) w vs ls
  | [], [], h => h
  | [], _ :: _, h => h.elim
  | _ :: _, [], h => h.elim
  | _ :: _, _ :: _, h => ⟨h.1.st S, BSs.st S h.2⟩
theorem BSs.weak {N N' : List Nat} {w : World} (hN : ∀ i ∈ N', i ∈ N) : ∀ {vs : List Value} {ls : List (List Int)}, BSs N w vs ls → BSs N' w vs ls
  | [], [], h => h
  | [], _ :: _, h => h.elim
  | _ :: _, [], h => h.elim
  | _ :: _, _ :: _, h => ⟨h.1.weak hN, BSs.weak hN h.2⟩
theorem BSs.len {N : List Nat} {w : World} : ∀ {vs : List Value} {ls : List (List Int)}, BSs N w vs ls → vs.length = ls.length
  | [], [], _ => rfl
  | [], _ :: _, h => h.elim
  | _ :: _, [], h => h.elim
  | _ :: _, _ :: _, h => by simp [BSs.len h.2]
theorem BSs.at {N : List Nat} {w : World} : ∀ {vs : List Value} {ls : List (List Int)} {i : Nat}, BSs N w vs ls → i < ls.length → ∃ v, vs[i]? = some v ∧ BS N w v (ls.getD i [])
  | [], [], i, _, hi => by simp at hi
  | [], _ :: _, _, h, _ => h.elim
  | _ :: _, [], _, h, _ => h.elim
  | v :: vs, l :: ls, 0, h, _ => ⟨v, rfl, h.1⟩
  | v :: vs, l :: ls, i + 1, h, hi => by
    obtain ⟨u, h1, h2⟩ := BSs.at h.2 (i := i) (by simpa using hi)
    exact ⟨u, by simpa using h1, by simpa using h2⟩
/-- a slice of slices of bytes -/
def SS (N : List Nat) (w : World) (v : Value) (ls : List (List Int)) : Prop := ∃ vs, Sl N w 1 v ls.length vs ∧ BSs N w vs ls
theorem SS.st {N0 : List Nat} {w0 w : World} {L : List Own} {v : Value} {ls : List (List Int)} (h : SS N0 w0 v ls) (S : St N0 w0 L w) : SS (idsL L) w v ls :=
  let ⟨vs, h1, h2⟩ := h; ⟨vs, h1.st S, h2.st S⟩
theorem SS.weak {N N' : List Nat} {w : World} {v : Value} {ls : List (List Int)} (h : SS N w v ls) (hN : ∀ i ∈ N', i ∈ N) : SS N' w v ls :=
  let ⟨vs, h1, h2⟩ := h; ⟨vs, h1.weak hN, h2.weak hN⟩
theorem SS.now {N0 : List Nat} {w0 w : World} {L : List Own} {v : Value} {ls : List (List Int)} (h : SS N0 w0 v ls) (S : St N0 w0 L w) : SS [] w v ls := (h.st S).weak (by simp)

/-! ### options -/
structure Opt where
  kind : Int
  data : List Int

/-- the cells of a list of options -/
def optC : List Opt → List Value → List Value
  | o :: os, d :: ds => i64 o.kind :: d :: optC os ds
  | _, _ => []
def OSs (N : List Nat) (w : World) (ds : List Value) (os : List Opt) : Prop := BSs N w ds (os.map Opt.data)
def OS (N : List Nat) (w : World) (v : Value) (os : List Opt) : Prop := ∃ ds, Sl N w 2 v os.length (optC os ds) ∧ OSs N w ds os
theorem OS.st {N0 : List Nat} {w0 w : World} {L : List Own} {v : Value} {os : List Opt} (h : OS N0 w0 v os) (S : St N0 w0 L w) : OS (idsL L) w v os :=
  let ⟨vs, h1, h2⟩ := h; ⟨vs, h1.st S, BSs.st S h2⟩
theorem OS.weak {N N' : List Nat} {w : World} {v : Value} {os : List Opt} (h : OS N w v os) (hN : ∀ i ∈ N', i ∈ N) : OS N' w v os :=
  let ⟨vs, h1, h2⟩ := h; ⟨vs, h1.weak hN, BSs.weak hN h2⟩
theorem OS.now {N0 : List Nat} {w0 w : World} {L : List Own} {v : Value} {os : List Opt} (h : OS N0 w0 v os) (S : St N0 w0 L w) : OS [] w v os := (h.st S).weak (by simp)
theorem OS.one {N : List Nat} {w : World} {v : Value} {os : List Opt} (h : OS N w v os) : v.oneCell' = true := let ⟨_, h1, _⟩ := h; h1.one

theorem optC_at : ∀ {os : List Opt} {ds : List Value} {i : Nat} {d : Value}, i < os.length → ds[i]? = some d → (optC os ds)[i * 2]? = some (i64 (os.getD i ⟨0, []⟩).kind) ∧ (optC os ds)[i * 2 + 1]? = some d
  | [], _, i, _, hi, _ => by simp at hi
  | _ :: _, [], i, _, _, hd => by simp at hd
  | o :: os, d' :: ds, 0, d, _, hd => by simp at hd; subst hd; simp [optC]
  | o :: os, d' :: ds, i + 1, d, hi, hd => by
    obtain ⟨h1, h2⟩ := optC_at (os := os) (ds := ds) (i := i) (d := d) (by simpa using hi) (by simpa using hd)
    have e : (i + 1) * 2 = i * 2 + 1 + 1 := by omega
    simp only [optC, e, List.getElem?_cons_succ]
    exact ⟨by simpa using h1, by simpa using h2⟩
theorem optC_len : ∀ {os : List Opt} {ds : List Value}, ds.length = os.length → (optC os ds).length = os.length * 2
  | [], [], _ => rfl
  | [], _ :: _, h => by simp at h
  | _ :: _, [], h => by simp at h
  | o :: os, d :: ds, h => by simp only [optC, List.length_cons, optC_len (os := os) (ds := ds) (by simpa using h)]; omega
theorem optC_app : ∀ {a b : List Opt} {x y : List Value}, x.length = a.length → optC (a ++ b) (x ++ y) = optC a x ++ optC b y
  | [], _, [], _, _ => rfl
  | [], _, _ :: _, _, h => by simp at h
  | _ :: _, _, [], _, h => by simp at h
  | o :: a, b, d :: x, y, h => by simp [optC, optC_app (a := a) (b := b) (x := x) (y := y) (by simpa using h)]

/-! ### addresses, datagrams, segments -/
structure IP where
  v : Int
  a : Nat → Int
def encIP (x : IP) : List Value := [i64 x.v, u8 (x.a 0), u8 (x.a 1), u8 (x.a 2), u8 (x.a 3), u8 (x.a 4), u8 (x.a 5), u8 (x.a 6), u8 (x.a 7), u8 (x.a 8), u8 (x.a 9), u8 (x.a 10), u8 (x.a 11), u8 (x.a 12), u8 (x.a 13), u8 (x.a 14), u8 (x.a 15)]
def IP.ok (x : IP) : Prop := (∀ i, i < 16 → 0 ≤ x.a i ∧ x.a i < 256) ∧ (-9223372036854775808 ≤ x.v ∧ x.v ≤ 9223372036854775807)
def IP.same (x y : IP) : Prop := x.v = y.v ∧ ∀ i, i < 16 → x.a i = y.a i

structure Ip4 where
  tos : Int
  id : Int
  df : Bool
  mf : Bool
  off : Int
  ttl : Int
  proto : Int
  src : IP
  dst : IP
  opts : List Opt
  data : List Int
def encIp4 (h : Ip4) (o d : Value) : List Value := [i64 h.tos, i64 h.id, .bool h.df, .bool h.mf, i64 h.off, i64 h.ttl, i64 h.proto] ++ (encIP h.src ++ (encIP h.dst ++ [o, d]))
def inI (x : Int) : Prop := -9223372036854775808 ≤ x ∧ x ≤ 9223372036854775807
def Ip4.ok (h : Ip4) : Prop := inI h.tos ∧ inI h.id ∧ inI h.off ∧ inI h.ttl ∧ inI h.proto ∧ h.src.ok ∧ h.dst.ok ∧ ∀ o ∈ h.opts, inI o.kind
/-- a datagram's value, as it is read -/
def Ip4V (N : List Nat) (w : World) (v : Value) (h : Ip4) : Prop := ∃ o d, v = .agg (encIp4 h o d).toArray ∧ OS N w o h.opts ∧ BS N w d h.data

structure Udp where
  sport : Int
  dport : Int
  nosum : Bool
  data : List Int
def encUdp (u : Udp) (d : Value) : List Value := [i64 u.sport, i64 u.dport, .bool u.nosum, d]
def UdpV (N : List Nat) (w : World) (v : Value) (u : Udp) : Prop := ∃ d, v = .agg (encUdp u d).toArray ∧ BS N w d u.data

structure Tcp where
  sport : Int
  dport : Int
  seq : Int
  ack : Int
  flags : Int
  win : Int
  urg : Int
  opts : List Opt
  data : List Int
def encTcp (t : Tcp) (o d : Value) : List Value := [i64 t.sport, i64 t.dport, i64 t.seq, i64 t.ack, i64 t.flags, i64 t.win, i64 t.urg, o, d]
def TcpV (N : List Nat) (w : World) (v : Value) (t : Tcp) : Prop := ∃ o d, v = .agg (encTcp t o d).toArray ∧ OS N w o t.opts ∧ BS N w d t.data

end Go.Proofs.YtkahmepenjhcpaaDoor.W
