/- Texts of the proofs of this seat, packed into one (Lk Cr Ll Sg Cu Cv Cw Cs Sh Cx Cy Cz Si Sj Lm Sk Lo Sl Lp Ra Rb Re Rl Rk Sm). No statement of the seat is proved here. -/
import Derived.Test.YtkahmepenjhcpaaDoorRows
import Derived.OpenShut
import Derived.ChangeStays
import Derived.ChangeBears
import Derived.Deep.Slices
import Derived.WideShapes
import Derived.Lib.LaidTab
import Derived.Below
import Derived.ChangeSame
import Derived.ProofKit
import Derived.Test.YtkahmepenjhcpaaDoorIc
/- Contracts: what a segment may hold is bounded. No statement of the seat is proved here. -/
namespace Go.Proofs.YtkahmepenjhcpaaDoor.W
open Go
set_option linter.unusedSimpArgs false
set_option linter.unusedVariables false


section
variable {P : Program} {R : Qp} {ds : List Deferred} {n : Nat} {l : Env} {k : List KI} {w w0 : World} {ops : Array Oper} {os : List Oper}
variable {d : Nat} {G gx gy ex ey : Gs} {ty T T' : TypeId} {ps : String} {af : Array Edge} {gu : Option (Nat × Bool)} {x y : Operand}
theorem maxI {a b : Int} (hx : ev l x = some (gx, .int .i64 a)) (hy : ev l y = some (gy, .int .i64 b)) (hG : gd ops l gu = some G) (hpx : G = gx ++ ex) (hpy : G = gy ++ ey) (hn : Nat.blt d n = true)
    (h : Ro P R ds n ops ((d, G, .int .i64 (if b > a then b else a)) :: l) os k w) :
    Ro P R ds n ops l ({ dst := some d, op := .call { callee := .builtin .max, args := #[x, y], argTypes := #[T, T'] }, type := ty, pos := ps, after := af, guard := gu } :: os) k w := by
  refine opv hG rfl hn ?_ h
  intro hT' a' ha
  simp [execOp, resolve, invoke, builtin, Builtin.max_, Builtin.max2, ha.eval hx (pre_T hpx hT'), ha.eval hy (pre_T hpy hT')]
end


def clM (m : Int) : Int := if 0 > m then 0 else m
theorem clM_bd (m : Int) : 0 ≤ clM m := by unfold clM; split <;> omega
def synN (f : Int) : Int := IntKind.i64.wrap (((f % 2 ^ IntKind.i64.bits).toNat &&& ((2 : Int) % 2 ^ IntKind.i64.bits).toNat : Nat) : Int)
def clB (m f : Int) (o : Opt) : Bool := (toldB o && decide (m < toldN o)) && decide (synN f ≠ 0)
def clampO (m f : Int) (o : Opt) : Opt := if clB m f o = true then ⟨o.kind, [m / 256, m % 256]⟩ else o
def clampT (t : Tcp) (m : Int) : Tcp := { t with opts := t.opts.map (clampO (clM m) t.flags) }
theorem clampO_eta (m f : Int) (o : Opt) : (⟨o.kind, (clampO m f o).data⟩ : Opt) = clampO m f o := by unfold clampO; split <;> rfl
theorem clB_parts {m f : Int} {o : Opt} (h : clB m f o = true) : toldB o = true ∧ m < toldN o ∧ synN f ≠ 0 := by
  simpa only [clB, Bool.and_eq_true, decide_eq_true_eq, and_assoc] using h
theorem told_bd {o : Opt} (h : byt o.data) : 0 ≤ toldN o ∧ toldN o < 65536 := by
  have := wd2_bd h 0
  unfold toldN; split <;> omega
theorem clampO_byt {m f : Int} {o : Opt} (hm : 0 ≤ m) (h : byt o.data) : byt (clampO m f o).data := by
  unfold clampO
  split
  · rename_i hc
    have := clB_parts hc
    have := told_bd h
    exact byt2 (by omega)
  · exact h
theorem St.layOld {w0 w : World} {L L' : List Own} {v : Value} {l : List Int} {i : Nat} (S : St [] w0 L w) (hk : getN L i = some (oB v l)) (hd : delN L i = some L') (hb : byt l) : ∀ N, (∀ i ∈ N, i < w0.heap.size) → BS (idsL L' ++ N) w v l := by
  intro N hN
  obtain ⟨A, B, rfl, rfl⟩ := delN_spec _ _ _ _ hd hk
  refine ⟨hb, Own.sl (S.rowI hk) _ (fun j hj hn => ?_)⟩
  rcases List.mem_append.1 hn with hm | hn
  · have hnd := S.nodup
    simp only [idsL, List.flatMap_append, List.flatMap_cons] at hnd hm
    rw [← List.append_assoc] at hnd
    obtain ⟨ha, _, hc⟩ := List.nodup_append.1 hnd
    obtain ⟨_, _, hab⟩ := List.nodup_append.1 ha
    rcases List.mem_append.1 hm with hm | hm
    · exact hab j hm j hj rfl
    · exact hc j (List.mem_append.2 (.inr hj)) j hm rfl
  · have h1 := S.fresh hk j hj
    have h2 := hN j hn
    omega
theorem rng_lt {w : World} : ∀ i ∈ List.range w.heap.size, i < w.heap.size := fun i hi => List.mem_range.1 hi
theorem tail_sub {o : Own} {L : List Own} {R : List Nat} : ∀ i ∈ idsL L ++ R, i ∈ idsL (o :: L) ++ R := by
  intro i hi
  rcases List.mem_append.1 hi with h | h
  · exact List.mem_append_left _ (by simp only [idsL, List.flatMap_cons]; exact List.mem_append_right _ h)
  · exact List.mem_append_right _ h

set_option maxHeartbeats 1000000 in
theorem c69 (t : Tcp) (m : Int) (o dv : Value) (w : World) (hO : OS [] w o t.opts) (hd : BS [] w dv t.data) (hol : t.opts.length ≤ 1099511627776) (hoo : ∀ p ∈ t.opts, p.data.length ≤ 1099511627776) :
    CallsV Tryd.prog 69 #[.agg (encTcp t o dv).toArray, .int .i64 m] w (fun r w' => ∃ o', r = .agg (encTcp (clampT t m) o' dv).toArray ∧ FOS w w' o' (clampT t m).opts) := by
  refine enter Tryd.func69 rfl Tryd.ntmps69 (l := [(0, [], _), (1, [], _)]) rfl rfl ?_
  have S := St.refl [] w
  obtain ⟨ds, hOS, hOB⟩ := id hO
  have hcm := clM_bd m
  refine Run.seq ?_
  refine Run.region ?_
  refine boxA rfl S rfl ?_
  intro b2 w1 hb2 S B_
  refine alc T82 S rfl ?_
  intro b4 w2 hb4 S B_
  refine Ro.nil ?_
  refine Nrm.code ?_
  refine Run.seq ?_
  refine Run.region ?_
  refine mv1 rfl rfl ?_
  refine maxI rfl rfl rfl rfl rfl rfl ?_
  refine asg1 rfl rfl ?_
  refine Ro.nil ?_
  refine Nrm.code ?_
  refine Run.seq ?_
  refine Run.region ?_
  refine asg1 rfl rfl ?_
  have S := S.nilO
  refine Ro.nil ?_
  refine Nrm.code ?_
  refine Run.seq ?_
  refine Run.seq ?_
  refine Run.region ?_
  refine fld (o' := 7) rfl fo82_7 rfl rfl rfl rfl ?_
  refine ld1 rfl T25 S (i := 2) rfl rfl rfl rfl rfl ?_
  refine lenS rfl hOS Tryd.underlying25 rfl rfl rfl ?_
  refine mv1 rfl rfl ?_
  refine Ro.nil ?_
  refine Nrm.code ?_
  refine Run.block ?_
  refine Run.loop4 (fun (i : Nat) (u : Value) (acc : List Opt) (vs : List Value) w_ => i ≤ t.opts.length ∧ vs.length = acc.length ∧ acc = (t.opts.take i).map (clampO (clM m) t.flags) ∧ OSs (idsL [oO u acc vs, .var b4 82 [.int .i64 0, .int .i64 0, .int .i64 0, .int .i64 0, .int .i64 0, .int .i64 0, .int .i64 0, .slice none 0 0, .slice none 0 0], .var b2 82 (encTcp t o dv)] ++ List.range w.heap.size) w_ vs acc ∧ St [] w [oO u acc vs, .var b4 82 [.int .i64 0, .int .i64 0, .int .i64 0, .int .i64 0, .int .i64 0, .int .i64 0, .int .i64 0, .slice none 0 0, .slice none 0 0], .var b2 82 (encTcp t o dv)] w_) (fun (i : Nat) (u : Value) (acc : List Opt) (vs : List Value) => [(1, [], .int .i64 (clM m)), (2, [], .pointer (some ⟨b2, 0, none⟩)), (4, [], .pointer (some ⟨b4, 0, none⟩)), (5, [], u), (13, [], o), (14, [], .int .i64 t.opts.length), (15, [], .int .i64 i)]) (fun (i : Nat) (u : Value) (acc : List Opt) (vs : List Value) => t.opts.length - i) (0) (_) ([]) ([]) ⟨Nat.zero_le _, rfl, rfl, trivial, S⟩ ⟨rfl, rfl, rfl, rfl, rfl, rfl, rfl, trivial⟩ ?_
  rintro i u acc vs w3 ⟨hi, hvl, hacc, hvs, S⟩
  have hal : acc.length = i := by rw [hacc, List.length_map, List.length_take]; omega
  refine Run.seq ?_
  refine Run.region ?_
  refine lss1 rfl rfl rfl ?_
  refine Ro.nil ?_
  refine Nrm.code ?_
  refine Run.seq ?_
  refine Run.cond rfl (fun hc4 => ?_) (fun hc4 => ?_)
  ·
    try simp only [Bool.or_eq_true, Bool.and_eq_true, Bool.or_eq_false_iff, Bool.and_eq_false_iff, decide_eq_true_eq, decide_eq_false_iff_not, Bool.not_eq_true', Bool.not_eq_false', Bool.not_eq_true, Bool.not_eq_false] at hc4
    refine Run.skip ?_
    refine Nrm.code ?_
    refine Run.seq ?_
    refine Run.block ?_
    refine Run.seq ?_
    refine Run.region ?_
    obtain ⟨N1, hN1, S_1⟩ := S.reb
    have hO := hO.st S; rw [hN1] at hO
    have hd := hd.st S; rw [hN1] at hd
    have hOS := hOS.st S; rw [hN1] at hOS
    have hOB := hOB.st S; rw [hN1] at hOB
    rw [hN1] at hvs
    have SS := S
    have SL := S
    have S := S_1
    obtain ⟨p1, hp1, hb1⟩ := hOB.at (i := i) (by omega)
    refine ixa rfl rfl hOS e25 rfl rfl rfl rfl (fun _ => by first | omega | (simp only [List.length_cons, List.length_nil]; omega)) ?_
    refine ldEA rfl hOS S T93 rfl rfl rfl (by decide) rfl (fun _ => hOB.two (by omega) hp1) ?_
    refine alc T93 S rfl ?_
    intro b7 w4 hb7 S B_
    refine stW rfl rfl T93 rfl rfl (one_cons rfl (one_cons hb1.one one_nil)) S (i := 0) rfl rfl ?_
    intro w5 S
    refine Ro.nil ?_
    refine Nrm.code ?_
    refine Run.seq ?_
    refine Run.region ?_
    refine fld (o' := 1) rfl fo93_1 rfl rfl rfl rfl ?_
    refine ld1 rfl T26 S (i := 0) rfl rfl rfl rfl rfl ?_
    have S := S.nilB
    refine apB rfl rfl e26 (hb1.now S) S (i := 0) rfl rfl (fun _ => rfl) (by have := hoo _ (getD_mem' (d := o0) (show i < t.opts.length by omega)); simp only [List.length_nil]; omega) ?_
    intro q6 w6 S B_
    rw [List.nil_append] at S
    refine fld (o' := 1) rfl fo93_1 rfl rfl rfl rfl ?_
    refine st1 rfl rfl T26 (S.slI (i := 0) rfl).one S (i := 1) rfl rfl rfl ?_
    intro w7 S
    refine Ro.nil ?_
    refine Nrm.code ?_
    refine Run.cut (γ := Value) (fun g w_ => St N1 w3 [oB g (clampO (clM m) t.flags (t.opts.getD i o0)).data, .var b7 93 [i64 (t.opts.getD i o0).kind, g], oO u acc vs, .var b4 82 [.int .i64 0, .int .i64 0, .int .i64 0, .int .i64 0, .int .i64 0, .int .i64 0, .int .i64 0, .slice none 0 0, .slice none 0 0], .var b2 82 (encTcp t o dv)] w_) (fun g => [(1, [], .int .i64 (clM m)), (2, [], .pointer (some ⟨b2, 0, none⟩)), (4, [], .pointer (some ⟨b4, 0, none⟩)), (5, [], u), (7, [], .pointer (some ⟨b7, 0, none⟩)), (13, [], o), (14, [], .int .i64 t.opts.length), (15, [], .int .i64 i)]) ?_ ?_
    ·
      refine Run.seq ?_
      refine Run.region ?_
      refine ldW rfl T93 S (i := 1) rfl rfl rfl rfl rfl ?_
      refine calg (vs := [_]) rfl ⟨⟨_, _, rfl, rfl⟩, trivial⟩ k128 rfl (fun hG => c128 (t.opts.getD i o0) _ _ (S.bsI (i := 0) rfl hb1.1)) ?_
      intro w8 B_; have S := S.call B_
      refine mv1 rfl rfl ?_
      refine extr1 rfl rfl rfl ?_
      refine extr1 rfl rfl rfl ?_
      refine asg1 rfl rfl ?_
      refine asg1 rfl rfl ?_
      refine Ro.nil ?_
      refine Nrm.code ?_
      refine Run.seq ?_
      refine Run.region ?_
      refine mv1 rfl rfl ?_
      refine mv1 rfl rfl ?_
      refine mv rfl rfl rfl rfl ?_
      refine mv rfl rfl rfl rfl ?_
      refine gtr rfl rfl rfl rfl rfl rfl ?_
      refine pkA rfl rfl rfl rfl rfl rfl ?_
      refine mv1 rfl rfl ?_
      refine fld (o' := 4) rfl fo82_4 rfl rfl rfl rfl ?_
      refine ld1 rfl T3 S (i := 4) rfl rfl rfl rfl rfl ?_
      refine band rfl rfl rfl rfl rfl rfl (fun hG => by first | exact rfl | (simp [allT] at hG; exact rfl)) ?_
      refine neq rfl rfl rfl rfl rfl rfl ?_
      refine pkA rfl rfl rfl rfl rfl rfl ?_
      refine Ro.nil ?_
      refine Nrm.code ?_
      refine Run.cond rfl (fun hc8 => ?_) (fun hc8 => ?_)
      ·
        refine Run.region ?_
        have hcl := clB_parts (show clB (clM m) t.flags (t.opts.getD i o0) = true from hc8)
        have htb := told_bd hb1.1
        refine mv1 rfl rfl ?_
        refine shr rfl rfl rfl rfl rfl rfl (fun _ => by decide) (fun _ => sh8 _) ?_
        refine cvi1 rfl rfl Tryd.underlying3 Tryd.underlying5 (w8of (y := clM m / 256) rfl (by omega)) ?_
        refine mv1 rfl rfl ?_
        refine cvi1 rfl rfl Tryd.underlying3 Tryd.underlying5 (w8m (clM m)) ?_
        refine bsl e26 (qs := [(_, _), (_, _)]) ⟨⟨_, _, _, rfl, rfl, rfl, rfl, by first | (simp [Value.cells]; done) | simp [Value.cells, encIP]⟩, ⟨_, _, _, rfl, rfl, rfl, rfl, by first | (simp [Value.cells]; done) | simp [Value.cells, encIP]⟩, trivial⟩ rfl rfl rfl rfl S ?_
        intro u45 w9 S B_
        have S : St _ _ (oB u45 [clM m / 256, clM m % 256] :: _) w9 := S
        refine fld (o' := 1) rfl fo93_1 rfl rfl rfl rfl ?_
        refine st1 rfl rfl T26 (S.slI (i := 0) rfl).one S (i := 2) rfl rfl rfl ?_
        intro w10 S
        refine Ro.nil ?_
        exact Nrm.cut _ (by rw [clampO, if_pos (show clB (clM m) t.flags (t.opts.getD i o0) = true from hc8)]; exact S.pick [true, false, true, true, true, true] rfl) ⟨rfl, rfl, rfl, rfl, rfl, rfl, rfl, rfl, trivial⟩
      ·
        refine Run.skip ?_
        exact Nrm.cut _ (by rw [clampO, if_neg (show ¬ clB (clM m) t.flags (t.opts.getD i o0) = true from by rw [show clB (clM m) t.flags (t.opts.getD i o0) = false from hc8]; simp)]; exact S) ⟨rfl, rfl, rfl, rfl, rfl, rfl, rfl, rfl, trivial⟩
    ·
      rintro q2 w8 S
      refine Run.region ?_
      refine mv1 rfl rfl ?_
      refine ldW rfl T93 S (i := 1) rfl rfl rfl rfl rfl ?_
      refine apOF (dt := (clampO (clM m) t.flags (t.opts.getD i o0)).data) rfl e25 (qs := [(_, _)]) ⟨⟨_, _, _, rfl, rfl, rfl, rfl, by first | (simp [Value.cells]; done) | simp [Value.cells, encIP]⟩, trivial⟩ rfl (S.slI (i := 0) rfl).one hvl S (i := 2) rfl rfl rfl (fun t e => by cases e; rfl) (fun _ => rfl) (by first | omega | (simp only [List.length_nil, List.length_append, List.length_cons]; omega)) ?_
      intro u_ u2 w9 S B_
      refine asg1 rfl rfl ?_
      refine Ro.nil ?_
      refine Nrm.blk ?_
      refine Nrm.code ?_
      refine Run.region ?_
      refine add1 rfl rfl rfl (w64 (by omega)) ?_
      refine mv1 rfl rfl ?_
      refine Ro.nil ?_
      refine Nrm.loop4 (i + 1) (_) (_) (_) ⟨by omega, by simp [hvl], by rw [clampO_eta, take_succ_getD (show i < t.opts.length by omega) (d := o0), List.map_append, hacc]; rfl,
              OSs.snoc (BSs.weak tail_sub (OSs.reF hvs (S.pick [true, false, true, true, true] rfl))) (((SS.tran hN1 S).pick [true, false, true, true, true] rfl).layOld (i := 0) rfl rfl (clampO_byt (clM_bd m) hb1.1) _ rng_lt), (SS.tran hN1 S).pick [false, false, true, true, true] rfl⟩ (by omega) ⟨rfl, rfl, rfl, rfl, rfl, rfl, rfl, trivial⟩
  ·
    try simp only [Bool.or_eq_true, Bool.and_eq_true, Bool.or_eq_false_iff, Bool.and_eq_false_iff, decide_eq_true_eq, decide_eq_false_iff_not, Bool.not_eq_true', Bool.not_eq_false', Bool.not_eq_true, Bool.not_eq_false] at hc4
    refine Run.exit ?_
    refine Lv.code ?_
    refine Lv.back ?_
    refine Lv.hit ?_
    refine Nrm.code ?_
    refine Run.seq ?_
    refine Run.region ?_
    obtain ⟨N2, hN2, S_2⟩ := S.reb
    have hO := hO.st S; rw [hN2] at hO
    have hd := hd.st S; rw [hN2] at hd
    have hOS := hOS.st S; rw [hN2] at hOS
    have hOB := hOB.st S; rw [hN2] at hOB
    rw [hN2] at hvs
    have SS := S
    have S := S_2
    refine mv1 rfl rfl ?_
    refine fld (o' := 7) rfl fo82_7 rfl rfl rfl rfl ?_
    refine st1 rfl rfl T25 (S.slI (i := 0) rfl).one S (i := 2) rfl rfl rfl ?_
    intro w4 S
    refine Ro.nil ?_
    refine Nrm.code ?_
    refine Run.seq ?_
    refine Run.region ?_
    refine ldW rfl T82 S (i := 2) rfl rfl rfl rfl rfl ?_
    refine stW rfl rfl T82 rfl rfl (one_cons rfl (one_cons rfl (one_cons rfl (one_cons rfl (one_cons rfl (one_cons rfl (one_cons rfl (one_cons (S.slI (i := 0) rfl).one (one_cons hd.one one_nil))))))))) S (i := 1) rfl rfl ?_
    intro w5 S
    refine Ro.nil ?_
    refine Nrm.code ?_
    refine Run.ret ?_
    refine Rt.cell1 rfl rfl T82 S (i := 1) rfl rfl ?_
    have e : i = t.opts.length := by omega
    rw [e, List.take_length] at hacc
    subst hacc
    exact ⟨u, rfl, (SS.tran hN2 S).toFOS (i := 0) rfl (fun N hN => hvs.fin S hN)⟩

end Go.Proofs.YtkahmepenjhcpaaDoor.W

/- Contracts: the plain datagram. No statement of the seat is proved here. -/
namespace Go.Proofs.YtkahmepenjhcpaaDoor.W
open Go
set_option linter.unusedSimpArgs false
set_option linter.unusedVariables false


def plainH : Ip4 := ⟨0, 0, false, false, 0, 64, 17, ip4of 10 0 0 1, ip4of 10 0 0 2, [], [104, 105]⟩
def plainB : List Int := [69, 0, 0, 22, 0, 0, 0, 0, 64, 17, 102, 213, 10, 0, 0, 1, 10, 0, 0, 2, 104, 105]
theorem plain_chk : chkE plainH = 0 := by decide +kernel
theorem plain_ser : serL plainH = plainB := by decide +kernel
theorem plain_opt : optE (optB4 plainB) = 0 ∧ optL (optB4 plainB) = [] := by
  have e : optB4 plainB = [] := by decide +kernel
  rw [e]; simp [optE, optL, optsG]
theorem plain_par : parE plainB = 0 := by
  unfold parE
  rw [plain_opt.1]
  decide +kernel
theorem plain_same : sameH (parH plainB) plainH = true := by
  unfold parH
  rw [if_pos plain_par]
  unfold sameH parG
  rw [plain_opt.2]
  decide +kernel
theorem par_nil : parE [] = 60 := by decide +kernel
theorem plainH_ok : plainH.src.ok ∧ plainH.dst.ok := ⟨ip4of_ok (by omega) (by omega) (by omega) (by omega), ip4of_ok (by omega) (by omega) (by omega) (by omega)⟩
theorem hi_byt : byt [104, 105] := by intro x hx; revert x; decide +kernel
theorem plainB_byt : byt plainB := by intro x hx; revert x; decide +kernel

set_option maxHeartbeats 1000000 in
theorem c92 (w : World) :
    CallsV Tryd.prog 92 #[] w (fun r w' => ∃ d v, r = .tuple #[.agg (encIp4 plainH (.slice none 0 0) d).toArray, v] ∧ Bl w w' ∧ ∀ N, (∀ i ∈ N, i < w.heap.size) → BS N w' d [104, 105] ∧ BS N w' v plainB) := by
  refine enter Tryd.func92 rfl Tryd.ntmps92 (l := []) rfl rfl ?_
  have S := St.refl [] w
  refine Run.seq ?_
  refine Run.region ?_
  refine alc T28 S rfl ?_
  intro b0 w1 hb0 S B_
  refine asg1 rfl rfl ?_
  refine Ro.nil ?_
  refine Nrm.code ?_
  refine Run.seq ?_
  refine Run.region ?_
  refine bldA rfl (sz := 1) (E := 5) (m := 16) Tryd.underlying22 T22 T5 (qs := [(_, _), (_, _), (_, _), (_, _)]) ⟨⟨_, _, _, rfl, rfl, rfl, rfl, by simp [Value.cells]⟩, ⟨_, _, _, rfl, rfl, rfl, rfl, by simp [Value.cells]⟩, ⟨_, _, _, rfl, rfl, rfl, rfl, by simp [Value.cells]⟩, ⟨_, _, _, rfl, rfl, rfl, rfl, by simp [Value.cells]⟩, trivial⟩ rfl rfl ?_
  refine bld B24 (qs := [(_, _), (_, _)]) ⟨⟨_, _, _, rfl, rfl, rfl, rfl, by simp [Value.cells]⟩, ⟨_, _, _, rfl, rfl, rfl, rfl, by simp [Value.cells]⟩, trivial⟩ rfl rfl rfl ?_
  refine bldA rfl (sz := 1) (E := 5) (m := 16) Tryd.underlying22 T22 T5 (qs := [(_, _), (_, _), (_, _), (_, _)]) ⟨⟨_, _, _, rfl, rfl, rfl, rfl, by simp [Value.cells]⟩, ⟨_, _, _, rfl, rfl, rfl, rfl, by simp [Value.cells]⟩, ⟨_, _, _, rfl, rfl, rfl, rfl, by simp [Value.cells]⟩, ⟨_, _, _, rfl, rfl, rfl, rfl, by simp [Value.cells]⟩, trivial⟩ rfl rfl ?_
  refine bld B24 (qs := [(_, _), (_, _)]) ⟨⟨_, _, _, rfl, rfl, rfl, rfl, by simp [Value.cells]⟩, ⟨_, _, _, rfl, rfl, rfl, rfl, by simp [Value.cells]⟩, trivial⟩ rfl rfl rfl ?_
  refine bsk (b := [104, 105]) e26 Tryd.underlying5 hi_byt (qs := [(_, _), (_, _)]) ⟨⟨_, _, _, rfl, rfl, rfl, rfl, by simp [Value.cells]⟩, ⟨_, _, _, rfl, rfl, rfl, rfl, by simp [Value.cells]⟩, trivial⟩ rfl rfl rfl rfl rfl (by decide) S ?_
  have S0 := S
  intro u q w2 S B_ hq
  have hq1 := hq [] (by simp)
  have Sb := S
  have S := S.rebase
  refine bld B28 (qs := [(_, _), (_, _), (_, _), (_, _), (_, _)]) ⟨⟨_, _, _, rfl, rfl, rfl, rfl, by simp [Value.cells]⟩, ⟨_, _, _, rfl, rfl, rfl, rfl, by simp [Value.cells]⟩, ⟨_, _, _, rfl, rfl, rfl, rfl, by simp [Value.cells]⟩, ⟨_, _, _, rfl, rfl, rfl, rfl, by simp [Value.cells]⟩, ⟨_, _, _, rfl, rfl, cells1 hq1.one, rfl, List.cons_ne_nil _ _⟩, trivial⟩ rfl rfl rfl ?_
  refine alc T28 S rfl ?_
  intro b2 w3 hb2 S B_
  refine stW rfl rfl T28 rfl rfl (one_cons rfl (one_cons rfl (one_cons rfl (one_cons rfl (one_cons rfl (one_cons rfl (one_cons rfl (one_cons rfl (one_cons rfl (one_cons rfl (one_cons rfl (one_cons rfl (one_cons rfl (one_cons rfl (one_cons rfl (one_cons rfl (one_cons rfl (one_cons rfl (one_cons rfl (one_cons rfl (one_cons rfl (one_cons rfl (one_cons rfl (one_cons rfl (one_cons rfl (one_cons rfl (one_cons rfl (one_cons rfl (one_cons rfl (one_cons rfl (one_cons rfl (one_cons rfl (one_cons rfl (one_cons rfl (one_cons rfl (one_cons rfl (one_cons rfl (one_cons rfl (one_cons rfl (one_cons rfl (one_cons rfl (one_cons rfl (one_cons hq1.one one_nil))))))))))))))))))))))))))))))))))))))))))) S (i := 0) rfl rfl ?_
  intro w4 S
  refine Ro.nil ?_
  refine Nrm.code ?_
  refine Run.seq ?_
  refine Run.region ?_
  refine ldW rfl T28 S (i := 0) rfl rfl rfl rfl rfl ?_
  refine bsl e26 (qs := [(_, _), (_, _), (_, _), (_, _), (_, _), (_, _), (_, _), (_, _), (_, _), (_, _), (_, _), (_, _), (_, _), (_, _), (_, _), (_, _), (_, _), (_, _), (_, _), (_, _), (_, _), (_, _)]) ⟨⟨_, _, _, rfl, rfl, rfl, rfl, by simp [Value.cells]⟩, ⟨_, _, _, rfl, rfl, rfl, rfl, by simp [Value.cells]⟩, ⟨_, _, _, rfl, rfl, rfl, rfl, by simp [Value.cells]⟩, ⟨_, _, _, rfl, rfl, rfl, rfl, by simp [Value.cells]⟩, ⟨_, _, _, rfl, rfl, rfl, rfl, by simp [Value.cells]⟩, ⟨_, _, _, rfl, rfl, rfl, rfl, by simp [Value.cells]⟩, ⟨_, _, _, rfl, rfl, rfl, rfl, by simp [Value.cells]⟩, ⟨_, _, _, rfl, rfl, rfl, rfl, by simp [Value.cells]⟩, ⟨_, _, _, rfl, rfl, rfl, rfl, by simp [Value.cells]⟩, ⟨_, _, _, rfl, rfl, rfl, rfl, by simp [Value.cells]⟩, ⟨_, _, _, rfl, rfl, rfl, rfl, by simp [Value.cells]⟩, ⟨_, _, _, rfl, rfl, rfl, rfl, by simp [Value.cells]⟩, ⟨_, _, _, rfl, rfl, rfl, rfl, by simp [Value.cells]⟩, ⟨_, _, _, rfl, rfl, rfl, rfl, by simp [Value.cells]⟩, ⟨_, _, _, rfl, rfl, rfl, rfl, by simp [Value.cells]⟩, ⟨_, _, _, rfl, rfl, rfl, rfl, by simp [Value.cells]⟩, ⟨_, _, _, rfl, rfl, rfl, rfl, by simp [Value.cells]⟩, ⟨_, _, _, rfl, rfl, rfl, rfl, by simp [Value.cells]⟩, ⟨_, _, _, rfl, rfl, rfl, rfl, by simp [Value.cells]⟩, ⟨_, _, _, rfl, rfl, rfl, rfl, by simp [Value.cells]⟩, ⟨_, _, _, rfl, rfl, rfl, rfl, by simp [Value.cells]⟩, ⟨_, _, _, rfl, rfl, rfl, rfl, by simp [Value.cells]⟩, trivial⟩ rfl rfl rfl rfl S ?_
  intro u11 w5 S B_
  refine stW rfl rfl T28 rfl rfl (one_cons rfl (one_cons rfl (one_cons rfl (one_cons rfl (one_cons rfl (one_cons rfl (one_cons rfl (one_cons rfl (one_cons rfl (one_cons rfl (one_cons rfl (one_cons rfl (one_cons rfl (one_cons rfl (one_cons rfl (one_cons rfl (one_cons rfl (one_cons rfl (one_cons rfl (one_cons rfl (one_cons rfl (one_cons rfl (one_cons rfl (one_cons rfl (one_cons rfl (one_cons rfl (one_cons rfl (one_cons rfl (one_cons rfl (one_cons rfl (one_cons rfl (one_cons rfl (one_cons rfl (one_cons rfl (one_cons rfl (one_cons rfl (one_cons rfl (one_cons rfl (one_cons rfl (one_cons rfl (one_cons rfl (one_cons rfl (one_cons hq1.one one_nil))))))))))))))))))))))))))))))))))))))))))) S (i := 2) rfl rfl ?_
  intro w6 S
  refine asg1 rfl rfl ?_
  refine Ro.nil ?_
  refine Nrm.code ?_
  refine Run.ret ?_
  refine Rt.cell2 rfl rfl rfl T28 S (i := 2) rfl rfl ?_
  exact ⟨q, u11, rfl, (Sb.trans S).bl, fun N hN => ⟨((hq _ (below_app S0 hN)).stN (fun _ h => List.mem_append_left _ h) S).weak (fun j hj => List.mem_append_right _ (List.mem_append_right _ hj)), ((Sb.trans S).toFB (i := 0) (l := plainB) rfl).bs plainB_byt hN⟩⟩

set_option maxHeartbeats 1000000 in
theorem c28 (w : World) (hg : GV [] w 0 130 (W4.map i64)) :
    CallsD Tryd.prog 28 #[] w (.bool true) := by
  refine enter Tryd.func28 rfl Tryd.ntmps28 (l := []) rfl rfl ?_
  have S := St.refl [] w
  refine Run.seq ?_
  refine Run.region ?_
  refine asg1 rfl rfl ?_
  refine Ro.nil ?_
  refine Nrm.code ?_
  refine Run.seq ?_
  refine Run.region ?_
  refine call (vs := []) trivial k92 rfl (c92 _) ?_
  rintro _ w1 ⟨d1, v1, rfl, B1, hq⟩
  have Sb := S.call B1
  have hg := (hg.now Sb)
  have S := St.refl [] w1
  have hd1 := (hq [] (by simp)).1
  have hv1 := (hq [] (by simp)).2
  refine mv1 rfl rfl ?_
  refine extr1 rfl rfl rfl ?_
  refine extr1 rfl rfl rfl ?_
  refine alc T28 S rfl ?_
  intro b1 w2 hb1 S B_
  refine stW rfl rfl T28 rfl rfl (one_cons rfl (one_cons rfl (one_cons rfl (one_cons rfl (one_cons rfl (one_cons rfl (one_cons rfl (one_cons rfl (one_cons rfl (one_cons rfl (one_cons rfl (one_cons rfl (one_cons rfl (one_cons rfl (one_cons rfl (one_cons rfl (one_cons rfl (one_cons rfl (one_cons rfl (one_cons rfl (one_cons rfl (one_cons rfl (one_cons rfl (one_cons rfl (one_cons rfl (one_cons rfl (one_cons rfl (one_cons rfl (one_cons rfl (one_cons rfl (one_cons rfl (one_cons rfl (one_cons rfl (one_cons rfl (one_cons rfl (one_cons rfl (one_cons rfl (one_cons rfl (one_cons rfl (one_cons rfl (one_cons rfl (one_cons rfl (one_cons hd1.one one_nil))))))))))))))))))))))))))))))))))))))))))) S (i := 0) rfl rfl ?_
  intro w3 S
  refine asg1 rfl rfl ?_
  refine Ro.nil ?_
  refine Nrm.code ?_
  refine Run.seq ?_
  refine Run.region ?_
  refine ldW rfl T28 S (i := 0) rfl rfl rfl rfl rfl ?_
  refine call (vs := [_]) ⟨⟨_, _, rfl, rfl⟩, trivial⟩ k30 rfl (c30 _ _ _ _ (OS.nil _ _) (hd1.now S) (by decide) (by decide) plainH_ok.1 plainH_ok.2 (hg.now S)) ?_
  rintro _ w4 ⟨u3, rfl, hF⟩
  have S := S.fb hF
  refine mv1 rfl rfl ?_
  refine extr1 rfl rfl rfl ?_
  refine extr1 rfl rfl rfl ?_
  refine asg1 rfl rfl ?_
  refine asg1 rfl rfl ?_
  refine Ro.nil ?_
  refine Nrm.code ?_
  refine Run.seq ?_
  refine Run.region ?_
  refine mv1 rfl rfl ?_
  refine call (vs := [_]) ⟨⟨_, _, rfl, rfl⟩, trivial⟩ k33 rfl (c33 _ _ _ (hv1.now S) (hg.now S)) ?_
  rintro _ w5 ⟨o5, d5, vs5, rfl, hF, hw5⟩
  have S := S.fo hF
  have hd5 := (hw5 _ _ hv1).2
  have ho5 := (hw5 _ _ hv1).1
  refine mv1 rfl rfl ?_
  refine extr1 rfl rfl rfl ?_
  refine extr1 rfl rfl rfl ?_
  refine alc T28 S rfl ?_
  intro b5 w6 hb5 S B_
  refine stW rfl rfl T28 rfl rfl (one_cons rfl (one_cons rfl (one_cons rfl (one_cons rfl (one_cons rfl (one_cons rfl (one_cons rfl (one_cons rfl (one_cons rfl (one_cons rfl (one_cons rfl (one_cons rfl (one_cons rfl (one_cons rfl (one_cons rfl (one_cons rfl (one_cons rfl (one_cons rfl (one_cons rfl (one_cons rfl (one_cons rfl (one_cons rfl (one_cons rfl (one_cons rfl (one_cons rfl (one_cons rfl (one_cons rfl (one_cons rfl (one_cons rfl (one_cons rfl (one_cons rfl (one_cons rfl (one_cons rfl (one_cons rfl (one_cons rfl (one_cons rfl (one_cons rfl (one_cons rfl (one_cons rfl (one_cons rfl (one_cons rfl (one_cons (S.slI (i := 1) rfl).one (one_cons hd5.one one_nil))))))))))))))))))))))))))))))))))))))))))) S (i := 0) rfl rfl ?_
  intro w7 S
  refine asg1 rfl rfl ?_
  refine Ro.nil ?_
  refine Nrm.code ?_
  refine Run.seq ?_
  refine Run.region ?_
  refine call (vs := [_]) ⟨⟨_, _, rfl, rfl⟩, trivial⟩ k33 rfl (c33 _ _ _ (BS.nil _ _) (hg.now S)) ?_
  rintro _ w8 ⟨o7, d7, vs7, rfl, hF, hw7⟩
  have S := S.fo hF
  have hd7 := (hw7 _ _ (BS.nil [] w1)).2
  have ho7 := (hw7 _ _ (BS.nil [] w1)).1
  refine mv1 rfl rfl ?_
  refine extr1 rfl rfl rfl ?_
  refine extr1 rfl rfl rfl ?_
  refine alc T28 S rfl ?_
  intro b7 w9 hb7 S B_
  refine stW rfl rfl T28 rfl rfl (one_cons rfl (one_cons rfl (one_cons rfl (one_cons rfl (one_cons rfl (one_cons rfl (one_cons rfl (one_cons rfl (one_cons rfl (one_cons rfl (one_cons rfl (one_cons rfl (one_cons rfl (one_cons rfl (one_cons rfl (one_cons rfl (one_cons rfl (one_cons rfl (one_cons rfl (one_cons rfl (one_cons rfl (one_cons rfl (one_cons rfl (one_cons rfl (one_cons rfl (one_cons rfl (one_cons rfl (one_cons rfl (one_cons rfl (one_cons rfl (one_cons rfl (one_cons rfl (one_cons rfl (one_cons rfl (one_cons rfl (one_cons rfl (one_cons rfl (one_cons rfl (one_cons rfl (one_cons rfl (one_cons rfl (one_cons (S.slI (i := 1) rfl).one (one_cons hd7.one one_nil))))))))))))))))))))))))))))))))))))))))))) S (i := 0) rfl rfl ?_
  intro w10 S
  refine asg1 rfl rfl ?_
  refine Ro.nil ?_
  refine Nrm.code ?_
  refine Run.seq ?_
  refine Run.region ?_
  refine mv1 rfl rfl ?_
  refine calg (vs := [_]) rfl ⟨⟨_, _, rfl, rfl⟩, trivial⟩ k31 rfl (fun hG => c31 (chkE plainH) _ (by rw [plain_chk]; decide)) ?_
  intro w11 B_; have S := S.call B_
  refine eql1 rfl rfl rfl ?_
  refine mv1 rfl rfl ?_
  refine mv rfl rfl rfl rfl ?_
  refine calg (vs := [_]) rfl ⟨⟨_, _, rfl, rfl⟩, trivial⟩ k31 rfl (fun hG => c31 (parE plainB) _ (by rw [plain_par]; decide)) ?_
  intro w12 B_; have S := S.call B_
  refine eql rfl rfl rfl rfl rfl rfl ?_
  refine pkA rfl rfl rfl rfl rfl rfl ?_
  refine mv1 rfl rfl ?_
  refine mv rfl rfl rfl rfl ?_
  refine calg (vs := [_]) rfl ⟨⟨_, _, rfl, rfl⟩, trivial⟩ k31 rfl (fun hG => c31 (parE []) _ (by rw [par_nil]; decide)) ?_
  intro w13 B_; have S := S.call B_
  refine eql rfl rfl rfl rfl rfl rfl ?_
  refine pkA rfl rfl rfl rfl rfl rfl ?_
  refine mv1 rfl rfl ?_
  refine mv rfl rfl rfl rfl ?_
  refine mv rfl rfl rfl rfl ?_
  have hby_u3 : byt (serL plainH) := by rw [plain_ser]; exact plainB_byt
  refine calg (vs := [_, _]) rfl ⟨⟨_, _, rfl, rfl⟩, ⟨_, _, rfl, rfl⟩, trivial⟩ k37 rfl (fun hG => c37 _ _ _ _ _ (hv1.now S) (S.bsI (i := 4) rfl hby_u3)) ?_
  intro w14 B_; have S := S.call B_
  refine pkA rfl rfl rfl rfl rfl rfl ?_
  refine mv1 rfl rfl ?_
  refine ldW rfl T28 S (i := 2) rfl rfl rfl rfl rfl ?_
  refine ldW rfl T28 S (i := 5) rfl rfl rfl rfl rfl ?_
  refine calg (vs := [_, _]) rfl ⟨⟨_, _, rfl, rfl⟩, ⟨_, _, rfl, rfl⟩, trivial⟩ k34 rfl (fun hG => c34 _ _ _ _ _ _ _ (S.osI (i := 3) rfl (ho5.now S)) (hd5.now S) (OS.nil _ _) (hd1.now S) (by have := (parH_ok plainB_byt).2.2.1; omega)) ?_
  intro w15 B_; have S := S.call B_
  refine pkA rfl rfl rfl rfl rfl rfl ?_
  refine asg1 rfl rfl ?_
  refine Ro.nil ?_
  refine Nrm.code ?_
  refine Run.ret ?_
  refine Rt.one rfl rfl ?_
  exact ⟨by simp [plain_chk, plain_par, par_nil, plain_ser, plain_same], Sb.bl.trans S.bl⟩

end Go.Proofs.YtkahmepenjhcpaaDoor.W

/- Contracts: the endpoints, and what is started. No statement of the seat is proved here. -/
namespace Go.Proofs.YtkahmepenjhcpaaDoor.W
open Go
set_option linter.unusedSimpArgs false
set_option linter.unusedVariables false


section
variable {P : Program} {n : Nat} {l : Env} {k : List KI} {w w0 : World} {N0 : List Nat} {L : List Own}
theorem Rt.cells2 {fn : Func} {Rr : Value → World → Prop} {t u : Nat} {T U : TypeId} {sz sz' b b' i j : Nat} {T' U' : TypeId} {c c' zc zc' : List Value} (hr : fn.results = #[.cell t T, .cell u U]) (ht : lk l t = some ([], .pointer (some ⟨b, 0, none⟩))) (hu : lk l u = some ([], .pointer (some ⟨b', 0, none⟩)))
    (hT : TyI P T sz true zc) (hU : TyI P U sz' true zc') (S : St N0 w0 L w) (hk : getN L i = some (.var b T' c)) (hl : c.length = sz) (hk' : getN L j = some (.var b' U' c')) (hl' : c'.length = sz') (h : Rr (.tuple #[.agg c.toArray, .agg c'.toArray]) w) :
    Rt P (bodyPost P fn (RV Rr)) [] n l k w :=
  Rt.top (R := bodyPost P fn (RV Rr)) (fun a ha => show bodyPost P fn (RV Rr) .ret a w from bodyPost_ret (v := .tuple #[.agg c.toArray, .agg c'.toArray]) (by
    have h1 := ha.getD ht
    have h2 := ha.getD hu
    simp only [Array.getD_eq_getD_getElem?] at h1 h2
    simp [results, hr, h1, h2, asAddr, loadVarRun hT S hk hl, loadVarRun hU S hk' hl']) ha.defers h) k
end
def eS : IP := ip4of 10 0 0 1
def eD : IP := ip4of 10 0 0 2
theorem eS_ok : eS.ok := ip4of_ok (by omega) (by omega) (by omega) (by omega)
theorem eD_ok : eD.ok := ip4of_ok (by omega) (by omega) (by omega) (by omega)
def uA : Udp := ⟨1, 2, false, [104, 105]⟩
def uAB : List Int := [0, 1, 0, 2, 0, 10, 131, 107, 104, 105]
def uN : Udp := ⟨-1, 0, false, List.replicate 65528 0⟩
def tA : Tcp := ⟨1, 2, 0, 0, 0, 0, 0, [⟨3, [7]⟩], []⟩
def tM : Tcp := ⟨0, 0, 0, 0, 0, 0, 0, [⟨2, [5, 180]⟩], []⟩
theorem uAB_byt : byt uAB := by intro x hx; revert x; decide +kernel
theorem b7_byt : byt [7] := by intro x hx; revert x; decide +kernel
theorem b5_byt : byt [5, 180] := by intro x hx; revert x; decide +kernel
theorem uA_putE : putUE eS eD uA = 0 := by decide +kernel
theorem uA_putL : putUL eS eD uA = uAB := by decide +kernel
theorem uA_parE : udpE eS eD uAB = 0 := by decide +kernel
theorem uA_same : sameU uA (udpU eS eD uAB) = true := by decide +kernel
theorem uN_chk : chkU 4 uN = 98 := by
  have : badU 4 uN = true := rfl
  unfold chkU
  rw [if_neg (by decide), if_pos this]
theorem tA_putE : putTE eS eD tA = 0 := by decide +kernel
theorem tA_len : (putTL eS eD tA).length = 24 := by decide +kernel
theorem tA_opt : tcpO (putTL eS eD tA) = [3, 3, 7, 0] := by decide +kernel
theorem tA_optsG : optsG [3, 3, 7, 0] = some [⟨3, [7]⟩] := by simp [optsG]
theorem tA_tG : toptsG [3, 3, 7, 0] = some [⟨3, [7]⟩] := by
  unfold toptsG
  rw [tA_optsG]
  rfl
theorem tA_tE : tE (tcpO (putTL eS eD tA)) = 0 := by
  rw [tA_opt]
  unfold tE
  rw [tA_tG]
  rfl
theorem tA_tL : tL (tcpO (putTL eS eD tA)) = [⟨3, [7]⟩] := by
  rw [tA_opt]
  unfold tL
  rw [tA_tG]
  rfl
theorem tA_parE : tcpE eS eD (putTL eS eD tA) = 0 := by
  unfold tcpE
  rw [tA_tE]
  decide +kernel
theorem tA_same : sameT (tcpT eS eD (putTL eS eD tA)) tA = true := by
  unfold tcpT
  rw [if_pos tA_parE]
  unfold tcpG
  rw [tA_tL]
  decide +kernel
theorem t_nil : tcpE eS eD [] = 94 := by decide +kernel
theorem tM_mss : mssF tM.opts = (1460, true) := by decide +kernel
theorem tA_clamp : sameT (clampT tA 9) tA = true := by decide +kernel
theorem tA_byt : byt (putTL eS eD tA) := putTL_byt eS_ok eD_ok (by intro o ho; simp [tA] at ho; subst ho; exact b7_byt) byt_nil

set_option maxHeartbeats 1000000 in
theorem c122 (w : World) :
    CallsD Tryd.prog 122 #[] w (.tuple #[.agg (encIP eS).toArray, .agg (encIP eD).toArray]) := by
  refine enter Tryd.func122 rfl Tryd.ntmps122 (l := []) rfl rfl ?_
  have S := St.refl [] w
  refine Run.seq ?_
  refine Run.region ?_
  refine alc T24 S rfl ?_
  intro b0 w1 hb0 S B_
  refine alc T24 S rfl ?_
  intro b1 w2 hb1 S B_
  refine Ro.nil ?_
  refine Nrm.code ?_
  refine Run.seq ?_
  refine Run.region ?_
  refine bldA rfl (sz := 1) (E := 5) (m := 16) Tryd.underlying22 T22 T5 (qs := [(_, _), (_, _), (_, _), (_, _)]) ⟨⟨_, _, _, rfl, rfl, rfl, rfl, by first | (simp [Value.cells]; done) | simp [Value.cells, encIP]⟩, ⟨_, _, _, rfl, rfl, rfl, rfl, by first | (simp [Value.cells]; done) | simp [Value.cells, encIP]⟩, ⟨_, _, _, rfl, rfl, rfl, rfl, by first | (simp [Value.cells]; done) | simp [Value.cells, encIP]⟩, ⟨_, _, _, rfl, rfl, rfl, rfl, by first | (simp [Value.cells]; done) | simp [Value.cells, encIP]⟩, trivial⟩ rfl rfl ?_
  refine bld B24 (qs := [(_, _), (_, _)]) ⟨⟨_, _, _, rfl, rfl, rfl, rfl, by first | (simp [Value.cells]; done) | simp [Value.cells, encIP]⟩, ⟨_, _, _, rfl, rfl, rfl, rfl, by first | (simp [Value.cells]; done) | simp [Value.cells, encIP]⟩, trivial⟩ rfl rfl rfl ?_
  refine bldA rfl (sz := 1) (E := 5) (m := 16) Tryd.underlying22 T22 T5 (qs := [(_, _), (_, _), (_, _), (_, _)]) ⟨⟨_, _, _, rfl, rfl, rfl, rfl, by first | (simp [Value.cells]; done) | simp [Value.cells, encIP]⟩, ⟨_, _, _, rfl, rfl, rfl, rfl, by first | (simp [Value.cells]; done) | simp [Value.cells, encIP]⟩, ⟨_, _, _, rfl, rfl, rfl, rfl, by first | (simp [Value.cells]; done) | simp [Value.cells, encIP]⟩, ⟨_, _, _, rfl, rfl, rfl, rfl, by first | (simp [Value.cells]; done) | simp [Value.cells, encIP]⟩, trivial⟩ rfl rfl ?_
  refine bld B24 (qs := [(_, _), (_, _)]) ⟨⟨_, _, _, rfl, rfl, rfl, rfl, by first | (simp [Value.cells]; done) | simp [Value.cells, encIP]⟩, ⟨_, _, _, rfl, rfl, rfl, rfl, by first | (simp [Value.cells]; done) | simp [Value.cells, encIP]⟩, trivial⟩ rfl rfl rfl ?_
  refine stW rfl rfl T24 rfl rfl (by simp [Value.oneCell']) S (i := 1) rfl rfl ?_
  intro w3 S
  refine stW rfl rfl T24 rfl rfl (by simp [Value.oneCell']) S (i := 0) rfl rfl ?_
  intro w4 S
  refine Ro.nil ?_
  refine Nrm.code ?_
  refine Run.ret ?_
  refine Rt.cells2 rfl rfl rfl T24 T24 S (i := 1) (j := 0) rfl rfl rfl rfl ?_
  exact ⟨rfl, S.bl⟩

set_option maxHeartbeats 1000000 in
theorem c54 (w : World) (hg1 : GV [] w 1 163 (W16.map i64)) (hg2 : GV [] w 2 166 (W10.map i64)) (hg3 : GV [] w 3 183 (lenT.map u64)) :
    CallsD Tryd.prog 54 #[] w (.bool true) := by
  refine enter Tryd.func54 rfl Tryd.ntmps54 (l := []) rfl rfl ?_
  have S := St.refl [] w
  have hoA : ∀ p ∈ tA.opts, p.data.length ≤ 1099511627776 := by intro p hp; simp [tA] at hp; subst hp; decide
  have hoM : ∀ p ∈ tM.opts, p.data.length ≤ 1099511627776 := by intro p hp; simp [tM] at hp; subst hp; decide
  refine Run.seq ?_
  refine Run.region ?_
  refine asg1 rfl rfl ?_
  refine Ro.nil ?_
  refine Nrm.code ?_
  refine Run.seq ?_
  refine Run.region ?_
  refine calg (vs := []) rfl trivial k122 rfl (fun hG => c122 _) ?_
  intro w1 B_; have S := S.call B_
  refine mv1 rfl rfl ?_
  refine extr1 rfl rfl rfl ?_
  refine extr1 rfl rfl rfl ?_
  refine alc T24 S rfl ?_
  intro b1 w2 hb1 S B_
  refine alc T24 S rfl ?_
  intro b2 w3 hb2 S B_
  refine stW rfl rfl T24 rfl rfl (encIP_all1 _) S (i := 1) rfl rfl ?_
  intro w4 S
  refine stW rfl rfl T24 rfl rfl (encIP_all1 _) S (i := 0) rfl rfl ?_
  intro w5 S
  refine Ro.nil ?_
  refine Nrm.code ?_
  refine Run.seq ?_
  refine Run.region ?_
  refine bsk (b := [104, 105]) e26 Tryd.underlying5 hi_byt (qs := [(_, _), (_, _)]) ⟨⟨_, _, _, rfl, rfl, rfl, rfl, by simp [Value.cells]⟩, ⟨_, _, _, rfl, rfl, rfl, rfl, by simp [Value.cells]⟩, trivial⟩ rfl rfl rfl rfl rfl (by decide) S ?_
  have S0 := S
  intro u qh25 w6 S B_ hq_
  have h25 := hq_ _ S0.lt
  obtain ⟨N1, hN1, S_1⟩ := S.reb
  have hg1 := hg1.st S; rw [hN1] at hg1
  have hg2 := hg2.st S; rw [hN1] at hg2
  have hg3 := hg3.st S; rw [hN1] at hg3
  rw [hN1] at h25
  have SS := S
  have S := S_1
  refine bld B73 (qs := [(_, _), (_, _), (_, _)]) ⟨⟨_, _, _, rfl, rfl, rfl, rfl, by first | (simp [Value.cells]; done) | simp [Value.cells, encIP]⟩, ⟨_, _, _, rfl, rfl, rfl, rfl, by first | (simp [Value.cells]; done) | simp [Value.cells, encIP]⟩, ⟨_, _, _, rfl, rfl, cells1 h25.one, rfl, List.cons_ne_nil _ _⟩, trivial⟩ rfl rfl rfl ?_
  refine alc T73 S rfl ?_
  intro b3 w7 hb3 S B_
  refine stW rfl rfl T73 rfl rfl (one_cons rfl (one_cons rfl (one_cons rfl (one_cons h25.one one_nil)))) S (i := 0) rfl rfl ?_
  intro w8 S
  refine Ro.nil ?_
  refine Nrm.code ?_
  refine Run.seq ?_
  refine Run.region ?_
  refine ldW rfl T24 S (i := 2) rfl rfl rfl rfl rfl ?_
  refine ldW rfl T24 S (i := 1) rfl rfl rfl rfl rfl ?_
  refine ldW rfl T73 S (i := 0) rfl rfl rfl rfl rfl ?_
  refine call (vs := [_, _, _]) ⟨⟨_, _, rfl, rfl⟩, ⟨_, _, rfl, rfl⟩, ⟨_, _, rfl, rfl⟩, trivial⟩ k55 rfl (c55 eS eD uA _ _ eS_ok eD_ok (h25.now S) (by decide) (hg1.now S)) ?_
  rintro _ w9 ⟨u4, rfl, hF⟩
  have S := S.fb hF
  refine mv1 rfl rfl ?_
  refine extr1 rfl rfl rfl ?_
  refine extr1 rfl rfl rfl ?_
  refine asg1 rfl rfl ?_
  refine asg1 rfl rfl ?_
  refine Ro.nil ?_
  refine Nrm.code ?_
  refine Run.seq ?_
  refine Run.region ?_
  refine ldW rfl T24 S (i := 3) rfl rfl rfl rfl rfl ?_
  refine ldW rfl T24 S (i := 2) rfl rfl rfl rfl rfl ?_
  refine bsl e26 (qs := [(_, _), (_, _), (_, _), (_, _), (_, _), (_, _), (_, _), (_, _), (_, _), (_, _)]) ⟨⟨_, _, _, rfl, rfl, rfl, rfl, by first | (simp [Value.cells]; done) | simp [Value.cells, encIP]⟩, ⟨_, _, _, rfl, rfl, rfl, rfl, by first | (simp [Value.cells]; done) | simp [Value.cells, encIP]⟩, ⟨_, _, _, rfl, rfl, rfl, rfl, by first | (simp [Value.cells]; done) | simp [Value.cells, encIP]⟩, ⟨_, _, _, rfl, rfl, rfl, rfl, by first | (simp [Value.cells]; done) | simp [Value.cells, encIP]⟩, ⟨_, _, _, rfl, rfl, rfl, rfl, by first | (simp [Value.cells]; done) | simp [Value.cells, encIP]⟩, ⟨_, _, _, rfl, rfl, rfl, rfl, by first | (simp [Value.cells]; done) | simp [Value.cells, encIP]⟩, ⟨_, _, _, rfl, rfl, rfl, rfl, by first | (simp [Value.cells]; done) | simp [Value.cells, encIP]⟩, ⟨_, _, _, rfl, rfl, rfl, rfl, by first | (simp [Value.cells]; done) | simp [Value.cells, encIP]⟩, ⟨_, _, _, rfl, rfl, rfl, rfl, by first | (simp [Value.cells]; done) | simp [Value.cells, encIP]⟩, ⟨_, _, _, rfl, rfl, rfl, rfl, by first | (simp [Value.cells]; done) | simp [Value.cells, encIP]⟩, trivial⟩ rfl rfl rfl rfl S ?_
  intro u37 w10 S B_
  have S : St _ _ (oB u37 uAB :: _) w10 := S
  obtain ⟨h37, S⟩ := S.layBI (i := 0) rfl rfl uAB_byt
  obtain ⟨N2, hN2, S_2⟩ := S.reb
  have hg1 := hg1.st S; rw [hN2] at hg1
  have hg2 := hg2.st S; rw [hN2] at hg2
  have hg3 := hg3.st S; rw [hN2] at hg3
  have h25 := h25.st S; rw [hN2] at h25
  rw [hN2] at h37
  have SS := SS.tran hN1 S
  have S := S_2
  refine call (vs := [_, _, _]) ⟨⟨_, _, rfl, rfl⟩, ⟨_, _, rfl, rfl⟩, ⟨_, _, rfl, rfl⟩, trivial⟩ k57 rfl (c57 eS eD _ _ _ eS_ok eD_ok (h37.now S) (hg1.now S)) ?_
  rintro _ w11 ⟨d6, rfl, B1, hw_⟩
  have S := S.call B1
  have hd6 := hw_ _ _ h37
  refine mv1 rfl rfl ?_
  refine extr1 rfl rfl rfl ?_
  refine extr1 rfl rfl rfl ?_
  refine alc T73 S rfl ?_
  intro b6 w12 hb6 S B_
  refine stW rfl rfl T73 rfl rfl (one_cons rfl (one_cons rfl (one_cons rfl (one_cons hd6.one one_nil)))) S (i := 0) rfl rfl ?_
  intro w13 S
  refine asg1 rfl rfl ?_
  refine Ro.nil ?_
  refine Nrm.code ?_
  refine Run.seq ?_
  refine Run.region ?_
  refine bsl e26 (qs := [(_, _)]) ⟨⟨_, _, _, rfl, rfl, rfl, rfl, by first | (simp [Value.cells]; done) | simp [Value.cells, encIP]⟩, trivial⟩ rfl rfl rfl rfl S ?_
  intro u41 w14 S B_
  have S : St _ _ (oB u41 [7] :: _) w14 := S
  refine bld B93 (qs := [(_, _), (_, _)]) ⟨⟨_, _, _, rfl, rfl, rfl, rfl, by first | (simp [Value.cells]; done) | simp [Value.cells, encIP]⟩, ⟨_, _, _, rfl, rfl, cells1 (S.slI (i := 0) rfl).one, rfl, List.cons_ne_nil _ _⟩, trivial⟩ rfl rfl rfl ?_
  refine bsl e25 (qs := [(_, _)]) ⟨⟨_, _, _, rfl, rfl, rfl, rfl, by first | (simp [Value.cells]; done) | simp [Value.cells, encIP]⟩, trivial⟩ rfl rfl rfl rfl S ?_
  intro u43 w15 S B_
  have S : St _ _ (oO u43 tA.opts [u41] :: _) w15 := S
  obtain ⟨h41, S⟩ := S.layBI (i := 1) rfl rfl b7_byt
  obtain ⟨N3, hN3, S_3⟩ := S.reb
  have hg1 := hg1.st S; rw [hN3] at hg1
  have hg2 := hg2.st S; rw [hN3] at hg2
  have hg3 := hg3.st S; rw [hN3] at hg3
  have h25 := h25.st S; rw [hN3] at h25
  have h37 := h37.st S; rw [hN3] at h37
  have hd6 := hd6.st S; rw [hN3] at hd6
  rw [hN3] at h41
  have SS := SS.tran hN2 S
  have S := S_3
  obtain ⟨hOA, S⟩ := S.layOI (i := 0) (ds := [u41]) (os := tA.opts) rfl rfl ⟨h41, trivial⟩
  obtain ⟨N4, hN4, S_4⟩ := S.reb
  have hg1 := hg1.st S; rw [hN4] at hg1
  have hg2 := hg2.st S; rw [hN4] at hg2
  have hg3 := hg3.st S; rw [hN4] at hg3
  have h25 := h25.st S; rw [hN4] at h25
  have h37 := h37.st S; rw [hN4] at h37
  have hd6 := hd6.st S; rw [hN4] at hd6
  have h41 := h41.st S; rw [hN4] at h41
  rw [hN4] at hOA
  have SS := SS.tran hN3 S
  have S := S_4
  refine bld B82 (qs := [(_, _), (_, _), (_, _)]) ⟨⟨_, _, _, rfl, rfl, rfl, rfl, by first | (simp [Value.cells]; done) | simp [Value.cells, encIP]⟩, ⟨_, _, _, rfl, rfl, rfl, rfl, by first | (simp [Value.cells]; done) | simp [Value.cells, encIP]⟩, ⟨_, _, _, rfl, rfl, cells1 hOA.one, rfl, List.cons_ne_nil _ _⟩, trivial⟩ rfl rfl rfl ?_
  refine alc T82 S rfl ?_
  intro b8 w16 hb8 S B_
  refine stW rfl rfl T82 rfl rfl (one_cons rfl (one_cons rfl (one_cons rfl (one_cons rfl (one_cons rfl (one_cons rfl (one_cons rfl (one_cons hOA.one (one_cons rfl one_nil))))))))) S (i := 0) rfl rfl ?_
  intro w17 S
  refine Ro.nil ?_
  refine Nrm.code ?_
  refine Run.seq ?_
  refine Run.region ?_
  refine ldW rfl T24 S (i := 5) rfl rfl rfl rfl rfl ?_
  refine ldW rfl T24 S (i := 4) rfl rfl rfl rfl rfl ?_
  refine ldW rfl T82 S (i := 0) rfl rfl rfl rfl rfl ?_
  refine call (vs := [_, _, _]) ⟨⟨_, _, rfl, rfl⟩, ⟨_, _, rfl, rfl⟩, ⟨_, _, rfl, rfl⟩, trivial⟩ k61 rfl (c61 eS eD tA _ _ _ eS_ok eD_ok (hOA.now S) (BS.nil _ _) (by decide) (by exact hoA) (by decide) (hg2.now S) (hg3.now S)) ?_
  rintro _ w18 ⟨u9, rfl, hF⟩
  have S := S.fb hF
  refine mv1 rfl rfl ?_
  refine extr1 rfl rfl rfl ?_
  refine extr1 rfl rfl rfl ?_
  refine asg1 rfl rfl ?_
  refine asg1 rfl rfl ?_
  refine Ro.nil ?_
  refine Nrm.code ?_
  refine Run.seq ?_
  refine Run.region ?_
  refine ldW rfl T24 S (i := 6) rfl rfl rfl rfl rfl ?_
  refine ldW rfl T24 S (i := 5) rfl rfl rfl rfl rfl ?_
  obtain ⟨h9, S⟩ := S.layBI (i := 0) rfl rfl tA_byt
  obtain ⟨N5, hN5, S_5⟩ := S.reb
  have hg1 := hg1.st S; rw [hN5] at hg1
  have hg2 := hg2.st S; rw [hN5] at hg2
  have hg3 := hg3.st S; rw [hN5] at hg3
  have h25 := h25.st S; rw [hN5] at h25
  have h37 := h37.st S; rw [hN5] at h37
  have hd6 := hd6.st S; rw [hN5] at hd6
  have h41 := h41.st S; rw [hN5] at h41
  have hOA := hOA.st S; rw [hN5] at hOA
  rw [hN5] at h9
  have SS := SS.tran hN4 S
  have S := S_5
  refine mv1 rfl rfl ?_
  refine call (vs := [_, _, _]) ⟨⟨_, _, rfl, rfl⟩, ⟨_, _, rfl, rfl⟩, ⟨_, _, rfl, rfl⟩, trivial⟩ k62 rfl (c62 eS eD _ _ _ eS_ok eD_ok (h9.now S) (hg2.now S) (hg3.now S)) ?_
  rintro _ w19 ⟨o11, d11, vs11, rfl, hF, hw_⟩
  have S := S.fo hF
  have hd11 := (hw_ _ _ h9).2
  have ho_ := (hw_ _ _ h9).1
  obtain ⟨ho11, S⟩ := S.layOI (i := 0) rfl rfl ho_
  obtain ⟨N6, hN6, S_6⟩ := S.reb
  have hg1 := hg1.st S; rw [hN6] at hg1
  have hg2 := hg2.st S; rw [hN6] at hg2
  have hg3 := hg3.st S; rw [hN6] at hg3
  have h25 := h25.st S; rw [hN6] at h25
  have h37 := h37.st S; rw [hN6] at h37
  have hd6 := hd6.st S; rw [hN6] at hd6
  have h41 := h41.st S; rw [hN6] at h41
  have hOA := hOA.st S; rw [hN6] at hOA
  have h9 := h9.st S; rw [hN6] at h9
  have hd11 := hd11.st S; rw [hN6] at hd11
  rw [hN6] at ho11
  have SS := SS.tran hN5 S
  have S := S_6
  refine mv1 rfl rfl ?_
  refine extr1 rfl rfl rfl ?_
  refine extr1 rfl rfl rfl ?_
  refine alc T82 S rfl ?_
  intro b11 w20 hb11 S B_
  refine stW rfl rfl T82 rfl rfl (one_cons rfl (one_cons rfl (one_cons rfl (one_cons rfl (one_cons rfl (one_cons rfl (one_cons rfl (one_cons ho11.one (one_cons hd11.one one_nil))))))))) S (i := 0) rfl rfl ?_
  intro w21 S
  refine asg1 rfl rfl ?_
  refine Ro.nil ?_
  refine Nrm.code ?_
  refine Run.seq ?_
  refine Run.region ?_
  refine ldW rfl T24 S (i := 6) rfl rfl rfl rfl rfl ?_
  refine ldW rfl T24 S (i := 5) rfl rfl rfl rfl rfl ?_
  refine call (vs := [_, _, _]) ⟨⟨_, _, rfl, rfl⟩, ⟨_, _, rfl, rfl⟩, ⟨_, _, rfl, rfl⟩, trivial⟩ k62 rfl (c62 eS eD _ _ _ eS_ok eD_ok (BS.nil _ _) (hg2.now S) (hg3.now S)) ?_
  rintro _ w22 ⟨o13, d13, vs13, rfl, hF, hw_⟩
  have S := S.fo hF
  have hd13 := (hw_ _ _ (BS.nil N6 w19)).2
  have ho_ := (hw_ _ _ (BS.nil N6 w19)).1
  obtain ⟨ho13, S⟩ := S.layOI (i := 0) rfl rfl ho_
  obtain ⟨N7, hN7, S_7⟩ := S.reb
  have hg1 := hg1.st S; rw [hN7] at hg1
  have hg2 := hg2.st S; rw [hN7] at hg2
  have hg3 := hg3.st S; rw [hN7] at hg3
  have h25 := h25.st S; rw [hN7] at h25
  have h37 := h37.st S; rw [hN7] at h37
  have hd6 := hd6.st S; rw [hN7] at hd6
  have h41 := h41.st S; rw [hN7] at h41
  have hOA := hOA.st S; rw [hN7] at hOA
  have h9 := h9.st S; rw [hN7] at h9
  have hd11 := hd11.st S; rw [hN7] at hd11
  have ho11 := ho11.st S; rw [hN7] at ho11
  have hd13 := hd13.st S; rw [hN7] at hd13
  rw [hN7] at ho13
  have SS := SS.tran hN6 S
  have S := S_7
  refine mv1 rfl rfl ?_
  refine extr1 rfl rfl rfl ?_
  refine extr1 rfl rfl rfl ?_
  refine alc T82 S rfl ?_
  intro b13 w23 hb13 S B_
  refine stW rfl rfl T82 rfl rfl (one_cons rfl (one_cons rfl (one_cons rfl (one_cons rfl (one_cons rfl (one_cons rfl (one_cons rfl (one_cons ho13.one (one_cons hd13.one one_nil))))))))) S (i := 0) rfl rfl ?_
  intro w24 S
  refine asg1 rfl rfl ?_
  refine Ro.nil ?_
  refine Nrm.code ?_
  refine Run.seq ?_
  refine Run.region ?_
  refine bsl e26 (qs := [(_, _), (_, _)]) ⟨⟨_, _, _, rfl, rfl, rfl, rfl, by first | (simp [Value.cells]; done) | simp [Value.cells, encIP]⟩, ⟨_, _, _, rfl, rfl, rfl, rfl, by first | (simp [Value.cells]; done) | simp [Value.cells, encIP]⟩, trivial⟩ rfl rfl rfl rfl S ?_
  intro u66 w25 S B_
  have S : St _ _ (oB u66 [5, 180] :: _) w25 := S
  refine bld B93 (qs := [(_, _), (_, _)]) ⟨⟨_, _, _, rfl, rfl, rfl, rfl, by first | (simp [Value.cells]; done) | simp [Value.cells, encIP]⟩, ⟨_, _, _, rfl, rfl, cells1 (S.slI (i := 0) rfl).one, rfl, List.cons_ne_nil _ _⟩, trivial⟩ rfl rfl rfl ?_
  refine bsl e25 (qs := [(_, _)]) ⟨⟨_, _, _, rfl, rfl, rfl, rfl, by first | (simp [Value.cells]; done) | simp [Value.cells, encIP]⟩, trivial⟩ rfl rfl rfl rfl S ?_
  intro u68 w26 S B_
  have S : St _ _ (oO u68 tM.opts [u66] :: _) w26 := S
  refine bld B82 (qs := [(_, _)]) ⟨⟨_, _, _, rfl, rfl, cells1 (S.slI (i := 0) rfl).one, rfl, List.cons_ne_nil _ _⟩, trivial⟩ rfl rfl rfl ?_
  refine calg (vs := [_]) rfl ⟨⟨_, _, rfl, rfl⟩, trivial⟩ k70 rfl (fun hG => c70 tM _ _ _ (S.osI (i := 0) (os := tM.opts) (ds := [u66]) rfl ⟨S.bsI (i := 1) (l := [5, 180]) rfl b5_byt, trivial⟩) (BS.nil _ _) (by decide) hoM (by decide)) ?_
  intro w27 B_; have S := S.call B_
  refine mv1 rfl rfl ?_
  refine extr1 rfl rfl rfl ?_
  refine extr1 rfl rfl rfl ?_
  refine asg1 rfl rfl ?_
  refine asg1 rfl rfl ?_
  refine Ro.nil ?_
  refine Nrm.code ?_
  refine Run.seq ?_
  refine Run.region ?_
  refine ldW rfl T82 S (i := 4) rfl rfl rfl rfl rfl ?_
  have S0 := S
  refine call (vs := [_, _]) ⟨⟨_, _, rfl, rfl⟩, ⟨_, _, rfl, rfl⟩, trivial⟩ k69 rfl (c69 tA 9 _ _ _ (hOA.now S) (BS.nil _ _) (by decide) (by exact hoA)) ?_
  rintro _ w28 ⟨o17, rfl, hFO⟩
  have S := S.call hFO.1
  have ho17 := hFO.2 _ S0.lt
  obtain ⟨N8, hN8, S_8⟩ := S.reb
  have hg1 := hg1.st S; rw [hN8] at hg1
  have hg2 := hg2.st S; rw [hN8] at hg2
  have hg3 := hg3.st S; rw [hN8] at hg3
  have h25 := h25.st S; rw [hN8] at h25
  have h37 := h37.st S; rw [hN8] at h37
  have hd6 := hd6.st S; rw [hN8] at hd6
  have h41 := h41.st S; rw [hN8] at h41
  have hOA := hOA.st S; rw [hN8] at hOA
  have h9 := h9.st S; rw [hN8] at h9
  have hd11 := hd11.st S; rw [hN8] at hd11
  have ho11 := ho11.st S; rw [hN8] at ho11
  have hd13 := hd13.st S; rw [hN8] at hd13
  have ho13 := ho13.st S; rw [hN8] at ho13
  rw [hN8] at ho17
  have SS := SS.tran hN7 S
  have S := S_8
  refine alc T82 S rfl ?_
  intro b17 w29 hb17 S B_
  refine stW rfl rfl T82 rfl rfl (one_cons rfl (one_cons rfl (one_cons rfl (one_cons rfl (one_cons rfl (one_cons rfl (one_cons rfl (one_cons ho17.one (one_cons rfl one_nil))))))))) S (i := 0) rfl rfl ?_
  intro w30 S
  refine Ro.nil ?_
  refine Nrm.code ?_
  refine Run.seq ?_
  refine Run.region ?_
  refine mkB (m := 65528) rfl rfl S rfl (by omega) ?_
  intro u75 w31 S B_
  refine bld B73 (qs := [(_, _), (_, _)]) ⟨⟨_, _, _, rfl, rfl, rfl, rfl, by first | (simp [Value.cells]; done) | simp [Value.cells, encIP]⟩, ⟨_, _, _, rfl, rfl, cells1 (S.slI (i := 0) rfl).one, rfl, List.cons_ne_nil _ _⟩, trivial⟩ rfl rfl rfl ?_
  refine calg (vs := [_, _]) rfl ⟨⟨_, _, rfl, rfl⟩, ⟨_, _, rfl, rfl⟩, trivial⟩ k60 rfl (fun hG => c60 _ uN _ _ (S.bsI (i := 0) (l := List.replicate 65528 0) rfl (by intro x hx; rw [(List.mem_replicate.1 hx).2]; omega)) (by show (List.replicate 65528 (0 : Int)).length ≤ _; rw [List.length_replicate]; decide)) ?_
  intro w32 B_; have S := S.call B_
  refine asg1 rfl rfl ?_
  refine Ro.nil ?_
  refine Nrm.code ?_
  refine Run.seq ?_
  refine Run.region ?_
  refine mv1 rfl rfl ?_
  refine calg (vs := [_]) rfl ⟨⟨_, _, rfl, rfl⟩, trivial⟩ k56 rfl (fun hG => c56 (chkU 4 uN) _ (by rw [uN_chk]; decide)) ?_
  intro w33 B_; have S := S.call B_
  refine eql1 rfl rfl rfl ?_
  refine mv1 rfl rfl ?_
  refine mv rfl rfl rfl rfl ?_
  refine calg (vs := [_]) rfl ⟨⟨_, _, rfl, rfl⟩, trivial⟩ k56 rfl (fun hG => c56 (putUE eS eD uA) _ (by rw [uA_putE]; decide)) ?_
  intro w34 B_; have S := S.call B_
  refine eql rfl rfl rfl rfl rfl rfl ?_
  refine pkA rfl rfl rfl rfl rfl rfl ?_
  refine mv1 rfl rfl ?_
  refine mv rfl rfl rfl rfl ?_
  refine calg (vs := [_]) rfl ⟨⟨_, _, rfl, rfl⟩, trivial⟩ k56 rfl (fun hG => c56 (udpE eS eD uAB) _ (by rw [uA_parE]; decide)) ?_
  intro w35 B_; have S := S.call B_
  refine eql rfl rfl rfl rfl rfl rfl ?_
  refine pkA rfl rfl rfl rfl rfl rfl ?_
  refine mv1 rfl rfl ?_
  refine mv rfl rfl rfl rfl ?_
  refine calg (vs := [_]) rfl ⟨⟨_, _, rfl, rfl⟩, trivial⟩ k56 rfl (fun hG => c56 (putTE eS eD tA) _ (by rw [tA_putE]; decide)) ?_
  intro w36 B_; have S := S.call B_
  refine eql rfl rfl rfl rfl rfl rfl ?_
  refine pkA rfl rfl rfl rfl rfl rfl ?_
  refine mv1 rfl rfl ?_
  refine mv rfl rfl rfl rfl ?_
  refine calg (vs := [_]) rfl ⟨⟨_, _, rfl, rfl⟩, trivial⟩ k56 rfl (fun hG => c56 (tcpE eS eD (putTL eS eD tA)) _ (by rw [tA_parE]; decide)) ?_
  intro w37 B_; have S := S.call B_
  refine eql rfl rfl rfl rfl rfl rfl ?_
  refine pkA rfl rfl rfl rfl rfl rfl ?_
  refine mv1 rfl rfl ?_
  refine mv rfl rfl rfl rfl ?_
  refine calg (vs := [_]) rfl ⟨⟨_, _, rfl, rfl⟩, trivial⟩ k56 rfl (fun hG => c56 (tcpE eS eD []) _ (by rw [t_nil]; decide)) ?_
  intro w38 B_; have S := S.call B_
  refine eql rfl rfl rfl rfl rfl rfl ?_
  refine pkA rfl rfl rfl rfl rfl rfl ?_
  refine mv1 rfl rfl ?_
  refine mv rfl rfl rfl rfl ?_
  refine pkA rfl rfl rfl rfl rfl rfl ?_
  refine mv1 rfl rfl ?_
  refine mv rfl rfl rfl rfl ?_
  refine eql rfl rfl rfl rfl rfl rfl ?_
  refine pkA rfl rfl rfl rfl rfl rfl ?_
  refine mv1 rfl rfl ?_
  refine mv rfl rfl rfl rfl ?_
  refine lenS rfl h9.2 Tryd.underlying26 rfl rfl rfl ?_
  refine eql rfl rfl rfl rfl rfl rfl ?_
  refine pkA rfl rfl rfl rfl rfl rfl ?_
  refine asg1 rfl rfl ?_
  refine Ro.nil ?_
  refine Nrm.code ?_
  refine Run.seq ?_
  refine Run.region ?_
  refine mv1 rfl rfl ?_
  refine mv1 rfl rfl ?_
  refine Ro.gtrue rfl (by simp [allT, uN_chk, uA_putE, uA_parE, tA_putE, tA_parE, t_nil, tM_mss, tA_len, uA_putL, uA_same, tA_same, tA_clamp]) ?_
  refine mv1 rfl rfl ?_
  refine Ro.gtrue rfl (by simp [allT, uN_chk, uA_putE, uA_parE, tA_putE, tA_parE, t_nil, tM_mss, tA_len, uA_putL, uA_same, tA_same, tA_clamp]) ?_
  refine bsl e26 (qs := [(_, _), (_, _), (_, _), (_, _), (_, _), (_, _), (_, _), (_, _), (_, _), (_, _)]) ⟨⟨_, _, _, rfl, rfl, rfl, rfl, by first | (simp [Value.cells]; done) | simp [Value.cells, encIP]⟩, ⟨_, _, _, rfl, rfl, rfl, rfl, by first | (simp [Value.cells]; done) | simp [Value.cells, encIP]⟩, ⟨_, _, _, rfl, rfl, rfl, rfl, by first | (simp [Value.cells]; done) | simp [Value.cells, encIP]⟩, ⟨_, _, _, rfl, rfl, rfl, rfl, by first | (simp [Value.cells]; done) | simp [Value.cells, encIP]⟩, ⟨_, _, _, rfl, rfl, rfl, rfl, by first | (simp [Value.cells]; done) | simp [Value.cells, encIP]⟩, ⟨_, _, _, rfl, rfl, rfl, rfl, by first | (simp [Value.cells]; done) | simp [Value.cells, encIP]⟩, ⟨_, _, _, rfl, rfl, rfl, rfl, by first | (simp [Value.cells]; done) | simp [Value.cells, encIP]⟩, ⟨_, _, _, rfl, rfl, rfl, rfl, by first | (simp [Value.cells]; done) | simp [Value.cells, encIP]⟩, ⟨_, _, _, rfl, rfl, rfl, rfl, by first | (simp [Value.cells]; done) | simp [Value.cells, encIP]⟩, ⟨_, _, _, rfl, rfl, rfl, rfl, by first | (simp [Value.cells]; done) | simp [Value.cells, encIP]⟩, trivial⟩ rfl rfl rfl rfl S ?_
  intro u121 w39 S B_
  refine Ro.gtrue rfl (by simp [allT, uN_chk, uA_putE, uA_parE, tA_putE, tA_parE, t_nil, tM_mss, tA_len, uA_putL, uA_same, tA_same, tA_clamp]) ?_
  refine calg (vs := [_, _]) rfl ⟨⟨_, _, rfl, rfl⟩, ⟨_, _, rfl, rfl⟩, trivial⟩ k37 rfl (fun hG => c37 _ _ (putUL eS eD uA) uAB _ (S.bsI (i := 9) rfl (by rw [uA_putL]; exact uAB_byt)) (S.bsI (i := 0) (l := uAB) rfl uAB_byt)) ?_
  intro w40 B_; have S := S.call B_
  refine pkA rfl rfl rfl rfl rfl rfl ?_
  refine mv1 rfl rfl ?_
  refine ldW rfl T73 S (i := 10) rfl rfl rfl rfl rfl ?_
  refine ldW rfl T73 S (i := 8) rfl rfl rfl rfl rfl ?_
  refine calg (vs := [_, _]) rfl ⟨⟨_, _, rfl, rfl⟩, ⟨_, _, rfl, rfl⟩, trivial⟩ k59 rfl (fun hG => c59 uA (udpU eS eD uAB) _ _ _ (h25.now S) (hd6.now S)) ?_
  intro w41 B_; have S := S.call B_
  refine pkA rfl rfl rfl rfl rfl rfl ?_
  refine mv1 rfl rfl ?_
  refine ldW rfl T82 S (i := 6) rfl rfl rfl rfl rfl ?_
  refine ldW rfl T82 S (i := 7) rfl rfl rfl rfl rfl ?_
  refine calg (vs := [_, _]) rfl ⟨⟨_, _, rfl, rfl⟩, ⟨_, _, rfl, rfl⟩, trivial⟩ k63 rfl (fun hG => c63 (tcpT eS eD (putTL eS eD tA)) tA _ _ _ _ _ (ho11.now S) (hd11.now S) (hOA.now S) (BS.nil _ _) (by rw [tcpT, if_pos tA_parE]; unfold tcpG; rw [tA_tL]; decide)) ?_
  intro w42 B_; have S := S.call B_
  refine pkA rfl rfl rfl rfl rfl rfl ?_
  refine mv1 rfl rfl ?_
  refine ldW rfl T82 S (i := 2) rfl rfl rfl rfl rfl ?_
  refine ldW rfl T82 S (i := 7) rfl rfl rfl rfl rfl ?_
  refine calg (vs := [_, _]) rfl ⟨⟨_, _, rfl, rfl⟩, ⟨_, _, rfl, rfl⟩, trivial⟩ k63 rfl (fun hG => c63 (clampT tA 9) tA _ _ _ _ _ (ho17.now S) (BS.nil _ _) (hOA.now S) (BS.nil _ _) (by decide)) ?_
  intro w43 B_; have S := S.call B_
  refine pkA rfl rfl rfl rfl rfl rfl ?_
  refine asg1 rfl rfl ?_
  refine Ro.nil ?_
  refine Nrm.code ?_
  refine Run.ret ?_
  refine Rt.one rfl rfl ?_
  exact ⟨by simp [uN_chk, uA_putE, uA_parE, tA_putE, tA_parE, t_nil, tM_mss, tA_len, uA_putL, uA_same, tA_same, tA_clamp], (SS.tran hN8 S).bl⟩

end Go.Proofs.YtkahmepenjhcpaaDoor.W

/- Plain laws of datagrams: what is written is read as it was. No program walked here; no statement of the seat is proved here. -/
namespace Go.Proofs.YtkahmepenjhcpaaDoor.W
open Go
set_option linter.unusedVariables false
set_option linter.unusedSimpArgs false

theorem optsG_zeros : ∀ m, optsG (List.replicate m 0) = some []
  | 0 => by rw [List.replicate_zero, optsG]
  | 1 => by show optsG [0] = _; rw [optsG]; simp
  | m + 2 => by show optsG (0 :: 0 :: List.replicate m 0) = _; rw [optsG]; simp
theorem optsG_put : ∀ (os : List Opt), os.all okO = true → ∀ m, optsG (optsB os ++ List.replicate m 0) = some os
  | [], _, m => by rw [optsB_nil, List.nil_append]; exact optsG_zeros m
  | o :: os, hk, m => by
    simp only [List.all_cons, Bool.and_eq_true] at hk
    have h1 := okO_iff.1 hk.1
    have ih := optsG_put os hk.2 m
    have e : optsB (o :: os) ++ List.replicate m 0 = o.kind :: (2 + (o.data.length : Int)) :: (o.data ++ (optsB os ++ List.replicate m 0)) := by simp [optsB, optB]
    rw [e, optsG]
    have e2 : (2 + (o.data.length : Int)).toNat - 2 = o.data.length := by omega
    rw [if_neg (by omega), if_neg (by omega), e2, if_neg (by rw [List.length_append]; omega), List.drop_left', List.take_left', ih]
    · simp
    · rfl
    · rfl
theorem putE_zero {os : List Opt} (h : putE os = 0) : putOk os = true := by
  unfold putE at h
  cases hp : putOk os with
  | true => rfl
  | false => rw [hp] at h; simp at h
theorem opt_back {os : List Opt} (h : putOk os = true) : optE (putL os) = 0 ∧ optL (putL os) = os := by
  have hl := putL_len os
  have e : optsG (putL os) = some os := by
    unfold putL
    rw [if_pos h]
    simp only [putOk, Bool.and_eq_true] at h
    exact optsG_put os h.1 _
  have : ¬ 40 < (putL os).length := by omega
  simp [optE, optL, this, e]

/-- a datagram's first twenty bytes, the sum in its place -/
def hd20 (h : Ip4) : List Int :=
  [4 * 16 + (20 + ((putL h.opts).length : Int)) / 4, h.tos, (20 + ((putL h.opts).length : Int) + (h.data.length : Int)) / 256, (20 + ((putL h.opts).length : Int) + (h.data.length : Int)) % 256, h.id / 256, h.id % 256,
   bI h.df * 64 + bI h.mf * 32 + h.off / 8 / 256, h.off / 8 % 256, h.ttl, h.proto, sumC h / 256, sumC h % 256, h.src.a 0, h.src.a 1, h.src.a 2, h.src.a 3, h.dst.a 0, h.dst.a 1, h.dst.a 2, h.dst.a 3]
theorem serB_eq (h : Ip4) : serB h = hd20 h ++ (putL h.opts ++ h.data) := by
  simp [serB, headB, top10, hdr12, four4, hd20]
theorem foldS_fix {w c : Int} (hw : 0 < w) (hc : c = 65535 - foldS w) : foldS (w + c) = 65535 := by
  subst hc; unfold foldS; (repeat' split) <;> omega
theorem sum_right {h : Ip4} (hb : byt (headB h)) (h0 : 0 < (20 + ((putL h.opts).length : Int)) / 4) : sumS (hd20 h ++ putL h.opts) = 65535 := by
  have e0 : headB h = [4 * 16 + (20 + ((putL h.opts).length : Int)) / 4, h.tos, (20 + ((putL h.opts).length : Int) + (h.data.length : Int)) / 256, (20 + ((putL h.opts).length : Int) + (h.data.length : Int)) % 256, h.id / 256, h.id % 256,
   bI h.df * 64 + bI h.mf * 32 + h.off / 8 / 256, h.off / 8 % 256, h.ttl, h.proto, 0, 0, h.src.a 0, h.src.a 1, h.src.a 2, h.src.a 3, h.dst.a 0, h.dst.a 1, h.dst.a 2, h.dst.a 3] ++ putL h.opts := by
    simp [headB, top10, hdr12, four4]
  have e1 : wsum true (hd20 h ++ putL h.opts) = wsum true (headB h) + sumC h := by
    rw [e0]
    simp only [hd20, List.cons_append, List.nil_append, wsum]
    omega
  have hw : 0 < wsum true (headB h) := by
    have hall := hb
    rw [e0] at hall ⊢
    have hp := (wsum_bd (putL h.opts) true (fun x hx => hall x (by simp [hx]))).1
    have g := fun x (hx : x ∈ _) => hall x (List.mem_append_left _ hx)
    simp only [List.mem_cons, List.not_mem_nil, or_false, forall_eq_or_imp, forall_eq] at g
    simp only [List.cons_append, List.nil_append, wsum]
    omega
  show foldS (wsum true _) = 65535
  rw [e1]
  exact foldS_fix hw rfl
/-- a datagram that may be one, its addresses' last twelve places told -/
def norm4 (x : IP) : IP := ip4of (x.a 0) (x.a 1) (x.a 2) (x.a 3)
def normH (h : Ip4) : Ip4 := { h with src := norm4 h.src, dst := norm4 h.dst }
theorem norm_same {x : IP} (h : fourB x = true) : sameB (norm4 x) x = true := by
  rw [sameB_iff]
  simp only [fourB, Bool.and_eq_true, decide_eq_true_eq, List.all_eq_true, List.mem_range, Bool.or_eq_true] at h
  refine ⟨h.1.symm, fun i hi => ?_⟩
  have h2 := h.2 i hi
  simp only [norm4, ip4of]
  by_cases h0 : i = 0
  · subst h0; rfl
  · by_cases h1 : i = 1
    · subst h1; rfl
    · by_cases h3 : i = 2
      · subst h3; rfl
      · by_cases h4 : i = 3
        · subst h4; rfl
        · rw [if_neg h0, if_neg h1, if_neg h3, if_neg h4]
          rcases h2 with h2 | h2
          · omega
          · exact h2.symm
theorem normH_same {h : Ip4} (hb : badF h = false) : sameH (normH h) h = true := by
  have g := badF_off hb
  have h1 := norm_same g.2.2.2.2.2.2.2.2.2.2.2.1
  have h2 := norm_same g.2.2.2.2.2.2.2.2.2.2.2.2
  have h3 : sameOs h.opts h.opts = true := sameOs_iff.2 rfl
  simp only [sameH, diffH, normH, h1, h2, h3]
  simp

theorem ser_back {h : Ip4} (hc : chkE h = 0) (h1 : h.src.ok) (h2 : h.dst.ok) (hd : ∀ o ∈ h.opts, W.byt o.data) : parE (serB h) = 0 ∧ parH (serB h) = normH h := by
  obtain ⟨c1, c2, c3, c4⟩ := chkE_zero hc
  have g := badF_off c1
  have hl := putL_len h.opts
  have hp := putE_zero c2
  have ho := opt_back hp
  have hdf := bI_bd h.df
  have hmf := bI_bd h.mf
  have hX := headB_byt hc h1 h2 hd
  have hs := sum_right hX (by omega)
  have hsc := sumC_bd hX
  have e := serB_eq h
  have hlen : (serB h).length = 20 + (putL h.opts).length + h.data.length := by rw [e]; simp [hd20]; omega
  have ht : (serB h).take (20 + (putL h.opts).length) = hd20 h ++ putL h.opts := by
    rw [e, ← List.append_assoc]
    exact List.take_left' (by simp [hd20]; omega)
  have hdr : (serB h).drop 20 = putL h.opts ++ h.data := by
    rw [e]; exact List.drop_left' (by simp [hd20])
  have hdd : (serB h).drop (20 + (putL h.opts).length) = h.data := by
    rw [e, ← List.append_assoc]
    exact List.drop_left' (by simp [hd20]; omega)
  have b0 : (serB h).getD 0 0 = 4 * 16 + (20 + ((putL h.opts).length : Int)) / 4 := by rw [e]; rfl
  have b1 : (serB h).getD 1 0 = h.tos := by rw [e]; rfl
  have b2 : (serB h).getD 2 0 = (20 + ((putL h.opts).length : Int) + (h.data.length : Int)) / 256 := by rw [e]; rfl
  have b3 : (serB h).getD 3 0 = (20 + ((putL h.opts).length : Int) + (h.data.length : Int)) % 256 := by rw [e]; rfl
  have b4 : (serB h).getD 4 0 = h.id / 256 := by rw [e]; rfl
  have b5 : (serB h).getD 5 0 = h.id % 256 := by rw [e]; rfl
  have b6 : (serB h).getD 6 0 = bI h.df * 64 + bI h.mf * 32 + h.off / 8 / 256 := by rw [e]; rfl
  have b7 : (serB h).getD 7 0 = h.off / 8 % 256 := by rw [e]; rfl
  have b8 : (serB h).getD 8 0 = h.ttl := by rw [e]; rfl
  have b9 : (serB h).getD 9 0 = h.proto := by rw [e]; rfl
  have i12 : ipOf (serB h) 12 = norm4 h.src := by rw [e]; rfl
  have i16 : ipOf (serB h) 16 = norm4 h.dst := by rw [e]; rfl
  have hh : hdN (serB h) = 20 + (putL h.opts).length := by unfold hdN; rw [b0]; omega
  have htt : totN (serB h) = 20 + (putL h.opts).length + h.data.length := by unfold totN totI; rw [b2, b3]; omega
  have hof : 8 * offW (serB h) = h.off := by unfold offW; rw [b6, b7]; omega
  have hb1 : bI true = 1 := rfl
  have hb0 : bI false = 0 := rfl
  have hm : decide ((serB h).getD 6 0 / 32 % 2 = 1) = h.mf := by
    rw [b6]
    cases hmm : h.mf with
    | true => rw [hb1]; exact decide_eq_true (by omega)
    | false => rw [hb0]; exact decide_eq_false (by omega)
  have hf : decide ((serB h).getD 6 0 / 64 % 2 = 1) = h.df := by
    rw [b6]
    cases hmm : h.df with
    | true => rw [hb1]; exact decide_eq_true (by omega)
    | false => rw [hb0]; exact decide_eq_false (by omega)
  have hop : optB4 (serB h) = putL h.opts := by
    unfold optB4
    rw [hh, hdr]
    exact List.take_left' (by omega)
  have hpe : parE (serB h) = 0 := by
    unfold parE
    rw [hop, ho.1, hh, htt, ht, hs, hlen, hm, hof, b0, if_neg (by omega), if_neg (by omega), if_neg (by omega), if_neg (by omega), if_neg (by omega), if_neg (by omega), if_neg (by omega)]
    have : (((20 + (putL h.opts).length + h.data.length : Nat) : Int) - ((20 + (putL h.opts).length : Nat) : Int)) = h.data.length := by omega
    rw [this]; exact c4
  refine ⟨hpe, ?_⟩
  unfold parH
  rw [if_pos hpe]
  unfold parG
  rw [hop, ho.2, hh, htt, hm, hof, hf, b1, b4, b5, b8, b9, i12, i16, hdd]
  have e3 : h.id / 256 * 256 + h.id % 256 = h.id := by omega
  have e4 : h.data.take (20 + (putL h.opts).length + h.data.length - (20 + (putL h.opts).length)) = h.data := List.take_of_length_le (by omega)
  rw [e3, e4]
  rfl
theorem norm_four (x : IP) : four4 (norm4 x) = four4 x := rfl
theorem norm_fourB (x : IP) : fourB (norm4 x) = true := by
  unfold fourB
  simp only [Bool.and_eq_true, decide_eq_true_eq, List.all_eq_true, List.mem_range, Bool.or_eq_true]
  refine ⟨rfl, fun i hi => ?_⟩
  by_cases h : i < 4
  · exact Or.inl h
  · refine Or.inr ?_
    simp only [norm4, ip4of]
    rw [if_neg (by omega), if_neg (by omega), if_neg (by omega), if_neg (by omega)]
theorem chk_norm {h : Ip4} (hc : chkE h = 0) : chkE (normH h) = 0 := by
  obtain ⟨c1, c2, c3, c4⟩ := chkE_zero hc
  have hb : badF (normH h) = false := by
    have g := c1
    simp only [badF, Bool.or_eq_false_iff] at g ⊢
    exact ⟨⟨g.1.1, by simp [normH, norm_fourB]⟩, by simp [normH, norm_fourB]⟩
  unfold chkE
  rw [hb]
  simp only [Bool.false_eq_true, if_false]
  show (if putE h.opts ≠ 0 then _ else _) = (0 : Int)
  rw [if_neg (by omega)]
  show (if 65535 < 20 + ((putL h.opts).length : Int) + h.data.length then _ else _) = (0 : Int)
  rw [if_neg (by omega)]
  exact c4
theorem ser_norm {h : Ip4} (hc : chkE h = 0) : serL (normH h) = serL h := by
  unfold serL
  rw [if_pos hc, if_pos (chk_norm hc)]
  rfl
theorem ser_canon {h : Ip4} (hc : chkE h = 0) (h1 : h.src.ok) (h2 : h.dst.ok) (hd : ∀ o ∈ h.opts, W.byt o.data) : canB (serL h) = true := by
  have e : serL h = serB h := by unfold serL; rw [if_pos hc]
  have hb := ser_back hc h1 h2 hd
  unfold canB
  rw [e, hb.1, hb.2, chk_norm hc, ser_norm hc, e]
  simp
end Go.Proofs.YtkahmepenjhcpaaDoor.W

/- Contracts: the reference reads. No statement of the seat is proved here. -/
namespace Go.Proofs.YtkahmepenjhcpaaDoor.W
open Go
set_option linter.unusedSimpArgs false
set_option linter.unusedVariables false


end Go.Proofs.YtkahmepenjhcpaaDoor.W

/- Contracts: the reference writes. No statement of the seat is proved here. -/
namespace Go.Proofs.YtkahmepenjhcpaaDoor.W
open Go
set_option linter.unusedSimpArgs false
set_option linter.unusedVariables false


theorem getN_src (h : Ip4) (o d : Value) : ∀ i, i < 16 → getN (encIp4 h o d) (8 + i) = some (u8 (h.src.a i))
  | 0, _ => rfl | 1, _ => rfl | 2, _ => rfl | 3, _ => rfl | 4, _ => rfl | 5, _ => rfl | 6, _ => rfl | 7, _ => rfl
  | 8, _ => rfl | 9, _ => rfl | 10, _ => rfl | 11, _ => rfl | 12, _ => rfl | 13, _ => rfl | 14, _ => rfl | 15, _ => rfl
  | n + 16, h => by omega
theorem getN_dst (h : Ip4) (o d : Value) : ∀ i, i < 16 → getN (encIp4 h o d) (25 + i) = some (u8 (h.dst.a i))
  | 0, _ => rfl | 1, _ => rfl | 2, _ => rfl | 3, _ => rfl | 4, _ => rfl | 5, _ => rfl | 6, _ => rfl | 7, _ => rfl
  | 8, _ => rfl | 9, _ => rfl | 10, _ => rfl | 11, _ => rfl | 12, _ => rfl | 13, _ => rfl | 14, _ => rfl | 15, _ => rfl
  | n + 16, h => by omega
theorem four4_take (x : IP) : ∀ i, i < 4 → (four4 x).take i ++ [x.a i] = (four4 x).take (i + 1)
  | 0, _ => rfl | 1, _ => rfl | 2, _ => rfl | 3, _ => rfl
  | n + 4, h => by omega
theorem sum_skip {a b : List Int} (ha : a.length % 2 = 0) : sumS (a ++ [0, 0] ++ b) = sumS (a ++ b) := by
  unfold sumS
  rw [wsum_app, wsum_app, wsum_app]
  have e : par true (a ++ [0, 0]).length = true := by unfold par; simp; omega
  have e2 : par true a.length = true := by unfold par; rw [if_pos ha]
  rw [e, e2]
  simp [wsum]
def refHD (h : Ip4) (g : Int) : List Int := [64 + (20 + ((putL h.opts).length : Int)) / 4, h.tos] ++ [(20 + ((putL h.opts).length : Int) + (h.data.length : Int)) / 256, (20 + ((putL h.opts).length : Int) + (h.data.length : Int)) % 256] ++ [h.id / 256, h.id % 256] ++ [g / 256, g % 256] ++ [h.ttl, h.proto]
theorem refHD_top {h : Ip4} {g : Int} (hc : chkE h = 0) (hg : g = h.off / 8 + (if h.df = true then 16384 else 0) + (if h.mf = true then 8192 else 0)) : refHD h g ++ [0, 0] = top10 h := by
  have hb := badF_off (chkE_zero hc).1
  have h1 : g / 256 = bI h.df * 64 + bI h.mf * 32 + h.off / 8 / 256 := by subst hg; unfold bI; (repeat' split) <;> omega
  have h2 : g % 256 = h.off / 8 % 256 := by subst hg; (repeat' split) <;> omega
  simp only [refHD, top10, hdr12, h1, h2, List.cons_append, List.nil_append]
  rfl
theorem refHD_byt {h : Ip4} {g : Int} (hc : chkE h = 0) (hg : g = h.off / 8 + (if h.df = true then 16384 else 0) + (if h.mf = true then 8192 else 0)) : byt (refHD h g) := by
  have h1 := top10_byt hc
  rw [← refHD_top hc hg] at h1
  exact fun x hx => h1 x (List.mem_append_left _ hx)
theorem ser_ref {h : Ip4} {g : Int} (hc : chkE h = 0) (hg : g = h.off / 8 + (if h.df = true then 16384 else 0) + (if h.mf = true then 8192 else 0)) :
    refHD h g ++ [(65535 - sumS (refHD h g ++ (four4 h.src ++ four4 h.dst ++ putL h.opts))) / 256, (65535 - sumS (refHD h g ++ (four4 h.src ++ four4 h.dst ++ putL h.opts))) % 256] ++ (four4 h.src ++ four4 h.dst ++ putL h.opts) ++ h.data = serL h := by
  have e1 := refHD_top hc hg
  have e2 : sumS (refHD h g ++ (four4 h.src ++ four4 h.dst ++ putL h.opts)) = sumS (headB h) := by
    rw [← sum_skip (by simp [refHD]), e1]
    simp [headB, List.append_assoc]
  rw [e2]
  unfold serL serB headB
  rw [if_pos hc, ← e1]
  simp [sumC, headB, ← e1, refHD, List.append_assoc]

end Go.Proofs.YtkahmepenjhcpaaDoor.W

/- Contracts: the reference: canonical bytes, hops. No statement of the seat is proved here. -/
namespace Go.Proofs.YtkahmepenjhcpaaDoor.W
open Go
set_option linter.unusedSimpArgs false
set_option linter.unusedVariables false


theorem par_facts {b : List Int} (h : parE b = 0) : 20 ≤ b.length ∧ b.length ≤ 65535 ∧ b.getD 0 0 / 16 = 4 ∧ 20 ≤ hdN b ∧ hdN b ≤ b.length ∧ hdN b ≤ totN b ∧ totN b ≤ b.length ∧ sumS (b.take (hdN b)) = 65535 ∧ optE (optB4 b) = 0 ∧ fragE (decide (b.getD 6 0 / 32 % 2 = 1)) (8 * offW b) ((totN b : Int) - hdN b) = 0 := by
  have ho := optE_le (optB4 b)
  unfold parE at h
  by_cases h1 : 65535 < b.length
  · rw [if_pos h1] at h; omega
  rw [if_neg h1] at h
  by_cases h2 : b.length < 20
  · rw [if_pos h2] at h; omega
  rw [if_neg h2] at h
  by_cases h3 : b.getD 0 0 / 16 ≠ 4
  · rw [if_pos h3] at h; omega
  rw [if_neg h3] at h
  by_cases h4 : hdN b < 20 ∨ b.length < hdN b
  · rw [if_pos h4] at h; omega
  rw [if_neg h4] at h
  by_cases h5 : totN b < hdN b ∨ b.length < totN b
  · rw [if_pos h5] at h; omega
  rw [if_neg h5] at h
  by_cases h6 : sumS (b.take (hdN b)) ≠ 65535
  · rw [if_pos h6] at h; omega
  rw [if_neg h6] at h
  by_cases h7 : optE (optB4 b) ≠ 0
  · rw [if_pos h7] at h; omega
  rw [if_neg h7] at h
  refine ⟨by omega, by omega, by omega, by omega, by omega, by omega, by omega, by omega, by omega, ?_⟩
  omega
def hopM (b : List Int) : List Int := b.set 8 (b.getD 8 0 - 1)
def hopC (b : List Int) : Int := 65535 - sumS ((hopM b).take 10 ++ ((hopM b).drop 12).take (hdN b - 12))
def hopW (b : List Int) : List Int := ((hopM b).set 10 (hopC b / 256)).set 11 (hopC b % 256)
def hopE (b : List Int) : Int := if parE b ≠ 0 then parE b else if b.getD 8 0 < 2 then 67 else 0
def hopB (b : List Int) : List Int := if hopE b = 0 then hopW b else b
theorem hopM_byt {b : List Int} (h : byt b) (h2 : 2 ≤ b.getD 8 0) : byt (hopM b) := byt_set h _ (by have := byt_getD h 8; omega)
theorem hopC_bd {b : List Int} (h : byt (hopM b)) : 0 ≤ hopC b ∧ hopC b ≤ 65535 := by
  have hw := wsum_bd ((hopM b).take 10 ++ ((hopM b).drop 12).take (hdN b - 12)) true (byt_app (byt_take h _) (byt_take (byt_drop h _) _))
  have hf := foldS_bd hw.1
  unfold hopC sumS; omega
theorem parH_ttl {b : List Int} (h : parE b = 0) : (parH b).ttl = b.getD 8 0 := by unfold parH; rw [if_pos h]; rfl

end Go.Proofs.YtkahmepenjhcpaaDoor.W

/- The walk of weirlaw6.Ip4Back. No statement of the seat is proved here. -/
namespace Go.Proofs.YtkahmepenjhcpaaDoor.W
open Go
set_option linter.unusedSimpArgs false
set_option linter.unusedVariables false


theorem chkE_bd (h : Ip4) : 0 ≤ chkE h ∧ chkE h ≤ 68 := by
  have := fragE_or h.mf h.off h.data.length
  have : putE h.opts = 0 ∨ putE h.opts = 65 := by unfold putE; split <;> simp
  unfold chkE
  (repeat' split) <;> omega
theorem parE_bd (b : List Int) : 0 ≤ parE b ∧ parE b ≤ 66 := by
  have := optE_le (optB4 b)
  have := fragE_or (decide (b.getD 6 0 / 32 % 2 = 1)) (8 * offW b) ((totN b : Int) - hdN b)
  unfold parE
  (repeat' split) <;> omega
theorem ser_len {h : Ip4} (hc : chkE h = 0) : (serL h).length = 20 + (putL h.opts).length + h.data.length := by
  unfold serL; rw [if_pos hc, serB_eq]; simp [hd20]; omega
theorem ser_good {h : Ip4} (hc : chkE h = 0) (h1 : h.src.ok) (h2 : h.dst.ok) (hd : ∀ o ∈ h.opts, W.byt o.data) : sumS (((serL h).drop 0).take (20 + (putL h.opts).length - 0)) = 65535 := by
  have hl := putL_len h.opts
  unfold serL; rw [if_pos hc, serB_eq, ← List.append_assoc]
  rw [show (hd20 h ++ putL h.opts ++ h.data).drop 0 = hd20 h ++ putL h.opts ++ h.data from rfl, List.take_left' (by simp [hd20]; omega)]
  exact sum_right (headB_byt hc h1 h2 hd) (by omega)

set_option maxHeartbeats 1000000 in
theorem c3 (h : Ip4) (o d : Value) (w : World) (hO : OS [] w o h.opts) (hd : BS [] w d h.data) (hol : h.opts.length ≤ 1099511627776) (hdl : h.data.length ≤ 1099511627776) (hs : h.src.ok) (ht : h.dst.ok) (hdo : ∀ o ∈ h.opts, o.data.length ≤ 140737488355328) (hg : GV [] w 0 130 (W4.map i64)) :
    CallsD Tryd.prog 3 #[.agg (encIp4 h o d).toArray] w (.bool true) := by
  refine enter Tryd.func3 rfl Tryd.ntmps3 (l := [(0, [], _)]) rfl rfl ?_
  have S := St.refl [] w
  refine Run.seq ?_
  refine Run.region ?_
  refine boxA rfl S rfl ?_
  intro b1 w1 hb1 S B_
  refine asg1 rfl rfl ?_
  refine Ro.nil ?_
  refine Nrm.code ?_
  refine Run.seq ?_
  refine Run.region ?_
  refine calg (vs := []) rfl trivial k28 rfl (fun hG => c28 _ (hg.now S)) ?_
  intro w2 B_; have S := S.call B_
  refine asg1 rfl rfl ?_
  refine Ro.nil ?_
  refine Nrm.code ?_
  refine Run.seq ?_
  refine Run.region ?_
  refine ldW rfl T28 S (i := 0) rfl rfl rfl rfl rfl ?_
  have S0 := S
  refine call (vs := [_]) ⟨⟨_, _, rfl, rfl⟩, trivial⟩ k29 rfl (c29 _ _ _ _ (hO.now S) (hd.now S) hol hdl hdo) ?_
  rintro _ w3 ⟨oc, dc, rfl, B1, hcl⟩
  have hcl2 := hcl _ (S0.lt)
  have Sb := S0.call B1
  have hO := hO.st Sb
  have hd := hd.st Sb
  have hg := hg.st Sb
  have S := Sb.rebase
  have hoc := hcl2.1
  have hdc := hcl2.2
  refine alc T28 S rfl ?_
  intro b4 w4 hb4 S B_
  refine stW rfl rfl T28 rfl rfl (one_cons rfl (one_cons rfl (one_cons rfl (one_cons rfl (one_cons rfl (one_cons rfl (one_cons rfl (one_cons rfl (one_cons rfl (one_cons rfl (one_cons rfl (one_cons rfl (one_cons rfl (one_cons rfl (one_cons rfl (one_cons rfl (one_cons rfl (one_cons rfl (one_cons rfl (one_cons rfl (one_cons rfl (one_cons rfl (one_cons rfl (one_cons rfl (one_cons rfl (one_cons rfl (one_cons rfl (one_cons rfl (one_cons rfl (one_cons rfl (one_cons rfl (one_cons rfl (one_cons rfl (one_cons rfl (one_cons rfl (one_cons rfl (one_cons rfl (one_cons rfl (one_cons rfl (one_cons rfl (one_cons rfl (one_cons hoc.one (one_cons hdc.one one_nil))))))))))))))))))))))))))))))))))))))))))) S (i := 0) rfl rfl ?_
  intro w5 S
  refine Ro.nil ?_
  refine Nrm.code ?_
  refine Run.seq ?_
  refine Run.region ?_
  refine ldW rfl T28 S (i := 1) rfl rfl rfl rfl rfl ?_
  refine call (vs := [_]) ⟨⟨_, _, rfl, rfl⟩, trivial⟩ k30 rfl (c30 _ _ _ _ (hO.now S) (hd.now S) (by exact hol) (by exact hdl) hs ht (hg.now S)) ?_
  rintro _ w6 ⟨u5, rfl, hF⟩
  have S := S.fb hF
  have hb5 := S.layB (serL_byt hs ht hO.byt hd.1)
  have Sc := S.drop0
  have hO := hO.st Sc
  have hd := hd.st Sc
  have hg := hg.st Sc
  have hoc := hoc.st Sc
  have hdc := hdc.st Sc
  have S := Sc.rebase
  refine mv1 rfl rfl ?_
  refine extr1 rfl rfl rfl ?_
  refine extr1 rfl rfl rfl ?_
  refine asg1 rfl rfl ?_
  refine asg1 rfl rfl ?_
  refine Ro.nil ?_
  refine Nrm.code ?_
  refine Run.seq ?_
  refine Run.seq ?_
  refine Run.draw (by kernel_rfl) (by kernel_rfl) S ?_
  refine qmv rfl rfl rfl rfl ?_
  refine qnt rfl rfl rfl rfl ?_
  refine qmv rfl rfl rfl rfl ?_
  refine qmv rfl rfl rfl rfl ?_
  refine qcal (vs := [_]) rfl ⟨⟨_, _, rfl, rfl⟩, trivial⟩ k31 rfl (fun _ _ S B => S.call B) (fun hG w_ S => c31 (chkE h) _ (by have := chkE_bd h; omega)) ?_
  refine qldW rfl T28 (fun _ S => S) (i := 1) rfl rfl rfl rfl rfl ?_
  refine qcal (vs := [_]) rfl ⟨⟨_, _, rfl, rfl⟩, trivial⟩ k32 rfl (fun _ _ S B => S.call B) (fun hG w_ S => c32 _ _ _ _ (hO.now S) (hd.now S) hol hdl) ?_
  refine qcal (vs := [_]) rfl ⟨⟨_, _, rfl, rfl⟩, trivial⟩ k31 rfl (fun _ _ S B => S.call B) (fun hG w_ S => c31 (chkE h) _ (by have := chkE_bd h; omega)) ?_
  refine qneq rfl rfl rfl rfl rfl rfl ?_
  refine qpkO rfl rfl rfl rfl rfl rfl ?_
  refine Qo.nil (fun w7 S => ?_)
  refine Nrm.code ?_
  refine Run.cond rfl (fun hc4 => ?_) (fun hc4 => ?_)
  ·
    try simp only [Bool.or_eq_true, Bool.and_eq_true, Bool.or_eq_false_iff, Bool.and_eq_false_iff, decide_eq_true_eq, decide_eq_false_iff_not, Bool.not_eq_true', Bool.not_eq_false', Bool.not_eq_true, Bool.not_eq_false] at hc4
    exfalso; simp at hc4
  ·
    try simp only [Bool.or_eq_true, Bool.and_eq_true, Bool.or_eq_false_iff, Bool.and_eq_false_iff, decide_eq_true_eq, decide_eq_false_iff_not, Bool.not_eq_true', Bool.not_eq_false', Bool.not_eq_true, Bool.not_eq_false] at hc4
    refine Run.skip ?_
    refine Nrm.code ?_
    refine Run.seq ?_
    refine Run.seq ?_
    refine Run.region ?_
    refine mv1 rfl rfl ?_
    refine calg (vs := [_]) rfl ⟨⟨_, _, rfl, rfl⟩, trivial⟩ k31 rfl (fun hG => c31 (chkE h) _ (by have := chkE_bd h; omega)) ?_
    intro w8 B_; have S := S.call B_
    refine neq1 rfl rfl rfl ?_
    refine Ro.nil ?_
    refine Nrm.code ?_
    refine Run.cond rfl (fun hc6 => ?_) (fun hc6 => ?_)
    ·
      try simp only [Bool.or_eq_true, Bool.and_eq_true, Bool.or_eq_false_iff, Bool.and_eq_false_iff, decide_eq_true_eq, decide_eq_false_iff_not, Bool.not_eq_true', Bool.not_eq_false', Bool.not_eq_true, Bool.not_eq_false] at hc6
      refine Run.seq ?_
      refine Run.region ?_
      refine mv1 rfl rfl ?_
      refine lenS rfl hb5.2 Tryd.underlying26 rfl rfl rfl ?_
      refine eql1 rfl rfl rfl ?_
      refine asg1 rfl rfl ?_
      refine Ro.nil ?_
      refine Nrm.code ?_
      refine Run.ret ?_
      refine Rt.one rfl rfl ?_
      exact ⟨by rw [serL, if_neg hc6]; rfl, (Sb.trans (Sc.trans S)).bl⟩
    ·
      try simp only [Bool.or_eq_true, Bool.and_eq_true, Bool.or_eq_false_iff, Bool.and_eq_false_iff, decide_eq_true_eq, decide_eq_false_iff_not, Bool.not_eq_true', Bool.not_eq_false', Bool.not_eq_true, Bool.not_eq_false] at hc6
      replace hc6 : chkE h = 0 := by omega
      have hodt := hO.byt
      have hsl := ser_len hc6
      have hbk := ser_back hc6 hs ht hodt
      have hse : serL h = serB h := by unfold serL; rw [if_pos hc6]
      rw [← hse] at hbk
      have hA := hbk.1
      have hS2 : sameH (parH (serL h)) h = true := by rw [hbk.2]; exact normH_same (chkE_zero hc6).1
      have hC := ser_canon hc6 hs ht hodt
      have hgood := ser_good hc6 hs ht hodt
      have hpk := parH_ok hb5.1
      have hz3 := (chkE_zero hc6).2.2.1
      refine Run.skip ?_
      refine Nrm.code ?_
      refine Run.seq ?_
      refine Run.seq ?_
      refine Run.region ?_
      refine mv1 rfl rfl ?_
      refine lenS rfl hb5.2 Tryd.underlying26 rfl rfl rfl ?_
      refine fld (o' := 42) rfl fo28_10 rfl rfl rfl rfl ?_
      refine ld1 rfl T26 S (i := 1) rfl rfl rfl rfl rfl ?_
      refine lenS rfl hd.2 Tryd.underlying26 rfl rfl rfl ?_
      refine lss1 rfl rfl rfl ?_
      refine Ro.nil ?_
      refine Nrm.code ?_
      refine Run.cond rfl (fun hc8 => ?_) (fun hc8 => ?_)
      ·
        try simp only [Bool.or_eq_true, Bool.and_eq_true, Bool.or_eq_false_iff, Bool.and_eq_false_iff, decide_eq_true_eq, decide_eq_false_iff_not, Bool.not_eq_true', Bool.not_eq_false', Bool.not_eq_true, Bool.not_eq_false] at hc8
        exfalso; omega
      ·
        try simp only [Bool.or_eq_true, Bool.and_eq_true, Bool.or_eq_false_iff, Bool.and_eq_false_iff, decide_eq_true_eq, decide_eq_false_iff_not, Bool.not_eq_true', Bool.not_eq_false', Bool.not_eq_true, Bool.not_eq_false] at hc8
        refine Run.skip ?_
        refine Nrm.code ?_
        refine Run.seq ?_
        refine Run.region ?_
        refine mv1 rfl rfl ?_
        refine call (vs := [_]) ⟨⟨_, _, rfl, rfl⟩, trivial⟩ k33 rfl (c33 _ _ _ (hb5.now S) (hg.now S)) ?_
        rintro _ w9 ⟨o7, d7, vs7, rfl, hF, hw7⟩
        have S := S.fo hF
        have hd7 := (hw7 _ _ hb5).2
        have ho7 := (hw7 _ _ hb5).1
        refine mv1 rfl rfl ?_
        refine extr1 rfl rfl rfl ?_
        refine extr1 rfl rfl rfl ?_
        refine alc T28 S rfl ?_
        intro b7 w10 hb7 S B_
        refine stW rfl rfl T28 rfl rfl (one_cons rfl (one_cons rfl (one_cons rfl (one_cons rfl (one_cons rfl (one_cons rfl (one_cons rfl (one_cons rfl (one_cons rfl (one_cons rfl (one_cons rfl (one_cons rfl (one_cons rfl (one_cons rfl (one_cons rfl (one_cons rfl (one_cons rfl (one_cons rfl (one_cons rfl (one_cons rfl (one_cons rfl (one_cons rfl (one_cons rfl (one_cons rfl (one_cons rfl (one_cons rfl (one_cons rfl (one_cons rfl (one_cons rfl (one_cons rfl (one_cons rfl (one_cons rfl (one_cons rfl (one_cons rfl (one_cons rfl (one_cons rfl (one_cons rfl (one_cons rfl (one_cons rfl (one_cons rfl (one_cons rfl (one_cons (S.slI (i := 1) rfl).one (one_cons hd7.one one_nil))))))))))))))))))))))))))))))))))))))))))) S (i := 0) rfl rfl ?_
        intro w11 S
        refine asg1 rfl rfl ?_
        refine Ro.nil ?_
        refine Nrm.code ?_
        refine Run.seq ?_
        refine Run.region ?_
        refine mv1 rfl rfl ?_
        refine calg (vs := [_]) rfl ⟨⟨_, _, rfl, rfl⟩, trivial⟩ k31 rfl (fun hG => c31 (parE (serL h)) _ (by have := parE_bd (serL h); omega)) ?_
        intro w12 B_; have S := S.call B_
        refine eql1 rfl rfl rfl ?_
        refine mv1 rfl rfl ?_
        refine ldW rfl T28 S (i := 0) rfl rfl rfl rfl rfl ?_
        refine ldW rfl T28 S (i := 2) rfl rfl rfl rfl rfl ?_
        refine calg (vs := [_, _]) rfl ⟨⟨_, _, rfl, rfl⟩, ⟨_, _, rfl, rfl⟩, trivial⟩ k34 rfl (fun hG => c34 _ _ _ _ _ _ _ (S.osI (i := 1) rfl (ho7.now S)) (hd7.now S) (hoc.now S) (hdc.now S) (by have := hpk.2.2.1; omega)) ?_
        intro w13 B_; have S := S.call B_
        refine pkA rfl rfl rfl rfl rfl rfl ?_
        refine mv1 rfl rfl ?_
        refine mv rfl rfl rfl rfl ?_
        refine calg (vs := [_]) rfl ⟨⟨_, _, rfl, rfl⟩, trivial⟩ k35 rfl (fun hG => c35 _ _ _ (hb5.now S) (hg.now S)) ?_
        intro w14 B_; have S := S.call B_
        refine pkA rfl rfl rfl rfl rfl rfl ?_
        refine mv1 rfl rfl ?_
        refine mv rfl rfl rfl rfl ?_
        refine mv rfl rfl rfl rfl ?_
        refine lenS rfl hb5.2 Tryd.underlying26 rfl rfl rfl ?_
        refine fld (o' := 42) rfl fo28_10 rfl rfl rfl rfl ?_
        refine ld1 rfl T26 S (i := 3) rfl rfl rfl rfl rfl ?_
        refine lenS rfl hd.2 Tryd.underlying26 rfl rfl rfl ?_
        refine sub rfl rfl rfl rfl rfl rfl (fun hG => by first | exact (show IntKind.i64.wrap (((serL h).length : Int) - (h.data.length : Int)) = ((20 + (putL h.opts).length : Nat) : Int) from by rw [w64 (by omega)]; omega) | (simp [allT] at hG; exact (show IntKind.i64.wrap (((serL h).length : Int) - (h.data.length : Int)) = ((20 + (putL h.opts).length : Nat) : Int) from by rw [w64 (by omega)]; omega))) ?_
        refine slC (lo := 0) (hi := 20 + (putL h.opts).length) (mx := capV u5) rfl hb5 e26 rfl rfl rfl (i1 := none) (i2 := some (20 + (putL h.opts).length)) (i3 := none) trivial ⟨_, _, _, rfl, rfl⟩ trivial rfl rfl rfl (fun h => by first | rfl | cases h) (fun _ => by have hcap := hb5.cap; exact (show 0 ≤ 20 + (putL h.opts).length ∧ 20 + (putL h.opts).length ≤ (serL h).length ∧ 20 + (putL h.opts).length ≤ capV u5 ∧ capV u5 ≤ capV u5 from by omega)) ?_
        refine Ro.strip (by simp [allT, hA, hS2, hC]) ?_
        have hv64 := hb5.cut (lo := 0) (hi := 20 + (putL h.opts).length) (mx := capV u5) (by have := hb5.cap; omega)
        refine Ro.gtrue rfl (by simp [allT, hA, hS2, hC]) ?_
        refine bsl e102 (qs := [(_, _)]) ⟨⟨_, _, _, rfl, rfl, cells1 hv64.one, rfl, List.cons_ne_nil _ _⟩, trivial⟩ rfl rfl rfl rfl S ?_
        intro u65 w15 S B_
        have hgd : CallsD Tryd.prog 36 #[u65] w15 (.bool true) := by
          have := c36 u65 [_] w15 ⟨[_], S.slI (i := 0) rfl, hv64.now S, trivial⟩ (by rw [flat1, List.length_take]; omega) (by simp)
          rw [flat1, decide_eq_true hgood] at this
          exact this
        refine calg (vs := [_]) rfl ⟨⟨_, _, rfl, rfl⟩, trivial⟩ k36 rfl (fun hG => hgd) ?_
        intro w16 B_; have S := S.call B_
        refine pkA rfl rfl rfl rfl rfl rfl ?_
        refine asg1 rfl rfl ?_
        refine Ro.nil ?_
        refine Nrm.code ?_
        refine Run.ret ?_
        refine Rt.one rfl rfl ?_
        exact ⟨by simp [hA, hS2, hC], (Sb.trans (Sc.trans S)).bl⟩

end Go.Proofs.YtkahmepenjhcpaaDoor.W

/- Plain facts: what is read may be written. No statement of the seat is proved here. -/
namespace Go.Proofs.YtkahmepenjhcpaaDoor.W
open Go
set_option linter.unusedVariables false
set_option linter.unusedSimpArgs false

theorem optsG_ok : ∀ (n : Nat) (b : List Int), b.length ≤ n → b.length ≤ 40 → byt b → ∀ l, optsG b = some l → l.all okO = true ∧ (optsB l).length ≤ b.length := by
  intro n
  induction n with
  | zero =>
    intro b hb _ _ l h
    have : b = [] := List.length_eq_zero_iff.1 (by omega)
    subst this
    rw [optsG] at h; simp at h; subst h; simp [optsB]
  | succ n ih =>
    intro b hb h40 hby l h
    match b with
    | [] => rw [optsG] at h; simp at h; subst h; simp [optsB]
    | [k] =>
      rw [optsG] at h
      split at h
      · simp at h; subst h; simp [optsB]
      · simp at h
    | k :: m :: r =>
      have hk := hby k (by simp)
      have hm := hby m (by simp)
      have hr : byt r := fun x hx => hby x (by simp [hx])
      have hmr : byt (m :: r) := fun x hx => hby x (by rcases List.mem_cons.1 hx with e | e <;> simp [e])
      simp only [List.length_cons] at hb h40
      rw [optsG] at h
      split at h
      · simp at h; subst h; simp [optsB]
      · rename_i hk0
        split at h
        · have := ih (m :: r) (by simp; omega) (by simp; omega) hmr l h
          exact ⟨this.1, by have := this.2; simp only [List.length_cons] at this ⊢; omega⟩
        · rename_i hk1
          split at h
          · simp at h
          · rename_i hm2
            cases hg : optsG (r.drop (m.toNat - 2)) with
            | none => rw [hg] at h; simp at h
            | some l' =>
              rw [hg] at h
              simp only [Option.map_some, Option.some.injEq] at h
              subst h
              have := ih (r.drop (m.toNat - 2)) (by simp; omega) (by simp; omega) (byt_drop hr _) l' hg
              simp only [not_or, Int.not_lt, Nat.not_lt] at hm2
              have hlen : (r.take (m.toNat - 2)).length = m.toNat - 2 := by rw [List.length_take]; omega
              refine ⟨?_, ?_⟩
              · rw [List.all_cons, this.1, Bool.and_true, okO_iff]
                refine ⟨by show 2 ≤ k; omega, by show k ≤ 255; omega, by show (r.take (m.toNat - 2)).length ≤ 38; omega⟩
              · have h2 := this.2
                rw [List.length_drop] at h2
                have e : optsB (⟨k, r.take (m.toNat - 2)⟩ :: l') = optB ⟨k, r.take (m.toNat - 2)⟩ ++ optsB l' := by simp [optsB]
                rw [e, List.length_append, optB_len]
                show 2 + (r.take (m.toNat - 2)).length + _ ≤ _
                simp only [List.length_cons]; omega
theorem optL_ok {b : List Int} (hb : byt b) (h : optE b = 0) : putOk (optL b) = true ∧ (putL (optL b)).length ≤ b.length + (4 - b.length % 4) % 4 ∧ b.length ≤ 40 := by
  unfold optE at h
  by_cases h1 : 40 < b.length
  · rw [if_pos h1] at h; omega
  rw [if_neg h1] at h
  cases hg : optsG b with
  | none => rw [hg] at h; simp at h
  | some l =>
    have hk := optsG_ok b.length b (Nat.le_refl _) (by omega) hb l hg
    have e : optL b = l := by unfold optL; rw [if_neg h1, hg]; rfl
    rw [e]
    have hp : putOk l = true := putOk_yes hk.1 (by omega)
    refine ⟨hp, ?_, by omega⟩
    unfold putL
    rw [if_pos hp]
    have := pad4_len (optsB l)
    omega
theorem optB4_len {b : List Int} (h : hdN b ≤ b.length) : (optB4 b).length = hdN b - 20 := by
  unfold optB4; rw [List.length_take, List.length_drop]; omega
theorem hdN_four (b : List Int) : hdN b % 4 = 0 := by unfold hdN; omega
theorem parG_data {b : List Int} (h1 : hdN b ≤ totN b) (h2 : totN b ≤ b.length) : (parG b).data.length = totN b - hdN b := by
  show ((b.drop (hdN b)).take (totN b - hdN b)).length = _
  rw [List.length_take, List.length_drop]; omega
theorem putL_par {b : List Int} (hb : byt b) (hp : parE b = 0) : 20 + (putL (parG b).opts).length ≤ hdN b := by
  obtain ⟨_, _, _, h1, h2, _, _, _, ho, _⟩ := par_facts hp
  have h3 := (optL_ok (b := optB4 b) (byt_take (byt_drop hb _) _) ho).2.1
  have h4 := optB4_len h2
  have h5 := hdN_four b
  show 20 + (putL (optL (optB4 b))).length ≤ _
  omega
theorem ipOf_four (b : List Int) (i : Nat) : fourB (ipOf b i) = true := by
  unfold fourB ipOf ip4of
  rw [Bool.and_eq_true]
  refine ⟨by simp, ?_⟩
  rw [List.all_eq_true]
  intro j hj
  simp only [Bool.or_eq_true, decide_eq_true_eq]
  rcases Nat.lt_or_ge j 4 with h | h
  · exact .inl h
  · right
    rw [if_neg (by omega), if_neg (by omega), if_neg (by omega), if_neg (by omega)]
/-- what is read may be a datagram -/
theorem chk_par {b : List Int} (hb : byt b) (hp : parE b = 0) : chkE (parH b) = 0 := by
  have hf := par_facts hp
  obtain ⟨h20, hmx, hv, hh, hhb, hht, htb, hs, ho, hfr⟩ := hf
  have hB := byt_getD hb
  have B1 := hB 1
  have B4 := hB 4
  have B5 := hB 5
  have B6 := hB 6
  have B7 := hB 7
  have B8 := hB 8
  have B9 := hB 9
  have hpl := putL_par hb hp
  have hd := parG_data hht htb
  have hpo := (optL_ok (b := optB4 b) (byt_take (byt_drop hb _) _) ho).1
  have hw : 0 ≤ offW b ∧ offW b < 8192 := by unfold offW; omega
  unfold parH
  rw [if_pos hp]
  have hbad : badF (parG b) = false := by
    unfold badF outN parG
    rw [ipOf_four, ipOf_four]
    simp only [Bool.or_eq_false_iff, decide_eq_false_iff_not, Bool.not_true]
    have : (8 * offW b) % 8 = 0 := by omega
    refine ⟨⟨⟨⟨⟨⟨⟨⟨?_, ?_⟩, ?_, ?_⟩, ?_, ?_⟩, ?_⟩, ?_, ?_⟩, ?_, ?_⟩, ?_⟩, ?_⟩ <;> first | rfl | trivial | omega
  unfold chkE
  rw [if_neg (by rw [hbad]; simp), if_neg (by show ¬ putE (optL (optB4 b)) ≠ 0; unfold putE; rw [if_pos hpo]; omega), if_neg (by omega)]
  rw [show ((parG b).data.length : Int) = (totN b : Int) - hdN b from by omega]
  exact hfr
theorem parH_bytes {b : List Int} (hb : byt b) : (∀ o ∈ (parH b).opts, byt o.data) → byt (parH b).data := by
  intro _
  unfold parH
  split
  · exact byt_take (byt_drop hb _) _
  · exact byt_nil
theorem ser_le {b : List Int} (hb : byt b) (hp : parE b = 0) : (serL (parH b)).length ≤ b.length := by
  have hc := chk_par hb hp
  obtain ⟨_, _, _, _, _, hht, htb, _⟩ := par_facts hp
  have h1 := putL_par hb hp
  have h2 := parG_data hht htb
  rw [ser_len hc]
  unfold parH
  rw [if_pos hp]
  omega
end Go.Proofs.YtkahmepenjhcpaaDoor.W

/- Contracts: Hop. No statement of the seat is proved here. -/
namespace Go.Proofs.YtkahmepenjhcpaaDoor.W
open Go
set_option linter.unusedSimpArgs false
set_option linter.unusedVariables false


theorem St.bsV {N0 : List Nat} {w0 w : World} {L : List Own} {i j : Nat} {v : Value} {l : List Int} {o : Own} (S : St N0 w0 L w) (hk : getN L i = some (oB v l)) (hj : getN L j = some o) (hn : i ≠ j) (hb : byt l) {n mx : Nat} (hc : n ≤ l.length ∧ n ≤ mx ∧ mx ≤ capV v) : BS o.ids w (cut v 0 n mx) (l.take n) :=
  (S.bsN hk hj hn hb).cut0 hc
theorem or_bytes {a c : Int} (ha : 0 ≤ a ∧ a < 256) (hc : 0 ≤ c ∧ c < 256) : IntKind.i64.wrap (((a * 256 % 2 ^ IntKind.i64.bits).toNat ||| (c % 2 ^ IntKind.i64.bits).toNat : Nat) : Int) = a * 256 + c := or8 (by omega) (by omega)
theorem twelve {b : List Int} (h : 12 ≤ b.length) : ∃ x0 x1 x2 x3 x4 x5 x6 x7 x8 x9 x10 x11 r, b = x0 :: x1 :: x2 :: x3 :: x4 :: x5 :: x6 :: x7 :: x8 :: x9 :: x10 :: x11 :: r := by
  rcases b with _ | ⟨x0, _ | ⟨x1, _ | ⟨x2, _ | ⟨x3, _ | ⟨x4, _ | ⟨x5, _ | ⟨x6, _ | ⟨x7, _ | ⟨x8, _ | ⟨x9, _ | ⟨x10, _ | ⟨x11, r⟩⟩⟩⟩⟩⟩⟩⟩⟩⟩⟩⟩ <;> first
    | (simp at h; done)
    | exact ⟨_, _, _, _, _, _, _, _, _, _, _, _, _, rfl⟩
theorem foldS_cong {a b : Int} (ha : 0 < a) (hb : 0 < b) (h : a % 65535 = b % 65535) : foldS a = foldS b := by
  unfold foldS
  rw [if_neg (by omega), if_neg (by omega)]
  omega
theorem foldS_full {a : Int} (ha : 0 ≤ a) (h : foldS a = 65535) : a % 65535 = 0 := by
  unfold foldS at h
  split at h <;> omega
theorem hop_fix {b : List Int} (hb : byt b) (hp : parE b = 0) (h8 : 2 ≤ b.getD 8 0) :
    65535 - foldS (65535 - (b.getD 10 0 * 256 + b.getD 11 0) + 65535 - (b.getD 8 0 * 256 + b.getD 9 0) + (b.getD 8 0 * 256 + b.getD 9 0 - 256)) = hopC b := by
  have hf := par_facts hp
  obtain ⟨h20, _, h4, hh20, hhb, _, _, hs, _⟩ := hf
  have hB := byt_getD hb
  have B0 := hB 0
  have B1 := hB 1
  have B2 := hB 2
  have B3 := hB 3
  have B4 := hB 4
  have B5 := hB 5
  have B6 := hB 6
  have B7 := hB 7
  have B8 := hB 8
  have B9 := hB 9
  have B10 := hB 10
  have B11 := hB 11
  have hbr : byt (b.drop 12) := byt_drop hb 12
  generalize hm : hdN b = m at *
  obtain ⟨x0, x1, x2, x3, x4, x5, x6, x7, x8, x9, x10, x11, r, rfl⟩ := twelve (b := b) (by omega)
  obtain ⟨m', rfl⟩ : ∃ m', m = m' + 12 := ⟨m - 12, by omega⟩
  simp only [List.getD_cons_zero, List.getD_cons_succ] at *
  simp only [List.drop_succ_cons, List.drop_zero] at hbr
  have hw := wsum_bd (r.take m') true (byt_take hbr m')
  have e1 : sumS ((x0 :: x1 :: x2 :: x3 :: x4 :: x5 :: x6 :: x7 :: x8 :: x9 :: x10 :: x11 :: r).take (m' + 12)) = foldS (x0 * 256 + x1 + x2 * 256 + x3 + x4 * 256 + x5 + x6 * 256 + x7 + x8 * 256 + x9 + x10 * 256 + x11 + wsum true (r.take m')) := by
    simp only [List.take_succ_cons, sumS, wsum]
    congr 1
    omega
  have e2 : hopC (x0 :: x1 :: x2 :: x3 :: x4 :: x5 :: x6 :: x7 :: x8 :: x9 :: x10 :: x11 :: r) = 65535 - foldS (x0 * 256 + x1 + x2 * 256 + x3 + x4 * 256 + x5 + x6 * 256 + x7 + (x8 - 1) * 256 + x9 + wsum true (r.take m')) := by
    unfold hopC hopM
    rw [hm]
    simp only [List.getD_cons_zero, List.getD_cons_succ, List.set_cons_succ, List.set_cons_zero, List.take_succ_cons, List.take_zero, List.drop_succ_cons, List.drop_zero, Nat.add_sub_cancel, List.cons_append, List.nil_append, sumS, wsum]
    congr 2
    omega
  rw [e1] at hs
  have h0 := foldS_full (by omega) hs
  rw [e2]
  congr 1
  exact foldS_cong (by omega) (by omega) (by omega)
theorem hop_row {bs : List Int} {n : Nat} {c : Int} (hn : n ≤ bs.length) (h12 : 12 ≤ n) (he : hopE (bs.take n) = 0) (hc : c = hopC (bs.take n)) :
    ((bs.set 8 ((bs.take n).getD 8 0 - 1)).set 10 (c / 256)).set 11 (c % 256) = hopB (bs.take n) ++ bs.drop n := by
  have hl : (bs.take n).length = n := by rw [List.length_take]; omega
  unfold hopB
  rw [if_pos he]
  unfold hopW hopM
  rw [hc]
  conv => lhs; rw [← List.take_append_drop n bs]
  rw [List.set_append_left _ _ (by omega), List.set_append_left _ _ (by simp; omega), List.set_append_left _ _ (by simp; omega)]
  simp

end Go.Proofs.YtkahmepenjhcpaaDoor.W

/- Contracts: options laid apart. No statement of the seat is proved here. -/
namespace Go.Proofs.YtkahmepenjhcpaaDoor.W
open Go
set_option linter.unusedSimpArgs false
set_option linter.unusedVariables false


abbrev oM (o : Opt) : List Int := o.data ++ marks
theorem BSs.snoc' {N : List Nat} {w : World} {vs : List Value} {ls : List (List Int)} {q : Value} {l : List Int} (h : BSs N w vs ls) (h2 : BS N w q l) : BSs N w (vs ++ [q]) (ls ++ [l]) := BSs.snoc h h2
theorem BS.cutM {N : List Nat} {w : World} {q : Value} {l : List Int} (h : BS N w q (l ++ marks)) : BS N w (W.cut q 0 l.length (capV q)) l := by
  have h2 := h.cut0 (n := l.length) (mx := capV q) (by have := h.cap; rw [List.length_append] at *; omega)
  rwa [take_marks'] at h2
theorem sub_base {N1 : List Nat} {L : List Own} {N : List Nat} (h : idsL L = N1) : ∀ i ∈ N1, i ∈ idsL L ++ N := fun i hi => List.mem_append_left _ (by rw [h]; exact hi)

end Go.Proofs.YtkahmepenjhcpaaDoor.W

/- Contracts: the calls of layer 6 over bytes. No statement of the seat is proved here. -/
namespace Go.Proofs.YtkahmepenjhcpaaDoor.W
open Go
set_option linter.unusedSimpArgs false
set_option linter.unusedVariables false


theorem GV.stI {N0 : List Nat} {w0 w : World} {L : List Own} {o : Own} {i g : Nat} {T : TypeId} {c : List Value} (h : GV N0 w0 g T c) (S : St N0 w0 L w) (hk : getN L i = some o) : GV o.ids w g T c := Rd.weak (h.st S) (ids_sub hk)
theorem sameB_refl (x : IP) : sameB x x = true := sameB_iff.2 ⟨rfl, fun _ _ => rfl⟩
theorem sameOs_refl (l : List Opt) : sameOs l l = true := sameOs_iff.2 rfl
theorem sameH_refl (h : Ip4) : sameH h h = true := by simp [sameH, diffH, sameB_refl, sameOs_refl]
theorem hopE_zero {b : List Int} (h : hopE b = 0) : parE b = 0 ∧ 2 ≤ b.getD 8 0 := by
  unfold hopE at h
  by_cases h1 : parE b ≠ 0
  · rw [if_pos h1] at h; omega
  rw [if_neg h1] at h
  by_cases h2 : b.getD 8 0 < 2
  · rw [if_pos h2] at h; omega
  exact ⟨by omega, by omega⟩
theorem hopE_bd (b : List Int) : 0 ≤ hopE b ∧ hopE b ≤ 67 := by
  have := parE_bd b
  unfold hopE; (repeat' split) <;> omega
theorem hopB_byt {b : List Int} (h : byt b) : byt (hopB b) := by
  unfold hopB
  split
  · rename_i he
    have h2 := hopM_byt h (hopE_zero he).2
    have h3 := hopC_bd h2
    exact byt_set (byt_set h2 _ (by omega)) _ (by omega)
  · exact h
theorem hopB_len (b : List Int) : (hopB b).length = b.length := by
  unfold hopB; split
  · simp [hopW, hopM]
  · rfl
structure Op6 where
  kind : Int
  b : List Int
  h : Ip4
  l : List Opt
def encOp6 (p : Op6) (vB o d vL : Value) : List Value := [i64 p.kind, vB] ++ (encIp4 p.h o d ++ [vL])

end Go.Proofs.YtkahmepenjhcpaaDoor.W

/- Plain facts: what a hop leaves. No statement of the seat is proved here. -/
namespace Go.Proofs.YtkahmepenjhcpaaDoor.W
open Go
set_option linter.unusedVariables false
set_option linter.unusedSimpArgs false

theorem getD_set_ne {l : List Int} {i j : Nat} {x : Int} (h : i ≠ j) : (l.set i x).getD j 0 = l.getD j 0 := by
  rw [List.getD_eq_getElem?_getD, List.getD_eq_getElem?_getD, List.getElem?_set_ne h]
theorem getD_set_eq {l : List Int} {i : Nat} {x : Int} (h : i < l.length) : (l.set i x).getD i 0 = x := by
  rw [List.getD_eq_getElem?_getD, List.getElem?_set_self h]; rfl
theorem hopW_getD {b : List Int} {i : Nat} (h8 : i ≠ 8) (h10 : i ≠ 10) (h11 : i ≠ 11) : (hopW b).getD i 0 = b.getD i 0 := by
  unfold hopW hopM
  rw [getD_set_ne (by omega), getD_set_ne (by omega), getD_set_ne (by omega)]
theorem hopW_8 {b : List Int} (h : 20 ≤ b.length) : (hopW b).getD 8 0 = b.getD 8 0 - 1 := by
  unfold hopW hopM
  rw [getD_set_ne (by omega), getD_set_ne (by omega), getD_set_eq (by omega)]
theorem hopW_drop {b : List Int} {m : Nat} (h : 12 ≤ m) : (hopW b).drop m = b.drop m := by
  unfold hopW hopM
  rw [List.drop_set_of_lt (by omega), List.drop_set_of_lt (by omega), List.drop_set_of_lt (by omega)]
theorem hopW_len (b : List Int) : (hopW b).length = b.length := by simp [hopW, hopM]
theorem hopC_at {x0 x1 x2 x3 x4 x5 x6 x7 x8 x9 x10 x11 : Int} {r : List Int} {m : Nat} (hm : hdN (x0 :: x1 :: x2 :: x3 :: x4 :: x5 :: x6 :: x7 :: x8 :: x9 :: x10 :: x11 :: r) = m + 12) :
    hopC (x0 :: x1 :: x2 :: x3 :: x4 :: x5 :: x6 :: x7 :: x8 :: x9 :: x10 :: x11 :: r) = 65535 - foldS (x0 * 256 + x1 + x2 * 256 + x3 + x4 * 256 + x5 + x6 * 256 + x7 + (x8 - 1) * 256 + x9 + wsum true (r.take m)) := by
  unfold hopC hopM
  rw [hm]
  simp only [List.getD_cons_zero, List.getD_cons_succ, List.set_cons_succ, List.set_cons_zero, List.take_succ_cons, List.take_zero, List.drop_succ_cons, List.drop_zero, Nat.add_sub_cancel, List.cons_append, List.nil_append, sumS, wsum]
  congr 2
  omega
theorem hop_sum {b : List Int} (hb : byt b) (hp : parE b = 0) (h8 : 2 ≤ b.getD 8 0) : sumS ((hopW b).take (hdN b)) = 65535 := by
  have hf := par_facts hp
  obtain ⟨h20, _, h4, hh20, hhb, _, _, hs, _⟩ := hf
  have hcb := hopC_bd (b := b) (hopM_byt hb h8)
  have hB := byt_getD hb
  have B0 := hB 0
  have B1 := hB 1
  have B2 := hB 2
  have B3 := hB 3
  have B4 := hB 4
  have B5 := hB 5
  have B6 := hB 6
  have B7 := hB 7
  have B8 := hB 8
  have B9 := hB 9
  have hbr : byt (b.drop 12) := byt_drop hb 12
  obtain ⟨x0, x1, x2, x3, x4, x5, x6, x7, x8, x9, x10, x11, r, rfl⟩ := twelve (b := b) (by omega)
  obtain ⟨m, hm⟩ : ∃ m, hdN (x0 :: x1 :: x2 :: x3 :: x4 :: x5 :: x6 :: x7 :: x8 :: x9 :: x10 :: x11 :: r) = m + 12 := ⟨hdN (x0 :: x1 :: x2 :: x3 :: x4 :: x5 :: x6 :: x7 :: x8 :: x9 :: x10 :: x11 :: r) - 12, by omega⟩
  have hC := hopC_at hm
  generalize hc : hopC (x0 :: x1 :: x2 :: x3 :: x4 :: x5 :: x6 :: x7 :: x8 :: x9 :: x10 :: x11 :: r) = c at *
  simp only [List.getD_cons_zero, List.getD_cons_succ] at *
  simp only [List.drop_succ_cons, List.drop_zero] at hbr
  have hw := wsum_bd (r.take m) true (byt_take hbr m)
  have e1 : hopW (x0 :: x1 :: x2 :: x3 :: x4 :: x5 :: x6 :: x7 :: x8 :: x9 :: x10 :: x11 :: r) = x0 :: x1 :: x2 :: x3 :: x4 :: x5 :: x6 :: x7 :: (x8 - 1) :: x9 :: (c / 256) :: (c % 256) :: r := by
    unfold hopW hopM
    rw [hc]
    simp
  rw [e1, hm]
  simp only [List.take_succ_cons, sumS, wsum]
  have := foldS_fix (w := x0 * 256 + x1 + x2 * 256 + x3 + x4 * 256 + x5 + x6 * 256 + x7 + (x8 - 1) * 256 + x9 + wsum true (r.take m)) (c := c) (by omega) hC
  rw [← this]
  congr 1
  omega
theorem hop_par {b : List Int} (hb : byt b) (he : hopE b = 0) : parE (hopB b) = 0 ∧ parH (hopB b) = { parH b with ttl := b.getD 8 0 - 1 } := by
  obtain ⟨hp, h8⟩ := hopE_zero he
  obtain ⟨h20, hmx, hv, hh, hhb, hht, htb, hs, ho, hfr⟩ := par_facts hp
  have e : hopB b = hopW b := by unfold hopB; rw [if_pos he]
  rw [e]
  have g : ∀ i, i ≠ 8 → i ≠ 10 → i ≠ 11 → (hopW b).getD i 0 = b.getD i 0 := fun i h1 h2 h3 => hopW_getD h1 h2 h3
  have eh : hdN (hopW b) = hdN b := by unfold hdN; rw [g 0 (by decide) (by decide) (by decide)]
  have et : totN (hopW b) = totN b := by unfold totN totI; rw [g 2 (by decide) (by decide) (by decide), g 3 (by decide) (by decide) (by decide)]
  have ew : offW (hopW b) = offW b := by unfold offW; rw [g 6 (by decide) (by decide) (by decide), g 7 (by decide) (by decide) (by decide)]
  have eo : optB4 (hopW b) = optB4 b := by unfold optB4; rw [eh, hopW_drop (by decide)]
  have hp' : parE (hopW b) = 0 := by
    unfold parE
    rw [hopW_len, g 0 (by decide) (by decide) (by decide), eh, et, hop_sum hb hp h8, eo, ew, g 6 (by decide) (by decide) (by decide)]
    rw [if_neg (by omega), if_neg (by omega), if_neg (by omega), if_neg (by omega), if_neg (by omega), if_neg (by omega), if_neg (by omega)]
    exact hfr
  refine ⟨hp', ?_⟩
  unfold parH
  rw [if_pos hp', if_pos hp]
  have ip : ∀ k, 12 ≤ k → ipOf (hopW b) k = ipOf b k := fun k hk => by
    unfold ipOf
    rw [g k (by omega) (by omega) (by omega), g (k + 1) (by omega) (by omega) (by omega), g (k + 2) (by omega) (by omega) (by omega), g (k + 3) (by omega) (by omega) (by omega)]
  unfold parG
  rw [eh, et, ew, eo, hopW_8 h20, hopW_drop (by omega), g 1 (by decide) (by decide) (by decide), g 4 (by decide) (by decide) (by decide), g 5 (by decide) (by decide) (by decide), g 6 (by decide) (by decide) (by decide), g 9 (by decide) (by decide) (by decide), ip 12 (by decide), ip 16 (by decide)]
theorem hop_ser {h : Ip4} (hc : chkE h = 0) (h2 : 2 ≤ h.ttl) (hp : parE (serL h) = 0) : hopW (serL h) = serL { h with ttl := h.ttl - 1 } := by
  have hc' : chkE { h with ttl := h.ttl - 1 } = 0 := by
    obtain ⟨c1, c2, c3, c4⟩ := chkE_zero hc
    have hb := badF_off c1
    unfold chkE
    have hbad : badF { h with ttl := h.ttl - 1 } = false := by
      unfold badF outN
      simp only [Bool.or_eq_false_iff, decide_eq_false_iff_not, hb.2.2.2.2.2.2.2.2.2.2.2.1, hb.2.2.2.2.2.2.2.2.2.2.2.2, Bool.not_true]
      refine ⟨⟨⟨⟨⟨⟨⟨⟨?_, ?_⟩, ?_, ?_⟩, ?_, ?_⟩, ?_⟩, ?_, ?_⟩, ?_, ?_⟩, ?_⟩, ?_⟩ <;> first | rfl | trivial | omega
    rw [if_neg (by rw [hbad]; simp), if_neg (by show ¬ putE h.opts ≠ 0; omega), if_neg (by show ¬ _; exact Int.not_lt.2 c3)]
    exact c4
  have hpl := putL_len h.opts
  have e1 : serL h = hd20 h ++ (putL h.opts ++ h.data) := by unfold serL; rw [if_pos hc, serB_eq]
  have e2 : serL { h with ttl := h.ttl - 1 } = hd20 { h with ttl := h.ttl - 1 } ++ (putL h.opts ++ h.data) := by unfold serL; rw [if_pos hc', serB_eq]
  have hhd : hdN (serL h) = 20 + (putL h.opts).length := by
    rw [e1]; unfold hdN hd20
    simp only [List.cons_append, List.getD_cons_zero]
    omega
  have hC : hopC (serL h) = sumC { h with ttl := h.ttl - 1 } := by
    unfold hopC sumC
    congr 1
    rw [hhd]
    have e3 : headB { h with ttl := h.ttl - 1 } = (hopM (serL h)).take 10 ++ [0, 0] ++ ((hopM (serL h)).drop 12).take (20 + (putL h.opts).length - 12) := by
      have hd : 20 + (putL h.opts).length - 12 = (four4 h.src ++ four4 h.dst ++ putL h.opts).length := by simp [four4]; omega
      rw [e1]
      have e4 : (hopM (hd20 h ++ (putL h.opts ++ h.data))).drop 12 = (four4 h.src ++ four4 h.dst ++ putL h.opts) ++ h.data := by simp [hopM, hd20, four4]
      rw [e4, hd, List.take_left]
      simp [hopM, hd20, headB, top10, hdr12, four4]
    rw [e3, sum_skip]
    have : 10 ≤ (hopM (serL h)).length := by rw [e1]; simp [hopM, hd20]
    rw [List.length_take]
    omega
  rw [e2]
  unfold hopW
  rw [hC, e1]
  simp [hopM, hd20]
theorem hop_can {b : List Int} (hb : byt b) (he : hopE b = 0) (hc : canB b = true) : canB (hopB b) = true := by
  obtain ⟨hp, h8⟩ := hopE_zero he
  obtain ⟨hp', hh'⟩ := hop_par hb he
  have hbb := hopB_byt hb
  have hck := chk_par hb hp
  have hck' := chk_par hbb hp'
  have hbe : b = serL (parH b) := by
    unfold canB at hc
    simp only [Bool.and_eq_true, decide_eq_true_eq] at hc
    exact hc.2.2
  unfold canB
  rw [decide_eq_true hp', decide_eq_true hck', Bool.true_and, Bool.true_and, decide_eq_true_eq, hh']
  have htl := parH_ttl hp
  have h1 := hop_ser hck (by omega) (by rw [← hbe]; exact hp)
  rw [← hbe, htl] at h1
  rw [← h1]
  unfold hopB
  rw [if_pos he]
end Go.Proofs.YtkahmepenjhcpaaDoor.W

/- Plain laws of layer 9: what is written is read again. No program walked here; no statement of the seat is proved here. -/
namespace Go.Proofs.YtkahmepenjhcpaaDoor.W
open Go
set_option linter.unusedVariables false
set_option linter.unusedSimpArgs false

theorem wsum_set2 : ∀ (j : Nat) (L : List Int) (c : Int), 2 * j + 1 < L.length → L.getD (2 * j) 0 = 0 → L.getD (2 * j + 1) 0 = 0 →
    wsum true ((L.set (2 * j) (c / 256)).set (2 * j + 1) (c % 256)) = wsum true L + c
  | 0, [], c, h, _, _ => by simp at h
  | 0, [_], c, h, _, _ => by simp at h
  | 0, a :: b :: r, c, _, h1, h2 => by
    simp only [Nat.mul_zero, Nat.zero_add, List.getD_cons_zero, List.getD_cons_succ] at h1 h2
    subst h1; subst h2
    simp only [Nat.mul_zero, Nat.zero_add, List.set_cons_zero, List.set_cons_succ, wsum]
    omega
  | j + 1, [], c, h, _, _ => by simp at h
  | j + 1, [_], c, h, _, _ => by simp at h
  | j + 1, a :: b :: r, c, h, h1, h2 => by
    have e : 2 * (j + 1) = (2 * j + 1) + 1 := by omega
    have e2 : 2 * (j + 1) + 1 = (2 * j + 1 + 1) + 1 := by omega
    rw [e] at h1 h2 ⊢
    simp only [List.getD_cons_succ] at h1 h2
    have ih := wsum_set2 j r c (by simp only [List.length_cons] at h; omega) h1 h2
    simp only [List.set_cons_succ, wsum]
    rw [ih]
    omega
theorem par_even {l : List Int} (h : l.length % 2 = 0) : par true l.length = true := by unfold par; rw [if_pos h]
def pw (s d : IP) (p : Int) (b : List Int) : Int := wsum true (pseL s d p b.length) + wsum true b
theorem psum_pw (s d : IP) (p : Int) (b : List Int) : psum s d p b = foldS (pw s d p b) := by
  unfold psum sumS pw
  rw [wsum_app, par_even (pseL_len s d p b.length).2]
theorem pse_pos {s d : IP} {p n : Int} (hs : s.ok) (hd : d.ok) (h : pseE s d p n = 0) (hp : 1 ≤ p) : 0 < wsum true (pseL s d p n) := by
  obtain ⟨_, h1, h2, h3, h4⟩ := pse_ok h
  have a := fun i hi => hs.1 i hi
  have b := fun i hi => hd.1 i hi
  have a0 := a 0 (by omega); have a1 := a 1 (by omega); have a2 := a 2 (by omega); have a3 := a 3 (by omega); have a4 := a 4 (by omega); have a5 := a 5 (by omega); have a6 := a 6 (by omega); have a7 := a 7 (by omega)
  have a8 := a 8 (by omega); have a9 := a 9 (by omega); have a10 := a 10 (by omega); have a11 := a 11 (by omega); have a12 := a 12 (by omega); have a13 := a 13 (by omega); have a14 := a 14 (by omega); have a15 := a 15 (by omega)
  have b0 := b 0 (by omega); have b1 := b 1 (by omega); have b2 := b 2 (by omega); have b3 := b 3 (by omega); have b4 := b 4 (by omega); have b5 := b 5 (by omega); have b6 := b 6 (by omega); have b7 := b 7 (by omega)
  have b8 := b 8 (by omega); have b9 := b 9 (by omega); have b10 := b 10 (by omega); have b11 := b 11 (by omega); have b12 := b 12 (by omega); have b13 := b 13 (by omega); have b14 := b 14 (by omega); have b15 := b 15 (by omega)
  unfold pseL pseB
  rw [if_pos h]
  split
  · simp only [four4, List.cons_append, List.nil_append, wsum]; omega
  · simp only [six6, List.cons_append, List.nil_append, wsum]; omega
theorem pw_pos {s d : IP} {p : Int} {b : List Int} (hs : s.ok) (hd : d.ok) (hb : byt b) (h : pseE s d p b.length = 0) (hp : 1 ≤ p) : 0 < pw s d p b := by
  have h1 := pse_pos hs hd h hp
  have h2 := (wsum_bd b true hb).1
  unfold pw; omega
theorem foldS_fixU {w c : Int} (hw : 0 < w) (hc : c = if 65535 - foldS w = 0 then 65535 else 65535 - foldS w) : foldS (w + c) = 65535 := by
  subst hc; unfold foldS; (repeat' split) <;> omega
theorem set2_len (L : List Int) (i j : Nat) (x y : Int) : ((L.set i x).set j y).length = L.length := by rw [List.length_set, List.length_set]
theorem pw_set2 {s d : IP} {p : Int} {L : List Int} (j : Nat) (c : Int) (h : 2 * j + 1 < L.length) (h1 : L.getD (2 * j) 0 = 0) (h2 : L.getD (2 * j + 1) 0 = 0) :
    pw s d p ((L.set (2 * j) (c / 256)).set (2 * j + 1) (c % 256)) = pw s d p L + c := by
  unfold pw
  rw [set2_len, wsum_set2 j L c h h1 h2]
  omega
/-! ### UDP -/
theorem udp0 (u : Udp) : (udpB0 u).getD 0 0 = u.sport / 256 ∧ (udpB0 u).getD 1 0 = u.sport % 256 ∧ (udpB0 u).getD 2 0 = u.dport / 256 ∧ (udpB0 u).getD 3 0 = u.dport % 256 ∧ (udpB0 u).getD 4 0 = (8 + (u.data.length : Int)) / 256 ∧ (udpB0 u).getD 5 0 = (8 + (u.data.length : Int)) % 256 ∧ (udpB0 u).getD 6 0 = 0 ∧ (udpB0 u).getD 7 0 = 0 ∧ (udpB0 u).drop 8 = u.data :=
  ⟨rfl, rfl, rfl, rfl, rfl, rfl, rfl, rfl, rfl⟩
theorem putUB_len (s d : IP) (u : Udp) : (putUB s d u).length = 8 + u.data.length := by
  unfold putUB; split
  · exact udpB0_len u
  · rw [set2_len]; exact udpB0_len u
theorem putUB_at (s d : IP) (u : Udp) {i : Nat} (h6 : i ≠ 6) (h7 : i ≠ 7) : (putUB s d u).getD i 0 = (udpB0 u).getD i 0 := by
  unfold putUB; split
  · rfl
  · rw [getD_set_ne (Ne.symm h7), getD_set_ne (Ne.symm h6)]
theorem putUB_67 (s d : IP) (u : Udp) : wd2 (putUB s d u) 6 = if u.nosum = true then 0 else udpC s d u := by
  have hl := udpB0_len u
  unfold putUB wd2
  split
  · rw [(udp0 u).2.2.2.2.2.2.1, (udp0 u).2.2.2.2.2.2.2.1]; rfl
  · rw [show (6 : Nat) + 1 = 7 from rfl, getD_set_eq (by rw [List.length_set]; omega), getD_set_ne (by decide), getD_set_eq (by omega)]
    omega
theorem putUB_drop (s d : IP) (u : Udp) : (putUB s d u).drop 8 = u.data := by
  unfold putUB; split
  · rfl
  · rw [List.drop_set_of_lt (by decide), List.drop_set_of_lt (by decide)]; rfl
theorem udpC_pos {s d : IP} {u : Udp} (hs : s.ok) (ht : d.ok) (hb : byt (udpB0 u)) : 0 < udpC s d u ∧ udpC s d u ≤ 65535 := by
  have := psum_bd (p := 17) hs ht hb
  unfold udpC; split <;> omega
theorem udp_sum {s d : IP} {u : Udp} (hs : s.ok) (ht : d.ok) (hb : byt (udpB0 u)) (hf : fitE s d = 0) (hl : u.data.length ≤ 65527) (hn : u.nosum = false) : psum s d 17 (putUB s d u) = 65535 := by
  have hlen := udpB0_len u
  have e : putUB s d u = ((udpB0 u).set (2 * 3) (udpC s d u / 256)).set (2 * 3 + 1) (udpC s d u % 256) := by unfold putUB; rw [if_neg (by rw [hn]; simp)]
  rw [e, psum_pw, pw_set2 3 _ (by omega) rfl rfl]
  exact foldS_fixU (pw_pos hs ht hb (fit_pse hf (by omega) (by omega)) (by decide)) (by unfold udpC; rw [psum_pw])
theorem udp_back {s d : IP} {u : Udp} (hs : s.ok) (ht : d.ok) (hd : byt u.data) (he : putUE s d u = 0) :
    (putUL s d u).length = 8 + u.data.length ∧ lenU (putUL s d u) = 8 + u.data.length ∧ wd2 (putUL s d u) 6 = (if u.nosum = true then 0 else udpC s d u) ∧ 0 < udpC s d u ∧ udpC s d u ≤ 65535 ∧ fitE s d = 0 ∧ (u.nosum = false → psum s d 17 (putUL s d u) = 65535) ∧ udpE s d (putUL s d u) = 0 ∧ udpU s d (putUL s d u) = u := by
  obtain ⟨hf, hc⟩ := putUE_zero he
  have hz := chkU_zero hc
  have hb := udpB0_byt hc hd
  have hC := udpC_pos hs ht hb
  have eL : putUL s d u = putUB s d u := by unfold putUL; rw [if_pos he]
  rw [eL]
  have hlen := putUB_len s d u
  have h67 := putUB_67 s d u
  have g := udp0 u
  have h4 : wd2 (putUB s d u) 4 = 8 + (u.data.length : Int) := by
    unfold wd2
    rw [putUB_at s d u (by decide) (by decide), putUB_at s d u (by decide) (by decide), g.2.2.2.2.1, g.2.2.2.2.2.1]; omega
  have h0 : wd2 (putUB s d u) 0 = u.sport := by
    unfold wd2
    rw [putUB_at s d u (by decide) (by decide), putUB_at s d u (by decide) (by decide), g.1, g.2.1]; omega
  have h2 : wd2 (putUB s d u) 2 = u.dport := by
    unfold wd2
    rw [putUB_at s d u (by decide) (by decide), putUB_at s d u (by decide) (by decide), g.2.2.1, g.2.2.2.1]; omega
  have hLU : lenU (putUB s d u) = 8 + u.data.length := by unfold lenU; omega
  have hsum := fun hn => udp_sum hs ht hb hf hz.2.2.2.2.2.1 hn
  have hE : udpE s d (putUB s d u) = 0 := by
    unfold udpE
    rw [if_neg (by omega), if_neg (by omega), if_neg (by omega), if_neg (by omega)]
    by_cases hw : wd2 (putUB s d u) 6 = 0
    · rw [if_pos hw]
      cases hn : u.nosum with
      | true => have := hz.2.2.2.2.2.2 hn; rw [if_neg (by omega)]
      | false => rw [h67, hn] at hw; simp at hw; omega
    · rw [if_neg hw]
      cases hn : u.nosum with
      | true => rw [h67, hn] at hw; simp at hw
      | false => rw [hLU, List.take_of_length_le (by omega), hsum hn]; simp
  refine ⟨hlen, hLU, h67, hC.1, hC.2, hf, hsum, hE, ?_⟩
  unfold udpU
  rw [if_pos hE]
  unfold udpG
  rw [h0, h2, hLU, putUB_drop, h67, show 8 + u.data.length - 8 = u.data.length from by omega, List.take_of_length_le (Nat.le_refl _)]
  have e7 : decide ((if u.nosum = true then 0 else udpC s d u) = 0) = u.nosum := by
    cases hn : u.nosum with
    | true => simp
    | false => simp; omega
  rw [e7]
/-! ### TCP -/
theorem tcp0 (t : Tcp) : (tcpB0 t).getD 0 0 = t.sport / 256 ∧ (tcpB0 t).getD 1 0 = t.sport % 256 ∧ (tcpB0 t).getD 2 0 = t.dport / 256 ∧ (tcpB0 t).getD 3 0 = t.dport % 256 ∧
    (tcpB0 t).getD 4 0 = t.seq / 16777216 ∧ (tcpB0 t).getD 5 0 = t.seq / 65536 % 256 ∧ (tcpB0 t).getD 6 0 = t.seq / 256 % 256 ∧ (tcpB0 t).getD 7 0 = t.seq % 256 ∧
    (tcpB0 t).getD 8 0 = t.ack / 16777216 ∧ (tcpB0 t).getD 9 0 = t.ack / 65536 % 256 ∧ (tcpB0 t).getD 10 0 = t.ack / 256 % 256 ∧ (tcpB0 t).getD 11 0 = t.ack % 256 ∧
    (tcpB0 t).getD 12 0 = hdT t * 16 + 0 ∧ (tcpB0 t).getD 13 0 = t.flags ∧ (tcpB0 t).getD 14 0 = t.win / 256 ∧ (tcpB0 t).getD 15 0 = t.win % 256 ∧ (tcpB0 t).getD 16 0 = 0 ∧ (tcpB0 t).getD 17 0 = 0 ∧ (tcpB0 t).getD 18 0 = t.urg / 256 ∧ (tcpB0 t).getD 19 0 = t.urg % 256 :=
  ⟨rfl, rfl, rfl, rfl, rfl, rfl, rfl, rfl, rfl, rfl, rfl, rfl, rfl, rfl, rfl, rfl, rfl, rfl, rfl, rfl⟩
theorem putTB_len (s d : IP) (t : Tcp) : (putTB s d t).length = 20 + (tputL t.opts).length + t.data.length := by unfold putTB; rw [set2_len]; exact tcpB0_len t
theorem putTB_at (s d : IP) (t : Tcp) {i : Nat} (h6 : i ≠ 16) (h7 : i ≠ 17) : (putTB s d t).getD i 0 = (tcpB0 t).getD i 0 := by
  unfold putTB; rw [getD_set_ne (Ne.symm h7), getD_set_ne (Ne.symm h6)]
theorem putTB_drop (s d : IP) (t : Tcp) {m : Nat} (h : 18 ≤ m) : (putTB s d t).drop m = (tcpB0 t).drop m := by
  unfold putTB; rw [List.drop_set_of_lt (by omega), List.drop_set_of_lt (by omega)]
theorem tcp_sum {s d : IP} {t : Tcp} (hs : s.ok) (ht : d.ok) (hb : byt (tcpB0 t)) (hf : fitE s d = 0) (hl : 20 + ((tputL t.opts).length : Int) + t.data.length ≤ 65535) : psum s d 6 (putTB s d t) = 65535 := by
  have hlen := tcpB0_len t
  have e : putTB s d t = ((tcpB0 t).set (2 * 8) (tcpC s d t / 256)).set (2 * 8 + 1) (tcpC s d t % 256) := rfl
  rw [e, psum_pw, pw_set2 8 _ (by omega) rfl rfl]
  exact foldS_fix (pw_pos hs ht hb (fit_pse hf (by omega) (by omega)) (by decide)) (by unfold tcpC; rw [psum_pw])
theorem topt_back {os : List Opt} (h : tputOk os = true) : tE (tputL os) = 0 ∧ tL (tputL os) = os := by
  have hl := tputL_len os
  have hp := tput_put h
  have e : optsG (tputL os) = some os := by
    rw [tputL_putL h]
    unfold putL
    rw [if_pos hp.2]
    have h2 := hp.2
    simp only [putOk, Bool.and_eq_true] at h2
    exact optsG_put os h2.1 _
  have e2 : toptsG (tputL os) = some os := by unfold toptsG; rw [e]; simp only [Option.bind_some]; rw [if_pos hp.1]
  have : ¬ 40 < (tputL os).length := by omega
  simp [tE, tL, this, e2]
theorem tcp_back {s d : IP} {t : Tcp} (hs : s.ok) (ht : d.ok) (ho : ∀ o ∈ t.opts, W.byt o.data) (hd : byt t.data) (he : putTE s d t = 0) :
    (putTL s d t).length = 20 + (tputL t.opts).length + t.data.length ∧ tcpH (putTL s d t) = 20 + (tputL t.opts).length ∧ fitE s d = 0 ∧ psum s d 6 (putTL s d t) = 65535 ∧ tcpE s d (putTL s d t) = 0 ∧ tcpT s d (putTL s d t) = t := by
  obtain ⟨hf, hc⟩ := putTE_zero he
  have hz := chkT_zero hc
  have hbo := badT_off hz.1
  have hb := tcpB0_byt hc ho hd
  have hh := hdT_bd t
  have hpl := tputL_len t.opts
  have eL : putTL s d t = putTB s d t := by unfold putTL; rw [if_pos he]
  rw [eL]
  have hlen := putTB_len s d t
  have g := tcp0 t
  have h12 : (putTB s d t).getD 12 0 = hdT t * 16 + 0 := by rw [putTB_at s d t (by decide) (by decide)]; rfl
  have hH : tcpH (putTB s d t) = 20 + (tputL t.opts).length := by unfold tcpH; rw [h12]; omega
  have hO : tcpO (putTB s d t) = tputL t.opts := by
    unfold tcpO
    rw [hH, putTB_drop s d t (by decide)]
    have : (tcpB0 t).drop 20 = tputL t.opts ++ t.data := by unfold tcpB0; rw [List.append_assoc]; exact List.drop_left' (tcp20_len t)
    rw [this]
    exact List.take_left' (by omega)
  have hD : ((putTB s d t).drop (tcpH (putTB s d t))).take ((putTB s d t).length - tcpH (putTB s d t)) = t.data := by
    rw [hH, putTB_drop s d t (by omega), hlen]
    have : (tcpB0 t).drop (20 + (tputL t.opts).length) = t.data := by unfold tcpB0; exact List.drop_left' (by rw [List.length_append, tcp20_len])
    rw [this]
    exact List.take_of_length_le (by omega)
  have hto := topt_back (tput_zero hz.2.1)
  have hsum := tcp_sum hs ht hb hf hz.2.2
  have hE : tcpE s d (putTB s d t) = 0 := by
    unfold tcpE
    rw [if_neg (by omega), if_neg (by omega), if_neg (by omega), if_neg (by omega), if_neg (by omega), hO]
    exact hto.1
  refine ⟨hlen, hH, hf, hsum, hE, ?_⟩
  unfold tcpT
  rw [if_pos hE]
  unfold tcpG
  rw [hD, hO, hto.2]
  have w := fun i (h1 : i ≠ 16) (h2 : i ≠ 17) => putTB_at s d t h1 h2
  simp only [numN, wd2, Nat.add_zero, Nat.reduceAdd]
  rw [w 0 (by decide) (by decide), w 1 (by decide) (by decide), w 2 (by decide) (by decide), w 3 (by decide) (by decide), w 4 (by decide) (by decide), w 5 (by decide) (by decide), w 6 (by decide) (by decide), w 7 (by decide) (by decide),
    w 8 (by decide) (by decide), w 9 (by decide) (by decide), w 10 (by decide) (by decide), w 11 (by decide) (by decide), w 13 (by decide) (by decide), w 14 (by decide) (by decide), w 15 (by decide) (by decide), w 18 (by decide) (by decide), w 19 (by decide) (by decide)]
  obtain ⟨g0, g1, g2, g3, g4, g5, g6, g7, g8, g9, g10, g11, g12, g13, g14, g15, g16, g17, g18, g19⟩ := g
  rw [g0, g1, g2, g3, g4, g5, g6, g7, g8, g9, g10, g11, g13, g14, g15, g18, g19]
  rw [show t.sport / 256 * 256 + t.sport % 256 = t.sport from by omega, show t.dport / 256 * 256 + t.dport % 256 = t.dport from by omega, show t.win / 256 * 256 + t.win % 256 = t.win from by omega, show t.urg / 256 * 256 + t.urg % 256 = t.urg from by omega]
  rw [show 256 * (256 * (256 * (256 * (0 : Int) + t.seq / 16777216) + t.seq / 65536 % 256) + t.seq / 256 % 256) + t.seq % 256 = t.seq from by omega,
    show 256 * (256 * (256 * (256 * (0 : Int) + t.ack / 16777216) + t.ack / 65536 % 256) + t.ack / 256 % 256) + t.ack % 256 = t.ack from by omega]
/-! ### read, then written -/
theorem fit_ver {s d : IP} (h : fitE s d = 0) : s.v = 4 ∨ s.v = 6 := by
  unfold fitE famB at h
  by_cases h0 : (decide (verI s = 0) || decide (verI d ≠ verI s)) = true
  · rw [if_pos h0] at h; omega
  · simp only [Bool.or_eq_true, decide_eq_true_eq, not_or] at h0
    have h1 := h0.1
    unfold verI at h1
    by_cases h6 : s.v = 6
    · exact .inr h6
    · rw [if_neg h6] at h1
      cases hf : fourB s with
      | true => simp only [fourB, Bool.and_eq_true, decide_eq_true_eq] at hf; exact .inl hf.1
      | false => rw [hf] at h1; simp at h1
theorem udp_facts {s d : IP} {b : List Int} (h : udpE s d b = 0) : b.length ≤ 65535 ∧ fitE s d = 0 ∧ 8 ≤ b.length ∧ 8 ≤ lenU b ∧ lenU b ≤ b.length ∧ (wd2 b 6 = 0 → s.v ≠ 6) ∧ (wd2 b 6 ≠ 0 → psum s d 17 (b.take (lenU b)) = 65535) := by
  unfold udpE at h
  by_cases h1 : 65535 < b.length
  · rw [if_pos h1] at h; omega
  rw [if_neg h1] at h
  by_cases h2 : fitE s d ≠ 0
  · rw [if_pos h2] at h; omega
  rw [if_neg h2] at h
  by_cases h3 : b.length < 8
  · rw [if_pos h3] at h; omega
  rw [if_neg h3] at h
  by_cases h4 : lenU b < 8 ∨ b.length < lenU b
  · rw [if_pos h4] at h; omega
  rw [if_neg h4] at h
  refine ⟨by omega, by omega, by omega, by omega, by omega, fun hw => ?_, fun hw => ?_⟩
  · rw [if_pos hw] at h
    intro h6; rw [if_pos h6] at h; omega
  · rw [if_neg hw] at h
    by_cases h5 : psum s d 17 (b.take (lenU b)) ≠ 65535
    · rw [if_pos h5] at h; omega
    · omega
theorem udp_chk {s d : IP} {b : List Int} (hb : byt b) (h : udpE s d b = 0) : putUE s d (udpG b) = 0 ∧ (udpG b).data.length = lenU b - 8 ∧ udpU s d b = udpG b := by
  obtain ⟨h1, h2, h3, h4, h5, h6, h7⟩ := udp_facts h
  have w0 := wd2_bd hb 0
  have w2 := wd2_bd hb 2
  have hv := fit_ver h2
  have hl : (udpG b).data.length = lenU b - 8 := by
    show ((b.drop 8).take (lenU b - 8)).length = _
    rw [List.length_take, List.length_drop]; omega
  refine ⟨?_, hl, by unfold udpU; rw [if_pos h]⟩
  unfold putUE
  rw [if_pos h2]
  have hbad : badU s.v (udpG b) = false := by
    unfold badU outN udpG
    simp only [Bool.or_eq_false_iff, Bool.and_eq_false_iff, decide_eq_false_iff_not]
    refine ⟨⟨⟨by omega, by omega⟩, by omega, by omega⟩, ?_⟩
    by_cases hw : wd2 b 6 = 0
    · exact .inr (h6 hw)
    · exact .inl hw
  unfold chkU
  rw [if_neg (by omega), if_neg (by rw [hbad]; simp), if_neg (by omega)]
theorem topt_ok {b : List Int} (hb : byt b) (h : tE b = 0) : tputOk (tL b) = true ∧ (tputL (tL b)).length ≤ b.length + (4 - b.length % 4) % 4 ∧ b.length ≤ 40 := by
  unfold tE at h
  by_cases h1 : 40 < b.length
  · rw [if_pos h1] at h; omega
  rw [if_neg h1] at h
  cases hg : optsG b with
  | none => unfold toptsG at h; rw [hg] at h; simp at h
  | some l =>
    have hr : l.all refO = true := by
      cases hx : l.all refO with
      | true => rfl
      | false => unfold toptsG at h; rw [hg] at h; simp only [Option.bind_some, hx] at h; simp at h
    have e : tL b = l := by unfold tL toptsG; rw [if_neg h1, hg]; simp only [Option.bind_some, hr, if_true]; rfl
    have eo : optL b = l := by unfold optL; rw [if_neg h1, hg]; rfl
    have ho := optL_ok hb (show optE b = 0 from by unfold optE; rw [if_neg h1, hg]; rfl)
    rw [eo] at ho
    have ht : tputOk l = true := by unfold tputOk; rw [hr, ho.1]; rfl
    rw [e, tputL_putL ht]
    exact ⟨ht, ho.2.1, ho.2.2⟩
theorem tcp_facts {s d : IP} {b : List Int} (h : tcpE s d b = 0) : b.length ≤ 65535 ∧ fitE s d = 0 ∧ 20 ≤ b.length ∧ 20 ≤ tcpH b ∧ tcpH b ≤ b.length ∧ psum s d 6 b = 65535 ∧ tE (tcpO b) = 0 := by
  unfold tcpE at h
  by_cases h1 : 65535 < b.length
  · rw [if_pos h1] at h; omega
  rw [if_neg h1] at h
  by_cases h2 : fitE s d ≠ 0
  · rw [if_pos h2] at h; omega
  rw [if_neg h2] at h
  by_cases h3 : b.length < 20
  · rw [if_pos h3] at h; omega
  rw [if_neg h3] at h
  by_cases h4 : tcpH b < 20 ∨ b.length < tcpH b
  · rw [if_pos h4] at h; omega
  rw [if_neg h4] at h
  by_cases h5 : psum s d 6 b ≠ 65535
  · rw [if_pos h5] at h; omega
  rw [if_neg h5] at h
  exact ⟨by omega, by omega, by omega, by omega, by omega, by omega, h⟩
theorem tcpO_len {b : List Int} (h : tcpH b ≤ b.length) : (tcpO b).length = tcpH b - 20 := by unfold tcpO; rw [List.length_take, List.length_drop]; omega
theorem byt_cut {b : List Int} (hb : byt b) (i m : Nat) : byt ((b.drop i).take m) := fun x hx => hb x (List.mem_of_mem_drop (List.mem_of_mem_take hx))
theorem tcp_chk {s d : IP} {b : List Int} (hb : byt b) (h : tcpE s d b = 0) : putTE s d (tcpG b) = 0 ∧ 20 + (tputL (tcpG b).opts).length + (tcpG b).data.length ≤ b.length ∧ tcpT s d b = tcpG b := by
  obtain ⟨h1, h2, h3, h4, h5, h6, h7⟩ := tcp_facts h
  have ho := topt_ok (b := tcpO b) (byt_cut hb 20 (tcpH b - 20)) h7
  have hol := tcpO_len h5
  have hH4 : tcpH b % 4 = 0 := by unfold tcpH; omega
  have hdl : (tcpG b).data.length = b.length - tcpH b := by
    show ((b.drop (tcpH b)).take (b.length - tcpH b)).length = _
    rw [List.length_take, List.length_drop]; omega
  have hpo : (tputL (tcpG b).opts).length ≤ tcpH b - 20 := by
    have h8 := ho.2.1
    show (tputL (tL (tcpO b))).length ≤ _
    rw [hol] at h8
    omega
  have w0 := wd2_bd hb 0
  have w2 := wd2_bd hb 2
  have w14 := wd2_bd hb 14
  have w18 := wd2_bd hb 18
  have n4 := numN_lt hb 4 4 (by decide)
  have n8 := numN_lt hb 8 4 (by decide)
  have f13 := byt_getD hb 13
  refine ⟨?_, by omega, by unfold tcpT; rw [if_pos h]⟩
  unfold putTE
  rw [if_pos h2]
  have hbad : badT (tcpG b) = false := by
    unfold badT outN tcpG
    simp only [Bool.or_eq_false_iff, decide_eq_false_iff_not]
    refine ⟨⟨⟨⟨⟨⟨⟨?_, ?_⟩, ?_, ?_⟩, ?_, ?_⟩, ?_, ?_⟩, ?_, ?_⟩, ?_, ?_⟩, ?_, ?_⟩ <;> omega
  have hte : tputE (tcpG b).opts = 0 := by
    show tputE (tL (tcpO b)) = 0
    unfold tputE; rw [if_pos ho.1]
  unfold chkT
  rw [if_neg (by rw [hbad]; simp), if_neg (by omega), if_neg (by omega)]
end Go.Proofs.YtkahmepenjhcpaaDoor.W

/- The walks of L4UdpBack and L4TcpBack. No statement of the seat is proved here. -/
namespace Go.Proofs.YtkahmepenjhcpaaDoor.W
open Go
set_option linter.unusedSimpArgs false
set_option linter.unusedVariables false


theorem Ro.gfalse {P : Program} {R : Qp} {ds : List Deferred} {n : Nat} {l : Env} {k : List KI} {w : World} {ops : Array Oper} {os : List Oper} {d : Nat} {op : Op} {ty : TypeId} {ps : String} {af : Array Edge} {gu : Option (Nat × Bool)} {G : Gs}
    (v : Value) (hG : gd ops l gu = some G) (hT : ¬ allT G) (hn : Nat.blt d n = true) (h : Ro P R ds n ops ((d, G, v) :: l) os k w) :
    Ro P R ds n ops l ({ dst := some d, op := op, type := ty, pos := ps, after := af, guard := gu } :: os) k w := by
  intro a ha
  have hw : Region.wanted { dst := some d, op := op, type := ty, pos := ps, after := af, guard := gu } (yielded ops a.tmps) = false := by
    rw [gd_wanted ha (o := { dst := some d, op := op, type := ty, pos := ps, after := af, guard := gu }) hG]
    cases hb : allB G with
    | true => exact absurd ((allB_iff G).1 hb) hT
    | false => rfl
  simp only [wpList]
  rw [if_neg (by rw [hw]; simp)]
  have q := h _ (ha.put (Nat.le_of_ble_eq_true hn) G v)
  rw [gval_false hT] at q
  exact q
theorem wd2_zero {b : List Int} (h : byt b) (i : Nat) : wd2 b i = 0 ↔ b.getD i 0 = 0 ∧ b.getD (i + 1) 0 = 0 := by
  have h1 := byt_getD h i
  have h2 := byt_getD h (i + 1)
  unfold wd2
  constructor
  · intro h; omega
  · intro h; omega

end Go.Proofs.YtkahmepenjhcpaaDoor.W

/- Plain laws of layer 9: what Clamp leaves. No program walked here; no statement of the seat is proved here. -/
namespace Go.Proofs.YtkahmepenjhcpaaDoor.W
open Go
set_option linter.unusedVariables false
set_option linter.unusedSimpArgs false

theorem cl_len {m f : Int} {o : Opt} : (clampO m f o).data.length = o.data.length ∧ (clampO m f o).kind = o.kind := by
  unfold clampO
  split
  · rename_i h
    have h2 := told_len (clB_parts h).1
    exact ⟨by simp only [List.length_cons, List.length_nil]; omega, rfl⟩
  · exact ⟨rfl, rfl⟩
theorem cl_told {m f : Int} {o : Opt} : toldB (clampO m f o) = toldB o := by
  have h := cl_len (m := m) (f := f) (o := o)
  unfold toldB; rw [h.1, h.2]
theorem cl_toldN {m f : Int} {o : Opt} (hm : 0 ≤ m) (ho : byt o.data) : toldN (clampO m f o) = if clB m f o = true then m else toldN o := by
  by_cases h : clB m f o = true
  · rw [if_pos h]
    have h1 := clB_parts h
    have h2 := told_bd ho
    have h3 : toldB (clampO m f o) = true := by rw [cl_told]; exact h1.1
    unfold toldN
    rw [if_pos h3]
    unfold clampO
    rw [if_pos h]
    simp only [wd2, List.getD_cons_zero, List.getD_cons_succ]
    omega
  · rw [if_neg h]
    unfold clampO
    rw [if_neg h]
theorem mss_clamp {m f : Int} (hm : 0 ≤ m) : ∀ (l : List Opt), (∀ o ∈ l, byt o.data) → (mssF (l.map (clampO m f))).2 = (mssF l).2 ∧ (mssF (l.map (clampO m f))).1 = (if synN f ≠ 0 ∧ m < (mssF l).1 then m else (mssF l).1) ∧ 0 ≤ (mssF l).1
  | [], _ => by
    refine ⟨rfl, ?_, by decide⟩
    show (0 : Int) = _
    rw [if_neg]
    rfl
    simp only [mssF]; omega
  | o :: l, h => by
    have ih := mss_clamp (f := f) hm l (fun p hp => h p (by simp [hp]))
    have ho := h o (by simp)
    simp only [List.map_cons, mssF, cl_told]
    by_cases ht : toldB o = true
    · simp only [if_pos ht]
      refine ⟨trivial, ?_, (told_bd ho).1⟩
      rw [cl_toldN hm ho]
      unfold clB
      rw [ht]
      by_cases h1 : m < toldN o
      · by_cases h2 : synN f ≠ 0
        · rw [if_pos (by simp [h1, h2]), if_pos ⟨h2, h1⟩]
        · rw [if_neg (by simp [h2]), if_neg (by simp [h2])]
      · rw [if_neg (by simp [h1]), if_neg (by simp [h1])]
    · simp only [if_neg ht]; exact ih
theorem clB_cl {m f : Int} {o : Opt} (hm : 0 ≤ m) (ho : byt o.data) : clB m f (clampO m f o) = false := by
  unfold clB
  rw [cl_toldN hm ho, cl_told]
  cases h : clB m f o with
  | true => simp
  | false => rw [if_neg (by simp)]; exact h
theorem clamp_twice {m f : Int} (hm : 0 ≤ m) : ∀ (l : List Opt), (∀ o ∈ l, byt o.data) → (l.map (clampO m f)).map (clampO m f) = l.map (clampO m f)
  | [], _ => rfl
  | o :: l, h => by
    have ih := clamp_twice (f := f) hm l (fun p hp => h p (by simp [hp]))
    simp only [List.map_cons]
    rw [ih]
    congr 1
    rw [clampO, if_neg (by rw [clB_cl hm (h o (by simp))]; simp)]
theorem clM_idem (m : Int) : clM (clM m) = clM m := by unfold clM; (repeat' split) <;> omega
theorem clM_of {m : Int} (h : 0 ≤ m) : clM m = m := by unfold clM; rw [if_neg (by omega)]
theorem clM_neg {m : Int} (h : m < 0) : clM m = 0 := by unfold clM; rw [if_pos h]
theorem clampT_twice {t : Tcp} {m : Int} (h : ∀ o ∈ t.opts, byt o.data) : clampT (clampT t m) (clM m) = clampT t m := by
  unfold clampT
  simp only [clM_idem]
  rw [clamp_twice (clM_bd m) _ h]
theorem cl_refO {m f : Int} {o : Opt} : refO (clampO m f o) = refO o := by
  have h := cl_len (m := m) (f := f) (o := o)
  unfold refO; rw [h.1, h.2]
theorem cl_okO {m f : Int} {o : Opt} : okO (clampO m f o) = okO o := by
  have h := cl_len (m := m) (f := f) (o := o)
  unfold okO; rw [h.1, h.2]
theorem cl_all {m f : Int} (p : Opt → Bool) (hp : ∀ o, p (clampO m f o) = p o) : ∀ l : List Opt, (l.map (clampO m f)).all p = l.all p
  | [] => rfl
  | o :: l => by simp only [List.map_cons, List.all_cons, hp o, cl_all p hp l]
theorem cl_optsB {m f : Int} : ∀ l : List Opt, (optsB (l.map (clampO m f))).length = (optsB l).length
  | [] => rfl
  | o :: l => by
    have ih := cl_optsB (m := m) (f := f) l
    have h := cl_len (m := m) (f := f) (o := o)
    simp only [optsB, List.map_cons, List.flatten_cons, List.length_append] at ih ⊢
    rw [ih, optB_len, optB_len, h.1]
theorem cl_putOk {m f : Int} (l : List Opt) : putOk (l.map (clampO m f)) = putOk l := by
  unfold putOk
  rw [cl_all okO (fun _ => cl_okO), cl_optsB]
theorem cl_tputOk {m f : Int} (l : List Opt) : tputOk (l.map (clampO m f)) = tputOk l := by
  unfold tputOk
  rw [cl_all refO (fun _ => cl_refO), cl_putOk]
theorem cl_tputL {m f : Int} (l : List Opt) : (tputL (l.map (clampO m f))).length = (tputL l).length := by
  unfold tputL
  rw [cl_tputOk]
  split
  · simp only [pad4, List.length_append, List.length_replicate, cl_optsB]
  · rfl
theorem chk_clamp (t : Tcp) (m : Int) : chkT (clampT t m) = chkT t := by
  unfold chkT
  have e1 : badT (clampT t m) = badT t := rfl
  have e2 : tputE (clampT t m).opts = tputE t.opts := by show tputE (t.opts.map _) = _; unfold tputE; rw [cl_tputOk]
  have e3 : (tputL (clampT t m).opts).length = (tputL t.opts).length := cl_tputL _
  rw [e1, e2, e3]
  rfl
end Go.Proofs.YtkahmepenjhcpaaDoor.W

/- The walk of L4Clamped. No statement of the seat is proved here. -/
namespace Go.Proofs.YtkahmepenjhcpaaDoor.W
open Go
set_option linter.unusedSimpArgs false
set_option linter.unusedVariables false

set_option maxHeartbeats 1000000 in
theorem c24 (t : Tcp) (m : Int) (o dv : Value) (w : World) (hO : OS [] w o t.opts) (hd : BS [] w dv t.data) (hol : t.opts.length ≤ 1099511627776) (hoo : ∀ p ∈ t.opts, p.data.length ≤ 1099511627776) (hdl : t.data.length ≤ 1099511627776) (hg1 : GV [] w 1 163 (W16.map i64)) (hg2 : GV [] w 2 166 (W10.map i64)) (hg3 : GV [] w 3 183 (lenT.map u64)) :
    CallsD Tryd.prog 24 #[.agg (encTcp t o dv).toArray, .int .i64 m] w (.bool true) := by
  refine enter Tryd.func24 rfl Tryd.ntmps24 (l := [(0, [], _), (1, [], _)]) rfl rfl ?_
  have S := St.refl [] w
  obtain ⟨ds, hOS, hOB⟩ := id hO
  obtain ⟨hm2, hm1, hm0⟩ := mss_clamp (f := t.flags) (clM_bd m) t.opts hO.byt
  replace hm1 : (mssF (clampT t m).opts).1 = (if synN t.flags ≠ 0 ∧ clM m < (mssF t.opts).1 then clM m else (mssF t.opts).1) := hm1
  replace hm2 : (mssF (clampT t m).opts).2 = (mssF t.opts).2 := hm2
  have hlm : (clampT t m).opts.length = t.opts.length := by simp [clampT]
  refine Run.seq ?_
  refine Run.region ?_
  refine boxA rfl S rfl ?_
  intro b2 w1 hb2 S B_
  refine asg1 rfl rfl ?_
  refine Ro.nil ?_
  refine Nrm.code ?_
  refine Run.seq ?_
  refine Run.region ?_
  refine calg (vs := []) rfl trivial k54 rfl (fun hG => c54 _ (hg1.now S) (hg2.now S) (hg3.now S)) ?_
  intro w2 B_; have S := S.call B_
  refine asg1 rfl rfl ?_
  refine Ro.nil ?_
  refine Nrm.code ?_
  refine Run.seq ?_
  refine Run.region ?_
  refine ldW rfl T82 S (i := 0) rfl rfl rfl rfl rfl ?_
  refine mv1 rfl rfl ?_
  have S0 := S
  refine call (vs := [_, _]) ⟨⟨_, _, rfl, rfl⟩, ⟨_, _, rfl, rfl⟩, trivial⟩ k69 rfl (c69 t m _ _ _ (hO.now S) (hd.now S) (by exact hol) (by exact hoo)) ?_
  rintro _ w3 ⟨o6, rfl, hFO⟩
  have S := S.call hFO.1
  have ho6 := hFO.2 _ S0.lt
  obtain ⟨N1, hN1, S_1⟩ := S.reb
  have hO := hO.st S; rw [hN1] at hO
  have hOS := hOS.st S; rw [hN1] at hOS
  have hOB := hOB.st S; rw [hN1] at hOB
  have hd := hd.st S; rw [hN1] at hd
  have hg1 := hg1.st S; rw [hN1] at hg1
  have hg2 := hg2.st S; rw [hN1] at hg2
  have hg3 := hg3.st S; rw [hN1] at hg3
  rw [hN1] at ho6
  have SS := S
  have S := S_1
  obtain ⟨ds_o6, ho6S, ho6B⟩ := id ho6
  refine alc T82 S rfl ?_
  intro b6 w4 hb6 S B_
  refine stW rfl rfl T82 rfl rfl (one_cons rfl (one_cons rfl (one_cons rfl (one_cons rfl (one_cons rfl (one_cons rfl (one_cons rfl (one_cons ho6.one (one_cons hd.one one_nil))))))))) S (i := 0) rfl rfl ?_
  intro w5 S
  refine Ro.nil ?_
  refine Nrm.code ?_
  refine Run.seq ?_
  refine Run.region ?_
  refine ldW rfl T82 S (i := 0) rfl rfl rfl rfl rfl ?_
  refine calg (vs := [_]) rfl ⟨⟨_, _, rfl, rfl⟩, trivial⟩ k70 rfl (fun hG => c70 (clampT t m) _ _ _ (ho6.now S) (hd.now S) (by rw [show (clampT t m).opts.length = t.opts.length from by simp [clampT]]; exact hol) (by intro p hp; obtain ⟨q, hq, rfl⟩ := List.mem_map.1 hp; have := hoo q hq; have h2 := cl_len (m := clM m) (f := t.flags) (o := q); omega) hdl) ?_
  intro w6 B_; have S := S.call B_
  refine mv1 rfl rfl ?_
  refine extr1 rfl rfl rfl ?_
  refine extr1 rfl rfl rfl ?_
  refine asg1 rfl rfl ?_
  refine asg1 rfl rfl ?_
  refine Ro.nil ?_
  refine Nrm.code ?_
  refine Run.seq ?_
  refine Run.region ?_
  refine ldW rfl T82 S (i := 1) rfl rfl rfl rfl rfl ?_
  refine calg (vs := [_]) rfl ⟨⟨_, _, rfl, rfl⟩, trivial⟩ k70 rfl (fun hG => c70 t _ _ _ (hO.now S) (hd.now S) hol hoo hdl) ?_
  intro w7 B_; have S := S.call B_
  refine mv1 rfl rfl ?_
  refine extr1 rfl rfl rfl ?_
  refine extr1 rfl rfl rfl ?_
  refine asg1 rfl rfl ?_
  refine asg1 rfl rfl ?_
  refine Ro.nil ?_
  refine Nrm.code ?_
  refine Run.seq ?_
  refine Run.seq ?_
  refine Run.region ?_
  refine mv1 rfl rfl ?_
  refine nt1 rfl rfl ?_
  refine mv1 rfl rfl ?_
  refine mv rfl rfl rfl rfl ?_
  refine mv rfl rfl rfl rfl ?_
  refine neB rfl rfl Tryd.underlying4 rfl rfl rfl rfl ?_
  refine pkO rfl rfl rfl rfl rfl rfl ?_
  refine mv1 rfl rfl ?_
  refine fld (o' := 7) rfl fo82_7 rfl rfl rfl rfl ?_
  refine ld1 rfl T25 S (i := 0) rfl rfl rfl rfl rfl ?_
  refine lenS rfl ho6S Tryd.underlying25 rfl rfl rfl ?_
  refine fld (o' := 7) rfl fo82_7 rfl rfl rfl rfl ?_
  refine ld1 rfl T25 S (i := 1) rfl rfl rfl rfl rfl ?_
  refine lenS rfl hOS Tryd.underlying25 rfl rfl rfl ?_
  refine neq rfl rfl rfl rfl rfl rfl ?_
  refine pkO rfl rfl rfl rfl rfl rfl ?_
  refine mv1 rfl rfl ?_
  refine fld (o' := 4) rfl fo82_4 rfl rfl rfl rfl ?_
  refine ld1 rfl T3 S (i := 0) rfl rfl rfl rfl rfl ?_
  refine fld (o' := 4) rfl fo82_4 rfl rfl rfl rfl ?_
  refine ld1 rfl T3 S (i := 1) rfl rfl rfl rfl rfl ?_
  refine neq rfl rfl rfl rfl rfl rfl ?_
  refine pkO rfl rfl rfl rfl rfl rfl ?_
  refine Ro.nil ?_
  refine Nrm.code ?_
  refine Run.cond rfl (fun hc5 => ?_) (fun hc5 => ?_)
  ·
    try simp only [Bool.or_eq_true, Bool.and_eq_true, Bool.or_eq_false_iff, Bool.and_eq_false_iff, decide_eq_true_eq, decide_eq_false_iff_not, Bool.not_eq_true', Bool.not_eq_false', Bool.not_eq_true, Bool.not_eq_false] at hc5
    exfalso; (rw [hm2, hlm] at hc5; simp [clampT] at hc5)
  ·
    try simp only [Bool.or_eq_true, Bool.and_eq_true, Bool.or_eq_false_iff, Bool.and_eq_false_iff, decide_eq_true_eq, decide_eq_false_iff_not, Bool.not_eq_true', Bool.not_eq_false', Bool.not_eq_true, Bool.not_eq_false] at hc5
    refine Run.skip ?_
    refine Nrm.code ?_
    refine Run.seq ?_
    refine Run.seq ?_
    refine Run.region ?_
    refine fld (o' := 4) rfl fo82_4 rfl rfl rfl rfl ?_
    refine ld1 rfl T3 S (i := 1) rfl rfl rfl rfl rfl ?_
    refine band rfl rfl rfl rfl rfl rfl (fun _ => rfl) ?_
    refine eql1 rfl rfl rfl ?_
    refine mv1 rfl rfl ?_
    refine mv rfl rfl rfl rfl ?_
    refine mv rfl rfl rfl rfl ?_
    refine leq rfl rfl rfl rfl rfl rfl ?_
    refine pkO rfl rfl rfl rfl rfl rfl ?_
    refine Ro.nil ?_
    refine Nrm.code ?_
    refine Run.cond rfl (fun hc7 => ?_) (fun hc7 => ?_)
    ·
      try simp only [Bool.or_eq_true, Bool.and_eq_true, Bool.or_eq_false_iff, Bool.and_eq_false_iff, decide_eq_true_eq, decide_eq_false_iff_not, Bool.not_eq_true', Bool.not_eq_false', Bool.not_eq_true, Bool.not_eq_false] at hc7
      replace hc7 : synN t.flags = 0 ∨ (mssF t.opts).1 ≤ m := hc7
      refine Run.seq ?_
      refine Run.region ?_
      refine mv1 rfl rfl ?_
      refine mv1 rfl rfl ?_
      refine eql1 rfl rfl rfl ?_
      refine asg1 rfl rfl ?_
      refine Ro.nil ?_
      refine Nrm.code ?_
      refine Run.ret ?_
      refine Rt.one rfl rfl ?_
      have he : (mssF (clampT t m).opts).1 = (mssF t.opts).1 := by
        rw [hm1]
        rcases hc7 with h | h
        · rw [if_neg (by intro hh; exact hh.1 h)]
        · rw [if_neg (by intro hh; have := hh.2; unfold clM at this; split at this <;> omega)]
      exact ⟨by rw [he]; simp, (SS.tran hN1 S).bl⟩
    ·
      try simp only [Bool.or_eq_true, Bool.and_eq_true, Bool.or_eq_false_iff, Bool.and_eq_false_iff, decide_eq_true_eq, decide_eq_false_iff_not, Bool.not_eq_true', Bool.not_eq_false', Bool.not_eq_true, Bool.not_eq_false] at hc7
      replace hc7 : synN t.flags ≠ 0 ∧ ¬ (mssF t.opts).1 ≤ m := hc7
      refine Run.skip ?_
      refine Nrm.code ?_
      refine Run.seq ?_
      refine Run.seq ?_
      refine Run.region ?_
      refine mv1 rfl rfl ?_
      refine lss1 rfl rfl rfl ?_
      refine Ro.nil ?_
      refine Nrm.code ?_
      refine Run.cond rfl (fun hc9 => ?_) (fun hc9 => ?_)
      ·
        try simp only [Bool.or_eq_true, Bool.and_eq_true, Bool.or_eq_false_iff, Bool.and_eq_false_iff, decide_eq_true_eq, decide_eq_false_iff_not, Bool.not_eq_true', Bool.not_eq_false', Bool.not_eq_true, Bool.not_eq_false] at hc9
        refine Run.region ?_
        refine asg1 rfl rfl ?_
        refine Ro.nil ?_
        refine Nrm.code ?_
        refine Run.seq ?_
        refine Run.region ?_
        refine ldW rfl T82 S (i := 0) rfl rfl rfl rfl rfl ?_
        refine mv1 rfl rfl ?_
        have S0 := S
        refine call (vs := [_, _]) ⟨⟨_, _, rfl, rfl⟩, ⟨_, _, rfl, rfl⟩, trivial⟩ k69 rfl (c69 (clampT t m) 0 _ _ _ (ho6.now S) (hd.now S) (by rw [show (clampT t m).opts.length = t.opts.length from by simp [clampT]]; exact hol) (by intro p hp; obtain ⟨q, hq, rfl⟩ := List.mem_map.1 hp; have := hoo q hq; have h2 := cl_len (m := clM m) (f := t.flags) (o := q); omega)) ?_
        rintro _ w8 ⟨o11, rfl, hFO⟩
        have S := S.call hFO.1
        have ho11 := hFO.2 _ S0.lt
        obtain ⟨N2, hN2, S_2⟩ := S.reb
        have hO := hO.st S; rw [hN2] at hO
        have hOS := hOS.st S; rw [hN2] at hOS
        have hOB := hOB.st S; rw [hN2] at hOB
        have hd := hd.st S; rw [hN2] at hd
        have hg1 := hg1.st S; rw [hN2] at hg1
        have hg2 := hg2.st S; rw [hN2] at hg2
        have hg3 := hg3.st S; rw [hN2] at hg3
        have ho6 := ho6.st S; rw [hN2] at ho6
        rw [hN2] at ho11
        have SS := SS.tran hN1 S
        have S := S_2
        obtain ⟨ds_o11, ho11S, ho11B⟩ := id ho11
        refine alc T82 S rfl ?_
        intro b11 w9 hb11 S B_
        refine stW rfl rfl T82 rfl rfl (one_cons rfl (one_cons rfl (one_cons rfl (one_cons rfl (one_cons rfl (one_cons rfl (one_cons rfl (one_cons ho11.one (one_cons hd.one one_nil))))))))) S (i := 0) rfl rfl ?_
        intro w10 S
        refine Ro.nil ?_
        refine Nrm.code ?_
        refine Run.seq ?_
        refine Run.draw (by kernel_rfl) (by kernel_rfl) S ?_
        refine qmv rfl rfl rfl rfl ?_
        refine qmv rfl rfl rfl rfl ?_
        refine qeql rfl rfl rfl rfl rfl rfl ?_
        refine qmv rfl rfl rfl rfl ?_
        refine qldW rfl T82 (fun _ S => S) (i := 0) rfl rfl rfl rfl rfl ?_
        refine qldW rfl T82 (fun _ S => S) (i := 1) rfl rfl rfl rfl rfl ?_
        refine qcal (vs := [_, _]) rfl ⟨⟨_, _, rfl, rfl⟩, ⟨_, _, rfl, rfl⟩, trivial⟩ k63 rfl (fun _ _ S B => S.call B) (fun hG w_ S => c63 (clampT (clampT t m) 0) (clampT t m) _ _ _ _ _ (ho11.now S) (hd.now S) (ho6.now S) (hd.now S) (by rw [show (clampT (clampT t m) 0).opts.length = t.opts.length from by simp [clampT]]; exact hol)) ?_
        refine qpkA rfl rfl rfl rfl rfl rfl ?_
        refine qmv rfl rfl rfl rfl ?_
        refine qldW rfl T82 (fun _ S => S) (i := 1) rfl rfl rfl rfl rfl ?_
        refine qcal (vs := [_]) rfl ⟨⟨_, _, rfl, rfl⟩, trivial⟩ k64 rfl (fun _ _ S B => S.call B) (fun hG w_ S => c64 (clampT t m) _ _ _ (ho6.now S) (hd.now S) (by rw [show (clampT t m).opts.length = t.opts.length from by simp [clampT]]; exact hol) (by intro p hp; obtain ⟨q, hq, rfl⟩ := List.mem_map.1 hp; have := hoo q hq; have h2 := cl_len (m := clM m) (f := t.flags) (o := q); omega) (by first | exact hdl | (show t.data.length ≤ _; exact hdl)) (hg3.now S)) ?_
        refine qcal (vs := [_]) rfl ⟨⟨_, _, rfl, rfl⟩, trivial⟩ k56 rfl (fun _ _ S B => S.call B) (fun hG w_ S => c56 (chkT (clampT t m)) _ (by have := chkT_bd (clampT t m); omega)) ?_
        refine qldW rfl T82 (fun _ S => S) (i := 2) rfl rfl rfl rfl rfl ?_
        refine qcal (vs := [_]) rfl ⟨⟨_, _, rfl, rfl⟩, trivial⟩ k64 rfl (fun _ _ S B => S.call B) (fun hG w_ S => c64 t _ _ _ (hO.now S) (hd.now S) hol hoo (by first | exact hdl | (show t.data.length ≤ _; exact hdl)) (hg3.now S)) ?_
        refine qcal (vs := [_]) rfl ⟨⟨_, _, rfl, rfl⟩, trivial⟩ k56 rfl (fun _ _ S B => S.call B) (fun hG w_ S => c56 (chkT t) _ (by have := chkT_bd t; omega)) ?_
        refine qeql rfl rfl rfl rfl rfl rfl ?_
        refine qpkA rfl rfl rfl rfl rfl rfl ?_
        refine qasg rfl rfl rfl rfl ?_
        refine Qo.nil (fun w11 S => ?_)
        refine Nrm.code ?_
        refine Run.ret ?_
        refine Rt.one rfl rfl ?_
        have hM : clM m = 0 := by unfold clM; rw [if_pos (by omega)]
        have he : (mssF (clampT t m).opts).1 = 0 := by
          rw [hm1, hM]
          by_cases hh : 0 < (mssF t.opts).1
          · rw [if_pos ⟨hc7.1, hh⟩]
          · rw [if_neg (fun h => hh h.2)]; omega
        have hcc : clampT (clampT t m) 0 = clampT t m := by have := clampT_twice (t := t) (m := m) hO.byt; rwa [hM] at this
        exact ⟨by rw [he, hcc]; simp [sameT_refl, chk_clamp], (SS.tran hN2 S).bl⟩
      ·
        try simp only [Bool.or_eq_true, Bool.and_eq_true, Bool.or_eq_false_iff, Bool.and_eq_false_iff, decide_eq_true_eq, decide_eq_false_iff_not, Bool.not_eq_true', Bool.not_eq_false', Bool.not_eq_true, Bool.not_eq_false] at hc9
        refine Run.skip ?_
        refine Nrm.code ?_
        refine Run.seq ?_
        refine Run.region ?_
        refine ldW rfl T82 S (i := 0) rfl rfl rfl rfl rfl ?_
        refine mv1 rfl rfl ?_
        have S0 := S
        refine call (vs := [_, _]) ⟨⟨_, _, rfl, rfl⟩, ⟨_, _, rfl, rfl⟩, trivial⟩ k69 rfl (c69 (clampT t m) m _ _ _ (ho6.now S) (hd.now S) (by rw [show (clampT t m).opts.length = t.opts.length from by simp [clampT]]; exact hol) (by intro p hp; obtain ⟨q, hq, rfl⟩ := List.mem_map.1 hp; have := hoo q hq; have h2 := cl_len (m := clM m) (f := t.flags) (o := q); omega)) ?_
        rintro _ w8 ⟨o11, rfl, hFO⟩
        have S := S.call hFO.1
        have ho11 := hFO.2 _ S0.lt
        obtain ⟨N3, hN3, S_3⟩ := S.reb
        have hO := hO.st S; rw [hN3] at hO
        have hOS := hOS.st S; rw [hN3] at hOS
        have hOB := hOB.st S; rw [hN3] at hOB
        have hd := hd.st S; rw [hN3] at hd
        have hg1 := hg1.st S; rw [hN3] at hg1
        have hg2 := hg2.st S; rw [hN3] at hg2
        have hg3 := hg3.st S; rw [hN3] at hg3
        have ho6 := ho6.st S; rw [hN3] at ho6
        rw [hN3] at ho11
        have SS := SS.tran hN1 S
        have S := S_3
        obtain ⟨ds_o11, ho11S, ho11B⟩ := id ho11
        refine alc T82 S rfl ?_
        intro b11 w9 hb11 S B_
        refine stW rfl rfl T82 rfl rfl (one_cons rfl (one_cons rfl (one_cons rfl (one_cons rfl (one_cons rfl (one_cons rfl (one_cons rfl (one_cons ho11.one (one_cons hd.one one_nil))))))))) S (i := 0) rfl rfl ?_
        intro w10 S
        refine Ro.nil ?_
        refine Nrm.code ?_
        refine Run.seq ?_
        refine Run.draw (by kernel_rfl) (by kernel_rfl) S ?_
        refine qmv rfl rfl rfl rfl ?_
        refine qmv rfl rfl rfl rfl ?_
        refine qeql rfl rfl rfl rfl rfl rfl ?_
        refine qmv rfl rfl rfl rfl ?_
        refine qldW rfl T82 (fun _ S => S) (i := 0) rfl rfl rfl rfl rfl ?_
        refine qldW rfl T82 (fun _ S => S) (i := 1) rfl rfl rfl rfl rfl ?_
        refine qcal (vs := [_, _]) rfl ⟨⟨_, _, rfl, rfl⟩, ⟨_, _, rfl, rfl⟩, trivial⟩ k63 rfl (fun _ _ S B => S.call B) (fun hG w_ S => c63 (clampT (clampT t m) m) (clampT t m) _ _ _ _ _ (ho11.now S) (hd.now S) (ho6.now S) (hd.now S) (by rw [show (clampT (clampT t m) m).opts.length = t.opts.length from by simp [clampT]]; exact hol)) ?_
        refine qpkA rfl rfl rfl rfl rfl rfl ?_
        refine qmv rfl rfl rfl rfl ?_
        refine qldW rfl T82 (fun _ S => S) (i := 1) rfl rfl rfl rfl rfl ?_
        refine qcal (vs := [_]) rfl ⟨⟨_, _, rfl, rfl⟩, trivial⟩ k64 rfl (fun _ _ S B => S.call B) (fun hG w_ S => c64 (clampT t m) _ _ _ (ho6.now S) (hd.now S) (by rw [show (clampT t m).opts.length = t.opts.length from by simp [clampT]]; exact hol) (by intro p hp; obtain ⟨q, hq, rfl⟩ := List.mem_map.1 hp; have := hoo q hq; have h2 := cl_len (m := clM m) (f := t.flags) (o := q); omega) (by first | exact hdl | (show t.data.length ≤ _; exact hdl)) (hg3.now S)) ?_
        refine qcal (vs := [_]) rfl ⟨⟨_, _, rfl, rfl⟩, trivial⟩ k56 rfl (fun _ _ S B => S.call B) (fun hG w_ S => c56 (chkT (clampT t m)) _ (by have := chkT_bd (clampT t m); omega)) ?_
        refine qldW rfl T82 (fun _ S => S) (i := 2) rfl rfl rfl rfl rfl ?_
        refine qcal (vs := [_]) rfl ⟨⟨_, _, rfl, rfl⟩, trivial⟩ k64 rfl (fun _ _ S B => S.call B) (fun hG w_ S => c64 t _ _ _ (hO.now S) (hd.now S) hol hoo (by first | exact hdl | (show t.data.length ≤ _; exact hdl)) (hg3.now S)) ?_
        refine qcal (vs := [_]) rfl ⟨⟨_, _, rfl, rfl⟩, trivial⟩ k56 rfl (fun _ _ S B => S.call B) (fun hG w_ S => c56 (chkT t) _ (by have := chkT_bd t; omega)) ?_
        refine qeql rfl rfl rfl rfl rfl rfl ?_
        refine qpkA rfl rfl rfl rfl rfl rfl ?_
        refine qasg rfl rfl rfl rfl ?_
        refine Qo.nil (fun w11 S => ?_)
        refine Nrm.code ?_
        refine Run.ret ?_
        refine Rt.one rfl rfl ?_
        have hM : clM m = m := by unfold clM; rw [if_neg (by omega)]
        have he : (mssF (clampT t m).opts).1 = m := by
          rw [hm1, hM]
          by_cases hh : m < (mssF t.opts).1
          · rw [if_pos ⟨hc7.1, hh⟩]
          · rw [if_neg (fun h => hh h.2)]; omega
        have hcc : clampT (clampT t m) m = clampT t m := by have := clampT_twice (t := t) (m := m) hO.byt; rwa [hM] at this
        exact ⟨by rw [he, hcc]; simp [sameT_refl, chk_clamp], (SS.tran hN3 S).bl⟩

end Go.Proofs.YtkahmepenjhcpaaDoor.W

/- Plain laws of layer 9: one bit turned. No program walked here; no statement of the seat is proved here. -/
namespace Go.Proofs.YtkahmepenjhcpaaDoor.W
open Go
set_option linter.unusedVariables false
set_option linter.unusedSimpArgs false

def bitM (r : Int) : Int := (128 : Int).fdiv (2 ^ (min r.toNat IntKind.u8.bits))
def xor8 (a r : Int) : Int := IntKind.u8.wrap (((a % 2 ^ IntKind.u8.bits).toNat ^^^ (bitM r % 2 ^ IntKind.u8.bits).toNat : Nat) : Int)
def turnB (b : List Int) (k : Int) : List Int := b.set (k / 8).toNat (xor8 (b.getD (k / 8).toNat 0) (k % 8))
theorem xor8_fin : ∀ a : Fin 256, ∀ r : Fin 8, 0 ≤ xor8 a.val r.val ∧ xor8 a.val r.val < 256 ∧ xor8 a.val r.val ≠ a.val ∧ xor8 a.val r.val - a.val ≤ 128 ∧ -128 ≤ xor8 a.val r.val - a.val := by decide +kernel
theorem xor8_bd {a r : Int} (ha : 0 ≤ a ∧ a < 256) (hr : 0 ≤ r ∧ r < 8) : 0 ≤ xor8 a r ∧ xor8 a r < 256 ∧ xor8 a r ≠ a ∧ xor8 a r - a ≤ 128 ∧ -128 ≤ xor8 a r - a := by
  obtain ⟨x, rfl⟩ := Int.eq_ofNat_of_zero_le ha.1
  obtain ⟨y, rfl⟩ := Int.eq_ofNat_of_zero_le hr.1
  exact xor8_fin ⟨x, by omega⟩ ⟨y, by omega⟩
theorem turnB_len (b : List Int) (k : Int) : (turnB b k).length = b.length := by unfold turnB; rw [List.length_set]
theorem turnB_byt {b : List Int} {k : Int} (hb : byt b) : byt (turnB b k) := by
  have := xor8_bd (byt_getD hb (k / 8).toNat) (show 0 ≤ k % 8 ∧ k % 8 < 8 by omega)
  exact byt_set hb _ (by omega)
theorem turnB_at {b : List Int} {k : Int} (h : (k / 8).toNat < b.length) (i : Nat) : (turnB b k).getD i 0 = if i = (k / 8).toNat then xor8 (b.getD i 0) (k % 8) else b.getD i 0 := by
  unfold turnB
  by_cases e : i = (k / 8).toNat
  · subst e; rw [if_pos rfl, getD_set_eq h]
  · rw [if_neg e, getD_set_ne (Ne.symm e)]
theorem wsum_set1 : ∀ (L : List Int) (h : Bool) (i : Nat) (x : Int), i < L.length → ∃ c : Int, (c = 1 ∨ c = 256) ∧ wsum h (L.set i x) = wsum h L + (x - L.getD i 0) * c
  | [], _, i, _, h => by simp at h
  | a :: r, true, 0, x, _ => ⟨256, .inr rfl, by simp only [List.set_cons_zero, wsum, List.getD_cons_zero]; omega⟩
  | a :: r, false, 0, x, _ => ⟨1, .inl rfl, by simp only [List.set_cons_zero, wsum, List.getD_cons_zero]; omega⟩
  | a :: r, true, i + 1, x, h => by
    obtain ⟨c, h1, h2⟩ := wsum_set1 r false i x (by simpa using h)
    exact ⟨c, h1, by simp only [List.set_cons_succ, wsum, List.getD_cons_succ]; rw [h2]; omega⟩
  | a :: r, false, i + 1, x, h => by
    obtain ⟨c, h1, h2⟩ := wsum_set1 r true i x (by simpa using h)
    exact ⟨c, h1, by simp only [List.set_cons_succ, wsum, List.getD_cons_succ]; rw [h2]; omega⟩
theorem foldS_two {a e : Int} (ha : foldS a = 65535) (h0 : e ≠ 0) (h1 : e ≤ 65534) (h2 : -65534 ≤ e) : foldS (a + e) ≠ 65535 := by
  unfold foldS at *
  split at ha
  · omega
  · split <;> omega
theorem wsum_turn {b : List Int} {k : Int} (hb : byt b) (hk : (k / 8).toNat < b.length) : ∃ e : Int, e ≠ 0 ∧ e ≤ 32768 ∧ -32768 ≤ e ∧ wsum true (turnB b k) = wsum true b + e := by
  have hx := xor8_bd (byt_getD hb (k / 8).toNat) (show 0 ≤ k % 8 ∧ k % 8 < 8 by omega)
  obtain ⟨c, hc, h⟩ := wsum_set1 b true (k / 8).toNat (xor8 (b.getD (k / 8).toNat 0) (k % 8)) hk
  refine ⟨_, ?_, ?_, ?_, h⟩ <;> rcases hc with rfl | rfl <;> omega
theorem psum_turn {s d : IP} {p : Int} {b : List Int} {k : Int} (hb : byt b) (hk : (k / 8).toNat < b.length) (h : psum s d p b = 65535) : psum s d p (turnB b k) ≠ 65535 := by
  obtain ⟨e, h0, h1, h2, he⟩ := wsum_turn hb hk
  rw [psum_pw] at h ⊢
  have e2 : pw s d p (turnB b k) = pw s d p b + e := by unfold pw; rw [turnB_len, he]; omega
  rw [e2]
  exact foldS_two h h0 (by omega) (by omega)
theorem tcp_turn {s d : IP} {b : List Int} {k : Int} (hb : byt b) (hk : (k / 8).toNat < b.length) (h : psum s d 6 b = 65535) : tcpE s d (turnB b k) ≠ 0 := fun he =>
  psum_turn hb hk h (tcp_facts he).2.2.2.2.2.1
theorem wd2_turn {b : List Int} {k : Int} (hb : byt b) (hk : (k / 8).toNat < b.length) {i : Nat} (h : i ≠ (k / 8).toNat) (h' : i + 1 ≠ (k / 8).toNat) : wd2 (turnB b k) i = wd2 b i := by
  unfold wd2; rw [turnB_at hk, turnB_at hk, if_neg h, if_neg h']
theorem wd2_turn' {b : List Int} {k : Int} (hb : byt b) (hk : (k / 8).toNat < b.length) {i : Nat} (h : i = (k / 8).toNat ∨ i + 1 = (k / 8).toNat) : wd2 (turnB b k) i ≠ wd2 b i := by
  have hx := xor8_bd (byt_getD hb (k / 8).toNat) (show 0 ≤ k % 8 ∧ k % 8 < 8 by omega)
  unfold wd2
  rw [turnB_at hk, turnB_at hk]
  rcases h with h | h
  · rw [if_pos h, if_neg (by omega), h]; omega
  · rw [if_neg (by omega), if_pos h, h]; omega
theorem udp_turn {s d : IP} {u : Udp} {k : Int} (hs : s.ok) (ht : d.ok) (hd : byt u.data) (he : putUE s d u = 0) (hn : u.nosum = false) (h0 : 0 ≤ k) (hk : k < 8 * (putUL s d u).length) :
    udpE s d (turnB (putUL s d u) k) = 0 → sameU u (udpU s d (turnB (putUL s d u) k)) = false ∧ ((32 ≤ k ∧ k < 48) ∨ ((turnB (putUL s d u) k).getD 6 0 = 0 ∧ (turnB (putUL s d u) k).getD 7 0 = 0)) := by
  intro hE
  obtain ⟨hlen, hLU, h67, hC0, hC1, hfit, hsum, _, _⟩ := udp_back hs ht hd he
  have hb : byt (putUL s d u) := putUL_byt hs ht hd
  have hkl : (k / 8).toNat < (putUL s d u).length := by omega
  obtain ⟨f1, f2, f3, f4, f5, f6, f7⟩ := udp_facts hE
  have hb' : byt (turnB (putUL s d u) k) := turnB_byt hb
  have hU : udpU s d (turnB (putUL s d u) k) = udpG (turnB (putUL s d u) k) := by unfold udpU; rw [if_pos hE]
  rw [turnB_len] at f1 f3 f5
  have w4 := wd2_bd hb 4
  have w4' := wd2_bd hb' 4
  by_cases hr : 32 ≤ k ∧ k < 48
  · refine ⟨?_, .inl hr⟩
    have hne := wd2_turn' hb hkl (i := 4) (by omega)
    have hl : lenU (turnB (putUL s d u) k) < 8 + u.data.length := by unfold lenU at *; omega
    rw [hU]
    unfold sameU
    have hdl : (udpG (turnB (putUL s d u) k)).data.length ≠ u.data.length := by
      show ((_ : List Int).take _).length ≠ _
      rw [List.length_take]; omega
    have : ¬ u.data = (udpG (turnB (putUL s d u) k)).data := fun h => hdl (by rw [← h])
    rw [decide_eq_false this, Bool.and_false]
  · have hw4 : wd2 (turnB (putUL s d u) k) 4 = wd2 (putUL s d u) 4 := wd2_turn hb hkl (by omega) (by omega)
    have hl : lenU (turnB (putUL s d u) k) = 8 + u.data.length := by unfold lenU at *; rw [hw4]; exact hLU
    have hz : wd2 (turnB (putUL s d u) k) 6 = 0 := by
      by_cases hw : wd2 (turnB (putUL s d u) k) 6 = 0
      · exact hw
      · have h7 := f7 hw
        rw [hl, List.take_of_length_le (by rw [turnB_len]; omega)] at h7
        exact absurd h7 (psum_turn hb hkl (hsum hn))
    refine ⟨?_, .inr ?_⟩
    · rw [hU]
      unfold sameU udpG
      rw [hn, hz]
      simp
    · have h6 := byt_getD hb' 6
      have h7 := byt_getD hb' 7
      unfold wd2 at hz
      have e7 : (6 : Nat) + 1 = 7 := rfl
      rw [e7] at hz
      omega
theorem putUL_le (s d : IP) (u : Udp) : (putUL s d u).length ≤ 65535 := by
  unfold putUL
  split
  · rename_i h
    have := chkU_zero (putUE_zero h).2
    rw [putUB_len]; omega
  · simp
theorem putTL_le (s d : IP) (t : Tcp) : (putTL s d t).length ≤ 65535 := by
  unfold putTL
  split
  · rename_i h
    have := chkT_zero (putTE_zero h).2
    rw [putTB_len]; omega
  · simp
end Go.Proofs.YtkahmepenjhcpaaDoor.W

/- The walk of L4OneBit. No statement of the seat is proved here. -/
namespace Go.Proofs.YtkahmepenjhcpaaDoor.W
open Go
set_option linter.unusedSimpArgs false
set_option linter.unusedVariables false


theorem turn_no {E k b6 b7 : Int} {sm : Bool} (hT : E = 0 → sm = false ∧ ((32 ≤ k ∧ k < 48) ∨ (b6 = 0 ∧ b7 = 0))) (h : (E = 0 ∧ sm = true) ∨ ((E = 0 ∧ (¬ 32 ≤ k ∨ ¬ k < 48)) ∧ (¬ b6 = 0 ∨ ¬ b7 = 0))) : False := by
  rcases h with ⟨h, h1⟩ | ⟨⟨h, h1⟩, h2⟩
  · have := hT h; rw [this.1] at h1; cases h1
  · have := hT h; omega

set_option maxHeartbeats 1000000 in
theorem c65 (v : Value) (b : List Int) (k : Int) (w : World) (hb : BS [] w v b) (hk : 0 ≤ k ∧ k < 8 * b.length) (hl : b.length ≤ 1099511627776) :
    CallsV Tryd.prog 65 #[v, .int .i64 k] w (fun r w' => FB w w' r (turnB b k)) := by
  refine enter Tryd.func65 rfl Tryd.ntmps65 (l := [(0, [], _), (1, [], _)]) rfl rfl ?_
  have S := St.refl [] w
  refine Run.seq ?_
  refine Run.region ?_
  refine asg1 rfl rfl ?_
  refine Ro.nil ?_
  refine Nrm.code ?_
  refine Run.seq ?_
  refine Run.region ?_
  refine mv1 rfl rfl ?_
  refine call (vs := [_]) ⟨⟨_, _, rfl, rfl⟩, trivial⟩ k39 rfl (c39 _ _ _ (hb.now S) (by omega)) ?_
  rintro u5 w1 hF
  have S := S.fb hF
  refine asg1 rfl rfl ?_
  refine Ro.nil ?_
  refine Nrm.code ?_
  refine Run.seq ?_
  refine Run.held (by kernel_rfl) S [false] rfl rfl rfl ?_
  intro w2 BD S SC
  refine Ho.take (i := 0) SC Pp.body rfl (by kernel_rfl) (by kernel_rfl) (by kernel_rfl) rfl rfl ?_
  refine qmv rfl rfl rfl rfl ?_
  refine Ho.back ?_
  refine Ho.take (i := 1) SC Pp.body rfl (by kernel_rfl) (by kernel_rfl) (by kernel_rfl) rfl rfl ?_
  refine qmv rfl rfl rfl rfl ?_
  refine Ho.back ?_
  refine Ho.take (i := 2) SC Pp.body rfl (by kernel_rfl) (by kernel_rfl) (by kernel_rfl) rfl rfl ?_
  refine qquo rfl rfl rfl rfl rfl rfl (fun _ => by decide) (fun _ => q64 (by omega)) ?_
  refine Ho.back ?_
  refine Ho.take (i := 3) SC Pp.body rfl (by kernel_rfl) (by kernel_rfl) (by kernel_rfl) rfl rfl ?_
  refine qmv rfl rfl rfl rfl ?_
  refine Ho.back ?_
  refine Ho.take (i := 4) SC Pp.body rfl (by kernel_rfl) (by kernel_rfl) (by kernel_rfl) rfl rfl ?_
  refine qmv rfl rfl rfl rfl ?_
  refine Ho.back ?_
  refine Ho.take (i := 5) SC Pp.body rfl (by kernel_rfl) (by kernel_rfl) (by kernel_rfl) rfl rfl ?_
  refine qquo rfl rfl rfl rfl rfl rfl (fun _ => by decide) (fun _ => q64 (by omega)) ?_
  refine Ho.back ?_
  refine Ho.take (i := 6) SC Pp.body rfl (by kernel_rfl) (by kernel_rfl) (by kernel_rfl) rfl rfl ?_
  refine qixa rfl rfl (S.slI (i := 0) rfl) e26 rfl rfl rfl rfl (fun _ => by omega) ?_
  refine Ho.back ?_
  refine Ho.take (i := 8) SC Pp.body rfl (by kernel_rfl) (by kernel_rfl) (by kernel_rfl) rfl rfl ?_
  refine qmv rfl rfl rfl rfl ?_
  refine Ho.back ?_
  refine Ho.take (i := 9) SC Pp.body rfl (by kernel_rfl) (by kernel_rfl) (by kernel_rfl) rfl rfl ?_
  refine qrem rfl rfl rfl rfl rfl rfl (fun _ => by decide) (fun _ => r64 (by omega)) ?_
  refine Ho.back ?_
  refine Ho.take (i := 10) SC Pp.body rfl (by kernel_rfl) (by kernel_rfl) (by kernel_rfl) rfl rfl ?_
  refine qshr rfl rfl rfl rfl rfl rfl (fun _ => by omega) (fun _ => rfl) ?_
  refine Ho.back ?_
  refine Ho.one (i := 7) (by kernel_rfl) rfl rfl ?_
  refine ldB rfl (S.bsI (i := 0) rfl hb.1) (St.refl [] _) T5 rfl rfl rfl (fun _ => by omega) ?_
  intro q15 hq15 hbq15
  try simp only [Int.toNat_natCast, Nat.mul_one, Int.reduceToNat] at hq15
  have SC := S.pick [false] rfl
  refine Ho.on SC ?_
  refine Ho.take (i := 11) SC Pp.body rfl (by kernel_rfl) (by kernel_rfl) (by kernel_rfl) rfl rfl ?_
  refine qbxor rfl rfl rfl rfl rfl rfl (fun _ => rfl) ?_
  refine Ho.back ?_
  refine Ho.take (i := 12) SC Pp.body rfl (by kernel_rfl) (by kernel_rfl) (by kernel_rfl) rfl rfl ?_
  refine qixa rfl rfl (S.slI (i := 0) rfl) e26 rfl rfl rfl rfl (fun _ => by omega) ?_
  refine Ho.back ?_
  refine Ho.one (i := 13) (by kernel_rfl) rfl rfl ?_
  refine stB rfl rfl T5 S (i := 0) rfl (by omega) rfl ?_
  intro w3 S
  have SC := S.pick [false] rfl
  refine Ho.on SC ?_
  refine Ho.done (by kernel_rfl) ?_
  refine Nrm.code ?_
  refine Run.seq ?_
  refine Run.region ?_
  refine mv1 rfl rfl ?_
  refine asg1 rfl rfl ?_
  refine Ro.nil ?_
  refine Nrm.code ?_
  refine Run.ret ?_
  refine Rt.one rfl rfl ?_
  have e : q15 = b.getD (k / 8).toNat 0 := hq15
  subst e
  exact S.toFB (i := 0) (l := turnB b k) rfl

set_option maxHeartbeats 1000000 in
theorem c21 (s d : IP) (u : Udp) (ud : Value) (t : Tcp) (o td : Value) (k : Int) (w : World) (hs : s.ok) (ht : d.ok) (hud : BS [] w ud u.data) (hul : u.data.length ≤ 1099511627776) (hO : OS [] w o t.opts) (hd : BS [] w td t.data) (hol : t.opts.length ≤ 1099511627776) (hoo : ∀ p ∈ t.opts, p.data.length ≤ 1099511627776) (hdl : t.data.length ≤ 1099511627776) (hg1 : GV [] w 1 163 (W16.map i64)) (hg2 : GV [] w 2 166 (W10.map i64)) (hg3 : GV [] w 3 183 (lenT.map u64)) :
    CallsD Tryd.prog 21 #[.agg (encIP s).toArray, .agg (encIP d).toArray, .agg (encUdp u ud).toArray, .agg (encTcp t o td).toArray, .int .i64 k] w (.bool true) := by
  refine enter Tryd.func21 rfl Tryd.ntmps21 (l := [(0, [], _), (1, [], _), (2, [], _), (3, [], _), (4, [], _)]) rfl rfl ?_
  have S := St.refl [] w
  have hLu := putUL_le s d u
  have hLt := putTL_le s d t
  refine Run.seq ?_
  refine Run.region ?_
  refine boxA rfl S rfl ?_
  intro b5 w1 hb5 S B_
  refine boxA rfl S rfl ?_
  intro b6 w2 hb6 S B_
  refine boxA rfl S rfl ?_
  intro b7 w3 hb7 S B_
  refine boxA rfl S rfl ?_
  intro b8 w4 hb8 S B_
  refine asg1 rfl rfl ?_
  refine Ro.nil ?_
  refine Nrm.code ?_
  refine Run.seq ?_
  refine Run.region ?_
  refine calg (vs := []) rfl trivial k54 rfl (fun hG => c54 _ (hg1.now S) (hg2.now S) (hg3.now S)) ?_
  intro w5 B_; have S := S.call B_
  refine asg1 rfl rfl ?_
  refine Ro.nil ?_
  refine Nrm.code ?_
  refine Run.seq ?_
  refine Run.seq ?_
  refine Run.region ?_
  refine mv1 rfl rfl ?_
  refine nt1 rfl rfl ?_
  refine mv1 rfl rfl ?_
  refine mv rfl rfl rfl rfl ?_
  refine lss rfl rfl rfl rfl rfl rfl ?_
  refine pkO rfl rfl rfl rfl rfl rfl ?_
  refine Ro.nil ?_
  refine Nrm.code ?_
  refine Run.cond rfl (fun hc2 => ?_) (fun hc2 => ?_)
  ·
    try simp only [Bool.or_eq_true, Bool.and_eq_true, Bool.or_eq_false_iff, Bool.and_eq_false_iff, decide_eq_true_eq, decide_eq_false_iff_not, Bool.not_eq_true', Bool.not_eq_false', Bool.not_eq_true, Bool.not_eq_false] at hc2
    refine Run.seq ?_
    refine Run.region ?_
    refine mv1 rfl rfl ?_
    refine asg1 rfl rfl ?_
    refine Ro.nil ?_
    refine Nrm.code ?_
    refine Run.ret ?_
    refine Rt.one rfl rfl ?_
    exact ⟨rfl, S.bl⟩
  ·
    try simp only [Bool.or_eq_true, Bool.and_eq_true, Bool.or_eq_false_iff, Bool.and_eq_false_iff, decide_eq_true_eq, decide_eq_false_iff_not, Bool.not_eq_true', Bool.not_eq_false', Bool.not_eq_true, Bool.not_eq_false] at hc2
    have hk0 : ¬ k < 0 := by simpa using hc2
    refine Run.skip ?_
    refine Nrm.code ?_
    refine Run.seq ?_
    refine Run.region ?_
    refine ldW rfl T24 S (i := 3) rfl rfl rfl rfl rfl ?_
    refine ldW rfl T24 S (i := 2) rfl rfl rfl rfl rfl ?_
    refine ldW rfl T73 S (i := 1) rfl rfl rfl rfl rfl ?_
    refine call (vs := [_, _, _]) ⟨⟨_, _, rfl, rfl⟩, ⟨_, _, rfl, rfl⟩, ⟨_, _, rfl, rfl⟩, trivial⟩ k55 rfl (c55 s d u _ _ hs ht (hud.now S) (by omega) (hg1.now S)) ?_
    rintro _ w6 ⟨u12, rfl, hF⟩
    have S := S.fb hF
    obtain ⟨hu12, S⟩ := S.layBI (i := 0) rfl rfl (putUL_byt hs ht hud.1)
    obtain ⟨N1, hN1, S_1⟩ := S.reb
    have hud := hud.st S; rw [hN1] at hud
    have hO := hO.st S; rw [hN1] at hO
    have hd := hd.st S; rw [hN1] at hd
    have hg1 := hg1.st S; rw [hN1] at hg1
    have hg2 := hg2.st S; rw [hN1] at hg2
    have hg3 := hg3.st S; rw [hN1] at hg3
    rw [hN1] at hu12
    have SS := S
    have S := S_1
    refine mv1 rfl rfl ?_
    refine extr1 rfl rfl rfl ?_
    refine extr1 rfl rfl rfl ?_
    refine asg1 rfl rfl ?_
    refine asg1 rfl rfl ?_
    refine Ro.nil ?_
    refine Nrm.code ?_
    refine Run.seq ?_
    refine Run.seq ?_
    refine Run.region ?_
    refine mv1 rfl rfl ?_
    refine calg (vs := [_]) rfl ⟨⟨_, _, rfl, rfl⟩, trivial⟩ k56 rfl (fun hG => c56 (putUE s d u) _ (by have := putUE_bd s d u; omega)) ?_
    intro w7 B_; have S := S.call B_
    refine eql1 rfl rfl rfl ?_
    refine mv1 rfl rfl ?_
    refine mv rfl rfl rfl rfl ?_
    refine lenS rfl hu12.2 Tryd.underlying26 rfl rfl rfl ?_
    refine lss rfl rfl rfl rfl rfl rfl ?_
    refine pkA rfl rfl rfl rfl rfl rfl ?_
    refine Ro.nil ?_
    refine Nrm.code ?_
    refine Run.cond rfl (fun hc5 => ?_) (fun hc5 => ?_)
    ·
      try simp only [Bool.or_eq_true, Bool.and_eq_true, Bool.or_eq_false_iff, Bool.and_eq_false_iff, decide_eq_true_eq, decide_eq_false_iff_not, Bool.not_eq_true', Bool.not_eq_false', Bool.not_eq_true, Bool.not_eq_false] at hc5
      exfalso; (have hlen := (udp_back hs ht hud.1 hc5.1).1; omega)
    ·
      try simp only [Bool.or_eq_true, Bool.and_eq_true, Bool.or_eq_false_iff, Bool.and_eq_false_iff, decide_eq_true_eq, decide_eq_false_iff_not, Bool.not_eq_true', Bool.not_eq_false', Bool.not_eq_true, Bool.not_eq_false] at hc5
      refine Run.skip ?_
      refine Nrm.code ?_
      refine Run.seq ?_
      refine Run.seq ?_
      refine Run.region ?_
      refine mv1 rfl rfl ?_
      refine calg (vs := [_]) rfl ⟨⟨_, _, rfl, rfl⟩, trivial⟩ k56 rfl (fun hG => c56 (putUE s d u) _ (by have := putUE_bd s d u; omega)) ?_
      intro w8 B_; have S := S.call B_
      refine eql1 rfl rfl rfl ?_
      refine mv1 rfl rfl ?_
      refine fld (o' := 2) rfl fo73_2 rfl rfl rfl rfl ?_
      refine ld1 rfl T4 S (i := 1) rfl rfl rfl rfl rfl ?_
      refine nt rfl rfl rfl rfl ?_
      refine pkA rfl rfl rfl rfl rfl rfl ?_
      refine mv1 rfl rfl ?_
      refine mv rfl rfl rfl rfl ?_
      refine mv rfl rfl rfl rfl ?_
      refine lenS rfl hu12.2 Tryd.underlying26 rfl rfl rfl ?_
      refine mul rfl rfl rfl rfl rfl rfl (fun hG => by first | exact w64 (by omega) | (simp [allT] at hG; exact w64 (by omega))) ?_
      refine lss rfl rfl rfl rfl rfl rfl ?_
      refine pkA rfl rfl rfl rfl rfl rfl ?_
      refine Ro.nil ?_
      refine Nrm.code ?_
      refine Run.cond rfl (fun hc7 => ?_) (fun hc7 => ?_)
      ·
        try simp only [Bool.or_eq_true, Bool.and_eq_true, Bool.or_eq_false_iff, Bool.and_eq_false_iff, decide_eq_true_eq, decide_eq_false_iff_not, Bool.not_eq_true', Bool.not_eq_false', Bool.not_eq_true, Bool.not_eq_false] at hc7
        have he : putUE s d u = 0 := hc7.1.1
        have hn : u.nosum = false := by simpa using hc7.1.2
        have hk8 : k < 8 * ((putUL s d u).length : Int) := hc7.2
        have hlen := (udp_back hs ht hud.1 he).1
        refine Run.seq ?_
        refine Run.region ?_
        refine mv1 rfl rfl ?_
        refine mv1 rfl rfl ?_
        refine call (vs := [_, _]) ⟨⟨_, _, rfl, rfl⟩, ⟨_, _, rfl, rfl⟩, trivial⟩ k65 rfl (c65 _ _ k _ (hu12.now S) (by omega) (by omega)) ?_
        rintro u14 w9 hF
        have S := S.fb hF
        obtain ⟨hu14, S⟩ := S.layBI (i := 0) rfl rfl (turnB_byt hu12.1)
        obtain ⟨N2, hN2, S_2⟩ := S.reb
        have hud := hud.st S; rw [hN2] at hud
        have hO := hO.st S; rw [hN2] at hO
        have hd := hd.st S; rw [hN2] at hd
        have hg1 := hg1.st S; rw [hN2] at hg1
        have hg2 := hg2.st S; rw [hN2] at hg2
        have hg3 := hg3.st S; rw [hN2] at hg3
        have hu12 := hu12.st S; rw [hN2] at hu12
        rw [hN2] at hu14
        have SS := SS.tran hN1 S
        have S := S_2
        refine asg1 rfl rfl ?_
        refine Ro.nil ?_
        refine Nrm.code ?_
        refine Run.seq ?_
        refine Run.region ?_
        refine ldW rfl T24 S (i := 3) rfl rfl rfl rfl rfl ?_
        refine ldW rfl T24 S (i := 2) rfl rfl rfl rfl rfl ?_
        refine mv1 rfl rfl ?_
        refine call (vs := [_, _, _]) ⟨⟨_, _, rfl, rfl⟩, ⟨_, _, rfl, rfl⟩, ⟨_, _, rfl, rfl⟩, trivial⟩ k57 rfl (c57 s d _ _ _ hs ht (hu14.now S) (hg1.now S)) ?_
        rintro _ w10 ⟨d15, rfl, B1, hw_⟩
        have S := S.call B1
        have hd15 := hw_ _ _ hu14
        refine mv1 rfl rfl ?_
        refine extr1 rfl rfl rfl ?_
        refine extr1 rfl rfl rfl ?_
        refine alc T73 S rfl ?_
        intro b15 w11 hb15 S B_
        refine stW rfl rfl T73 rfl rfl (one_cons rfl (one_cons rfl (one_cons rfl (one_cons hd15.one one_nil)))) S (i := 0) rfl rfl ?_
        intro w12 S
        refine asg1 rfl rfl ?_
        refine Ro.nil ?_
        refine Nrm.code ?_
        refine Run.seq ?_
        refine Run.region ?_
        refine mv1 rfl rfl ?_
        refine geq1 rfl rfl rfl ?_
        refine mv1 rfl rfl ?_
        refine mv rfl rfl rfl rfl ?_
        refine lss rfl rfl rfl rfl rfl rfl ?_
        refine pkA rfl rfl rfl rfl rfl rfl ?_
        refine asg1 rfl rfl ?_
        refine Ro.nil ?_
        refine Nrm.code ?_
        refine Run.seq ?_
        refine Run.region ?_
        refine mv1 rfl rfl ?_
        refine ixa rfl rfl hu14.2 e26 rfl rfl rfl rfl (fun _ => by rw [turnB_len]; omega) ?_
        refine ldB rfl hu14 S T5 rfl rfl rfl (fun _ => by rw [turnB_len]; omega) ?_
        intro q78 hq78 hbq78
        try simp only [Int.toNat_natCast, Nat.mul_one, Int.reduceToNat] at hq78
        refine eql1 rfl rfl rfl ?_
        refine mv1 rfl rfl ?_
        refine mv rfl rfl rfl rfl ?_
        refine ixa rfl rfl hu14.2 e26 rfl rfl rfl rfl (fun _ => by rw [turnB_len]; omega) ?_
        refine ldB rfl hu14 S T5 rfl rfl rfl (fun _ => by rw [turnB_len]; omega) ?_
        intro q83 hq83 hbq83
        try simp only [Int.toNat_natCast, Nat.mul_one, Int.reduceToNat] at hq83
        refine eql rfl rfl rfl rfl rfl rfl ?_
        refine pkA rfl rfl rfl rfl rfl rfl ?_
        refine asg1 rfl rfl ?_
        refine Ro.nil ?_
        refine Nrm.code ?_
        refine Run.seq ?_
        refine Run.region ?_
        refine mv1 rfl rfl ?_
        refine calg (vs := [_]) rfl ⟨⟨_, _, rfl, rfl⟩, trivial⟩ k56 rfl (fun hG => c56 (udpE s d (turnB (putUL s d u) k)) _ (by have := udpE_bd s d (turnB (putUL s d u) k); omega)) ?_
        intro w13 B_; have S := S.call B_
        refine eql1 rfl rfl rfl ?_
        refine mv1 rfl rfl ?_
        refine ldW rfl T73 S (i := 2) rfl rfl rfl rfl rfl ?_
        refine ldW rfl T73 S (i := 0) rfl rfl rfl rfl rfl ?_
        refine calg (vs := [_, _]) rfl ⟨⟨_, _, rfl, rfl⟩, ⟨_, _, rfl, rfl⟩, trivial⟩ k59 rfl (fun hG => c59 u (udpU s d (turnB (putUL s d u) k)) _ _ _ (hud.now S) (hd15.now S)) ?_
        intro w14 B_; have S := S.call B_
        refine pkA rfl rfl rfl rfl rfl rfl ?_
        refine mv1 rfl rfl ?_
        refine mv rfl rfl rfl rfl ?_
        refine calg (vs := [_]) rfl ⟨⟨_, _, rfl, rfl⟩, trivial⟩ k56 rfl (fun hG => c56 (udpE s d (turnB (putUL s d u) k)) _ (by have := udpE_bd s d (turnB (putUL s d u) k); omega)) ?_
        intro w15 B_; have S := S.call B_
        refine eql rfl rfl rfl rfl rfl rfl ?_
        refine mv rfl rfl rfl rfl ?_
        refine mv rfl rfl rfl rfl ?_
        refine nt rfl rfl rfl rfl ?_
        refine pkA rfl rfl rfl rfl rfl rfl ?_
        refine mv rfl rfl rfl rfl ?_
        refine mv rfl rfl rfl rfl ?_
        refine nt rfl rfl rfl rfl ?_
        refine pkA rfl rfl rfl rfl rfl rfl ?_
        refine pkO rfl rfl rfl rfl rfl rfl ?_
        refine Ro.nil ?_
        refine Nrm.code ?_
        refine Run.cond rfl (fun hc12 => ?_) (fun hc12 => ?_)
        ·
          try simp only [Bool.or_eq_true, Bool.and_eq_true, Bool.or_eq_false_iff, Bool.and_eq_false_iff, decide_eq_true_eq, decide_eq_false_iff_not, Bool.not_eq_true', Bool.not_eq_false', Bool.not_eq_true, Bool.not_eq_false] at hc12
          exfalso; (have hT := udp_turn hs ht hud.1 he hn (by omega) hk8; have e78 : q78 = (turnB (putUL s d u) k).getD 6 0 := hq78; have e83 : q83 = (turnB (putUL s d u) k).getD 7 0 := hq83; rw [e78, e83] at hc12; exact turn_no hT hc12)
        ·
          try simp only [Bool.or_eq_true, Bool.and_eq_true, Bool.or_eq_false_iff, Bool.and_eq_false_iff, decide_eq_true_eq, decide_eq_false_iff_not, Bool.not_eq_true', Bool.not_eq_false', Bool.not_eq_true, Bool.not_eq_false] at hc12
          refine Run.skip ?_
          refine Nrm.code ?_
          refine Run.seq ?_
          refine Run.region ?_
          refine ldW rfl T24 S (i := 4) rfl rfl rfl rfl rfl ?_
          refine ldW rfl T24 S (i := 3) rfl rfl rfl rfl rfl ?_
          refine ldW rfl T82 S (i := 1) rfl rfl rfl rfl rfl ?_
          refine call (vs := [_, _, _]) ⟨⟨_, _, rfl, rfl⟩, ⟨_, _, rfl, rfl⟩, ⟨_, _, rfl, rfl⟩, trivial⟩ k61 rfl (c61 s d t _ _ _ hs ht (hO.now S) (hd.now S) (by exact hol) (by exact hoo) (by exact hdl) (hg2.now S) (hg3.now S)) ?_
          rintro _ w16 ⟨u12t, rfl, hF⟩
          have S := S.fb hF
          obtain ⟨hu12t, S⟩ := S.layBI (i := 0) rfl rfl (putTL_byt hs ht hO.byt hd.1)
          obtain ⟨N3, hN3, S_3⟩ := S.reb
          have hud := hud.st S; rw [hN3] at hud
          have hO := hO.st S; rw [hN3] at hO
          have hd := hd.st S; rw [hN3] at hd
          have hg1 := hg1.st S; rw [hN3] at hg1
          have hg2 := hg2.st S; rw [hN3] at hg2
          have hg3 := hg3.st S; rw [hN3] at hg3
          have hu12 := hu12.st S; rw [hN3] at hu12
          have hu14 := hu14.st S; rw [hN3] at hu14
          have hd15 := hd15.st S; rw [hN3] at hd15
          rw [hN3] at hu12t
          have SS := SS.tran hN2 S
          have S := S_3
          refine mv1 rfl rfl ?_
          refine extr1 rfl rfl rfl ?_
          refine extr1 rfl rfl rfl ?_
          refine asg1 rfl rfl ?_
          refine asg1 rfl rfl ?_
          refine Ro.nil ?_
          refine Nrm.code ?_
          refine Run.seq ?_
          refine Run.seq ?_
          refine Run.region ?_
          refine mv1 rfl rfl ?_
          refine calg (vs := [_]) rfl ⟨⟨_, _, rfl, rfl⟩, trivial⟩ k56 rfl (fun hG => c56 (putTE s d t) _ (by have := putTE_bd s d t; omega)) ?_
          intro w17 B_; have S := S.call B_
          refine neq1 rfl rfl rfl ?_
          refine mv1 rfl rfl ?_
          refine mv rfl rfl rfl rfl ?_
          refine mv rfl rfl rfl rfl ?_
          refine lenS rfl hu12t.2 Tryd.underlying26 rfl rfl rfl ?_
          refine mul rfl rfl rfl rfl rfl rfl (fun hG => by first | exact w64 (by omega) | (simp [allT] at hG; exact w64 (by omega))) ?_
          refine geq rfl rfl rfl rfl rfl rfl ?_
          refine pkO rfl rfl rfl rfl rfl rfl ?_
          refine Ro.nil ?_
          refine Nrm.code ?_
          refine Run.cond rfl (fun hc15 => ?_) (fun hc15 => ?_)
          ·
            try simp only [Bool.or_eq_true, Bool.and_eq_true, Bool.or_eq_false_iff, Bool.and_eq_false_iff, decide_eq_true_eq, decide_eq_false_iff_not, Bool.not_eq_true', Bool.not_eq_false', Bool.not_eq_true, Bool.not_eq_false] at hc15
            refine Run.seq ?_
            refine Run.region ?_
            refine asg1 rfl rfl ?_
            refine Ro.nil ?_
            refine Nrm.code ?_
            refine Run.ret ?_
            refine Rt.one rfl rfl ?_
            exact ⟨rfl, (SS.tran hN3 S).bl⟩
          ·
            try simp only [Bool.or_eq_true, Bool.and_eq_true, Bool.or_eq_false_iff, Bool.and_eq_false_iff, decide_eq_true_eq, decide_eq_false_iff_not, Bool.not_eq_true', Bool.not_eq_false', Bool.not_eq_true, Bool.not_eq_false] at hc15
            refine Run.skip ?_
            refine Nrm.code ?_
            refine Run.seq ?_
            refine Run.heldB (by kernel_rfl) S [true, true, true, true, true] rfl rfl rfl ?_
            intro w18 BD S SC
            refine Hb.take (i := 0) SC (fun _ _ S B => S.call B) Pp.body rfl (by kernel_rfl) (by kernel_rfl) (by kernel_rfl) rfl rfl ?_
            refine qldW rfl T24 (fun _ S => S) (i := 4) rfl rfl rfl rfl rfl ?_
            refine Hb.back ?_
            refine Hb.take (i := 1) SC (fun _ _ S B => S.call B) Pp.body rfl (by kernel_rfl) (by kernel_rfl) (by kernel_rfl) rfl rfl ?_
            refine qldW rfl T24 (fun _ S => S) (i := 3) rfl rfl rfl rfl rfl ?_
            refine Hb.back ?_
            refine Hb.take (i := 2) SC (fun _ _ S B => S.call B) Pp.body rfl (by kernel_rfl) (by kernel_rfl) (by kernel_rfl) rfl rfl ?_
            refine qmv rfl rfl rfl rfl ?_
            refine Hb.back ?_
            refine Hb.take (i := 3) SC (fun _ _ S B => S.call B) Pp.body rfl (by kernel_rfl) (by kernel_rfl) (by kernel_rfl) rfl rfl ?_
            refine qmv rfl rfl rfl rfl ?_
            refine Hb.back ?_
            refine Hb.two (i := 4) (i' := 9) (by kernel_rfl) rfl rfl rfl rfl ?_ ?_
            ·
              intro w19 BD; have S := S.call BD
              refine call (vs := [_, _]) ⟨⟨_, _, rfl, rfl⟩, ⟨_, _, rfl, rfl⟩, trivial⟩ k65 rfl (c65 _ _ k _ (hu12t.now S) (by omega) (by omega)) ?_
              rintro u19 w20 hF
              have S := S.fb hF
              obtain ⟨hu19, S⟩ := S.layBI (i := 0) rfl rfl (turnB_byt hu12t.1)
              obtain ⟨N4, hN4, S_4⟩ := S.reb
              have hud := hud.st S; rw [hN4] at hud
              have hO := hO.st S; rw [hN4] at hO
              have hd := hd.st S; rw [hN4] at hd
              have hg1 := hg1.st S; rw [hN4] at hg1
              have hg2 := hg2.st S; rw [hN4] at hg2
              have hg3 := hg3.st S; rw [hN4] at hg3
              have hu12 := hu12.st S; rw [hN4] at hu12
              have hu14 := hu14.st S; rw [hN4] at hu14
              have hd15 := hd15.st S; rw [hN4] at hd15
              have hu12t := hu12t.st S; rw [hN4] at hu12t
              rw [hN4] at hu19
              have SS := SS.tran hN3 S
              have SH := S
              have S := S_4
              have SC := (SH.tran hN4 S).pick [true, true, true, true, true] rfl
              refine Hb.on SC ?_
              refine Hb.two (i := 5) (i' := 9) (by kernel_rfl) rfl rfl rfl rfl ?_ ?_
              ·
                intro w21 BD; have S := S.call BD
                refine call (vs := [_, _, _]) ⟨⟨_, _, rfl, rfl⟩, ⟨_, _, rfl, rfl⟩, ⟨_, _, rfl, rfl⟩, trivial⟩ k62 rfl (c62 s d _ _ _ hs ht (hu19.now S) (hg2.now S) (hg3.now S)) ?_
                rintro _ w22 ⟨o19, d19, vs19, rfl, hF, hw_⟩
                have S := S.fo hF
                have hd19 := (hw_ _ _ hu19).2
                have ho_ := (hw_ _ _ hu19).1
                obtain ⟨ho19, S⟩ := S.layOI (i := 0) rfl rfl ho_
                obtain ⟨N5, hN5, S_5⟩ := S.reb
                have hud := hud.st S; rw [hN5] at hud
                have hO := hO.st S; rw [hN5] at hO
                have hd := hd.st S; rw [hN5] at hd
                have hg1 := hg1.st S; rw [hN5] at hg1
                have hg2 := hg2.st S; rw [hN5] at hg2
                have hg3 := hg3.st S; rw [hN5] at hg3
                have hu12 := hu12.st S; rw [hN5] at hu12
                have hu14 := hu14.st S; rw [hN5] at hu14
                have hd15 := hd15.st S; rw [hN5] at hd15
                have hu12t := hu12t.st S; rw [hN5] at hu12t
                have hu19 := hu19.st S; rw [hN5] at hu19
                have hd19 := hd19.st S; rw [hN5] at hd19
                rw [hN5] at ho19
                have SS := SS.tran hN4 S
                have SH := SH.tran hN4 S
                have S := S_5
                have SC := (SH.tran hN5 S).pick [true, true, true, true, true] rfl
                refine Hb.on SC ?_
                refine Hb.take (i := 6) SC (fun _ _ S B => S.call B) Pp.body rfl (by kernel_rfl) (by kernel_rfl) (by kernel_rfl) rfl rfl ?_
                refine qmv rfl rfl rfl rfl ?_
                refine Hb.back ?_
                refine Hb.take (i := 7) SC (fun _ _ S B => S.call B) Pp.body rfl (by kernel_rfl) (by kernel_rfl) (by kernel_rfl) rfl rfl ?_
                refine qextr rfl rfl rfl rfl rfl ?_
                refine Hb.back ?_
                refine Hb.take (i := 8) SC (fun _ _ S B => S.call B) Pp.body rfl (by kernel_rfl) (by kernel_rfl) (by kernel_rfl) rfl rfl ?_
                refine qextr rfl rfl rfl rfl rfl ?_
                refine Hb.back ?_
                refine Hb.one (i := 9) (by kernel_rfl) rfl rfl ?_
                intro w23 BD; have S := S.call BD
                refine alc T82 S rfl ?_
                intro b19 w24 hb19 S B_
                have SC := (SH.tran hN5 S).pick [false, true, true, true, true, true] rfl
                refine Hb.on SC ?_
                refine Hb.one (i := 10) (by kernel_rfl) rfl rfl ?_
                intro w25 BD; have S := S.call BD
                refine stW rfl rfl T82 rfl rfl (one_cons rfl (one_cons rfl (one_cons rfl (one_cons rfl (one_cons rfl (one_cons rfl (one_cons rfl (one_cons ho19.one (one_cons hd19.one one_nil))))))))) S (i := 0) rfl rfl ?_
                intro w26 S
                have SC := (SH.tran hN5 S).pick [false, true, true, true, true, true] rfl
                refine Hb.on SC ?_
                refine Hb.take (i := 11) SC (fun _ _ S B => S.call B) Pp.body rfl (by kernel_rfl) (by kernel_rfl) (by kernel_rfl) rfl rfl ?_
                refine qasg rfl rfl rfl rfl ?_
                refine Hb.back ?_
                refine Hb.done (by kernel_rfl) ?_
                intro w27 BD; have S := S.call BD
                refine Nrm.code ?_
                refine Run.seq ?_
                refine Run.region ?_
                refine mv1 rfl rfl ?_
                refine geq1 rfl rfl rfl ?_
                refine mv1 rfl rfl ?_
                refine mv rfl rfl rfl rfl ?_
                refine lss rfl rfl rfl rfl rfl rfl ?_
                refine pkA rfl rfl rfl rfl rfl rfl ?_
                refine asg1 rfl rfl ?_
                refine Ro.nil ?_
                refine Nrm.code ?_
                refine Run.seq ?_
                refine Run.region ?_
                refine mv1 rfl rfl ?_
                refine calg (vs := [_]) rfl ⟨⟨_, _, rfl, rfl⟩, trivial⟩ k56 rfl (fun hG => c56 (tcpE s d (turnB (putTL s d t) k)) _ (by have := tcpE_bd s d (turnB (putTL s d t) k); omega)) ?_
                intro w28 B_; have S := S.call B_
                refine neq1 rfl rfl rfl ?_
                refine mv1 rfl rfl ?_
                refine mv rfl rfl rfl rfl ?_
                refine mv rfl rfl rfl rfl ?_
                refine ldW rfl T82 S (i := 2) rfl rfl rfl rfl rfl ?_
                refine ldW rfl T82 S (i := 0) rfl rfl rfl rfl rfl ?_
                refine calg (vs := [_, _]) rfl ⟨⟨_, _, rfl, rfl⟩, ⟨_, _, rfl, rfl⟩, trivial⟩ k63 rfl (fun hG => c63 t (tcpT s d (turnB (putTL s d t) k)) _ _ _ _ _ (hO.now S) (hd.now S) (ho19.now S) (hd19.now S) (by exact hol)) ?_
                intro w29 B_; have S := S.call B_
                refine nt rfl rfl rfl rfl ?_
                refine pkA rfl rfl rfl rfl rfl rfl ?_
                refine pkO rfl rfl rfl rfl rfl rfl ?_
                refine asg1 rfl rfl ?_
                refine Ro.nil ?_
                refine Nrm.code ?_
                refine Run.ret ?_
                refine Rt.one rfl rfl ?_
                have he : putTE s d t = 0 := by omega
                obtain ⟨hlen, hH, hfit, hsm, hE, hT⟩ := tcp_back hs ht hO.byt hd.1 he
                have hne := tcp_turn (k := k) hu12t.1 (by omega) hsm
                exact ⟨by simp [hne], (SS.tran hN5 S).bl⟩
              ·
                intro w21 BD; have S := S.call BD
                refine alc T82 S rfl ?_
                intro b19 w22 hb19 S B_
                have SC := (SH.tran hN4 S).pick [false, true, true, true, true, true] rfl
                refine Hb.on SC ?_
                refine Hb.one (i := 5) (by kernel_rfl) rfl rfl ?_
                intro w23 BD; have S := S.call BD
                refine call (vs := [_, _, _]) ⟨⟨_, _, rfl, rfl⟩, ⟨_, _, rfl, rfl⟩, ⟨_, _, rfl, rfl⟩, trivial⟩ k62 rfl (c62 s d _ _ _ hs ht (hu19.now S) (hg2.now S) (hg3.now S)) ?_
                rintro _ w24 ⟨o19, d19, vs19, rfl, hF, hw_⟩
                have S := S.fo hF
                have hd19 := (hw_ _ _ hu19).2
                have ho_ := (hw_ _ _ hu19).1
                obtain ⟨ho19, S⟩ := S.layOI (i := 0) rfl rfl ho_
                obtain ⟨N6, hN6, S_6⟩ := S.reb
                have hud := hud.st S; rw [hN6] at hud
                have hO := hO.st S; rw [hN6] at hO
                have hd := hd.st S; rw [hN6] at hd
                have hg1 := hg1.st S; rw [hN6] at hg1
                have hg2 := hg2.st S; rw [hN6] at hg2
                have hg3 := hg3.st S; rw [hN6] at hg3
                have hu12 := hu12.st S; rw [hN6] at hu12
                have hu14 := hu14.st S; rw [hN6] at hu14
                have hd15 := hd15.st S; rw [hN6] at hd15
                have hu12t := hu12t.st S; rw [hN6] at hu12t
                have hu19 := hu19.st S; rw [hN6] at hu19
                have hd19 := hd19.st S; rw [hN6] at hd19
                rw [hN6] at ho19
                have SS := SS.tran hN4 S
                have SH := SH.tran hN4 S
                have S := S_6
                have SC := (SH.tran hN6 S).pick [false, true, true, true, true, true] rfl
                refine Hb.on SC ?_
                refine Hb.take (i := 6) SC (fun _ _ S B => S.call B) Pp.body rfl (by kernel_rfl) (by kernel_rfl) (by kernel_rfl) rfl rfl ?_
                refine qmv rfl rfl rfl rfl ?_
                refine Hb.back ?_
                refine Hb.take (i := 7) SC (fun _ _ S B => S.call B) Pp.body rfl (by kernel_rfl) (by kernel_rfl) (by kernel_rfl) rfl rfl ?_
                refine qextr rfl rfl rfl rfl rfl ?_
                refine Hb.back ?_
                refine Hb.take (i := 8) SC (fun _ _ S B => S.call B) Pp.body rfl (by kernel_rfl) (by kernel_rfl) (by kernel_rfl) rfl rfl ?_
                refine qextr rfl rfl rfl rfl rfl ?_
                refine Hb.back ?_
                refine Hb.one (i := 10) (by kernel_rfl) rfl rfl ?_
                intro w25 BD; have S := S.call BD
                refine stW rfl rfl T82 rfl rfl (one_cons rfl (one_cons rfl (one_cons rfl (one_cons rfl (one_cons rfl (one_cons rfl (one_cons rfl (one_cons ho19.one (one_cons hd19.one one_nil))))))))) S (i := 0) rfl rfl ?_
                intro w26 S
                have SC := (SH.tran hN6 S).pick [false, true, true, true, true, true] rfl
                refine Hb.on SC ?_
                refine Hb.take (i := 11) SC (fun _ _ S B => S.call B) Pp.body rfl (by kernel_rfl) (by kernel_rfl) (by kernel_rfl) rfl rfl ?_
                refine qasg rfl rfl rfl rfl ?_
                refine Hb.back ?_
                refine Hb.done (by kernel_rfl) ?_
                intro w27 BD; have S := S.call BD
                refine Nrm.code ?_
                refine Run.seq ?_
                refine Run.region ?_
                refine mv1 rfl rfl ?_
                refine geq1 rfl rfl rfl ?_
                refine mv1 rfl rfl ?_
                refine mv rfl rfl rfl rfl ?_
                refine lss rfl rfl rfl rfl rfl rfl ?_
                refine pkA rfl rfl rfl rfl rfl rfl ?_
                refine asg1 rfl rfl ?_
                refine Ro.nil ?_
                refine Nrm.code ?_
                refine Run.seq ?_
                refine Run.region ?_
                refine mv1 rfl rfl ?_
                refine calg (vs := [_]) rfl ⟨⟨_, _, rfl, rfl⟩, trivial⟩ k56 rfl (fun hG => c56 (tcpE s d (turnB (putTL s d t) k)) _ (by have := tcpE_bd s d (turnB (putTL s d t) k); omega)) ?_
                intro w28 B_; have S := S.call B_
                refine neq1 rfl rfl rfl ?_
                refine mv1 rfl rfl ?_
                refine mv rfl rfl rfl rfl ?_
                refine mv rfl rfl rfl rfl ?_
                refine ldW rfl T82 S (i := 2) rfl rfl rfl rfl rfl ?_
                refine ldW rfl T82 S (i := 0) rfl rfl rfl rfl rfl ?_
                refine calg (vs := [_, _]) rfl ⟨⟨_, _, rfl, rfl⟩, ⟨_, _, rfl, rfl⟩, trivial⟩ k63 rfl (fun hG => c63 t (tcpT s d (turnB (putTL s d t) k)) _ _ _ _ _ (hO.now S) (hd.now S) (ho19.now S) (hd19.now S) (by exact hol)) ?_
                intro w29 B_; have S := S.call B_
                refine nt rfl rfl rfl rfl ?_
                refine pkA rfl rfl rfl rfl rfl rfl ?_
                refine pkO rfl rfl rfl rfl rfl rfl ?_
                refine asg1 rfl rfl ?_
                refine Ro.nil ?_
                refine Nrm.code ?_
                refine Run.ret ?_
                refine Rt.one rfl rfl ?_
                have he : putTE s d t = 0 := by omega
                obtain ⟨hlen, hH, hfit, hsm, hE, hT⟩ := tcp_back hs ht hO.byt hd.1 he
                have hne := tcp_turn (k := k) hu12t.1 (by omega) hsm
                exact ⟨by simp [hne], (SS.tran hN6 S).bl⟩
            ·
              intro w19 BD; have S := S.call BD
              refine alc T82 S rfl ?_
              intro b19 w20 hb19 S B_
              have SC := S.pick [false, true, true, true, true, true] rfl
              refine Hb.on SC ?_
              refine Hb.one (i := 4) (by kernel_rfl) rfl rfl ?_
              intro w21 BD; have S := S.call BD
              refine call (vs := [_, _]) ⟨⟨_, _, rfl, rfl⟩, ⟨_, _, rfl, rfl⟩, trivial⟩ k65 rfl (c65 _ _ k _ (hu12t.now S) (by omega) (by omega)) ?_
              rintro u19 w22 hF
              have S := S.fb hF
              obtain ⟨hu19, S⟩ := S.layBI (i := 0) rfl rfl (turnB_byt hu12t.1)
              obtain ⟨N7, hN7, S_7⟩ := S.reb
              have hud := hud.st S; rw [hN7] at hud
              have hO := hO.st S; rw [hN7] at hO
              have hd := hd.st S; rw [hN7] at hd
              have hg1 := hg1.st S; rw [hN7] at hg1
              have hg2 := hg2.st S; rw [hN7] at hg2
              have hg3 := hg3.st S; rw [hN7] at hg3
              have hu12 := hu12.st S; rw [hN7] at hu12
              have hu14 := hu14.st S; rw [hN7] at hu14
              have hd15 := hd15.st S; rw [hN7] at hd15
              have hu12t := hu12t.st S; rw [hN7] at hu12t
              rw [hN7] at hu19
              have SS := SS.tran hN3 S
              have SH := S
              have S := S_7
              have SC := (SH.tran hN7 S).pick [false, true, true, true, true, true] rfl
              refine Hb.on SC ?_
              refine Hb.one (i := 5) (by kernel_rfl) rfl rfl ?_
              intro w23 BD; have S := S.call BD
              refine call (vs := [_, _, _]) ⟨⟨_, _, rfl, rfl⟩, ⟨_, _, rfl, rfl⟩, ⟨_, _, rfl, rfl⟩, trivial⟩ k62 rfl (c62 s d _ _ _ hs ht (hu19.now S) (hg2.now S) (hg3.now S)) ?_
              rintro _ w24 ⟨o19, d19, vs19, rfl, hF, hw_⟩
              have S := S.fo hF
              have hd19 := (hw_ _ _ hu19).2
              have ho_ := (hw_ _ _ hu19).1
              obtain ⟨ho19, S⟩ := S.layOI (i := 0) rfl rfl ho_
              obtain ⟨N8, hN8, S_8⟩ := S.reb
              have hud := hud.st S; rw [hN8] at hud
              have hO := hO.st S; rw [hN8] at hO
              have hd := hd.st S; rw [hN8] at hd
              have hg1 := hg1.st S; rw [hN8] at hg1
              have hg2 := hg2.st S; rw [hN8] at hg2
              have hg3 := hg3.st S; rw [hN8] at hg3
              have hu12 := hu12.st S; rw [hN8] at hu12
              have hu14 := hu14.st S; rw [hN8] at hu14
              have hd15 := hd15.st S; rw [hN8] at hd15
              have hu12t := hu12t.st S; rw [hN8] at hu12t
              have hu19 := hu19.st S; rw [hN8] at hu19
              have hd19 := hd19.st S; rw [hN8] at hd19
              rw [hN8] at ho19
              have SS := SS.tran hN7 S
              have SH := SH.tran hN7 S
              have S := S_8
              have SC := (SH.tran hN8 S).pick [false, true, true, true, true, true] rfl
              refine Hb.on SC ?_
              refine Hb.take (i := 6) SC (fun _ _ S B => S.call B) Pp.body rfl (by kernel_rfl) (by kernel_rfl) (by kernel_rfl) rfl rfl ?_
              refine qmv rfl rfl rfl rfl ?_
              refine Hb.back ?_
              refine Hb.take (i := 7) SC (fun _ _ S B => S.call B) Pp.body rfl (by kernel_rfl) (by kernel_rfl) (by kernel_rfl) rfl rfl ?_
              refine qextr rfl rfl rfl rfl rfl ?_
              refine Hb.back ?_
              refine Hb.take (i := 8) SC (fun _ _ S B => S.call B) Pp.body rfl (by kernel_rfl) (by kernel_rfl) (by kernel_rfl) rfl rfl ?_
              refine qextr rfl rfl rfl rfl rfl ?_
              refine Hb.back ?_
              refine Hb.one (i := 10) (by kernel_rfl) rfl rfl ?_
              intro w25 BD; have S := S.call BD
              refine stW rfl rfl T82 rfl rfl (one_cons rfl (one_cons rfl (one_cons rfl (one_cons rfl (one_cons rfl (one_cons rfl (one_cons rfl (one_cons ho19.one (one_cons hd19.one one_nil))))))))) S (i := 0) rfl rfl ?_
              intro w26 S
              have SC := (SH.tran hN8 S).pick [false, true, true, true, true, true] rfl
              refine Hb.on SC ?_
              refine Hb.take (i := 11) SC (fun _ _ S B => S.call B) Pp.body rfl (by kernel_rfl) (by kernel_rfl) (by kernel_rfl) rfl rfl ?_
              refine qasg rfl rfl rfl rfl ?_
              refine Hb.back ?_
              refine Hb.done (by kernel_rfl) ?_
              intro w27 BD; have S := S.call BD
              refine Nrm.code ?_
              refine Run.seq ?_
              refine Run.region ?_
              refine mv1 rfl rfl ?_
              refine geq1 rfl rfl rfl ?_
              refine mv1 rfl rfl ?_
              refine mv rfl rfl rfl rfl ?_
              refine lss rfl rfl rfl rfl rfl rfl ?_
              refine pkA rfl rfl rfl rfl rfl rfl ?_
              refine asg1 rfl rfl ?_
              refine Ro.nil ?_
              refine Nrm.code ?_
              refine Run.seq ?_
              refine Run.region ?_
              refine mv1 rfl rfl ?_
              refine calg (vs := [_]) rfl ⟨⟨_, _, rfl, rfl⟩, trivial⟩ k56 rfl (fun hG => c56 (tcpE s d (turnB (putTL s d t) k)) _ (by have := tcpE_bd s d (turnB (putTL s d t) k); omega)) ?_
              intro w28 B_; have S := S.call B_
              refine neq1 rfl rfl rfl ?_
              refine mv1 rfl rfl ?_
              refine mv rfl rfl rfl rfl ?_
              refine mv rfl rfl rfl rfl ?_
              refine ldW rfl T82 S (i := 2) rfl rfl rfl rfl rfl ?_
              refine ldW rfl T82 S (i := 0) rfl rfl rfl rfl rfl ?_
              refine calg (vs := [_, _]) rfl ⟨⟨_, _, rfl, rfl⟩, ⟨_, _, rfl, rfl⟩, trivial⟩ k63 rfl (fun hG => c63 t (tcpT s d (turnB (putTL s d t) k)) _ _ _ _ _ (hO.now S) (hd.now S) (ho19.now S) (hd19.now S) (by exact hol)) ?_
              intro w29 B_; have S := S.call B_
              refine nt rfl rfl rfl rfl ?_
              refine pkA rfl rfl rfl rfl rfl rfl ?_
              refine pkO rfl rfl rfl rfl rfl rfl ?_
              refine asg1 rfl rfl ?_
              refine Ro.nil ?_
              refine Nrm.code ?_
              refine Run.ret ?_
              refine Rt.one rfl rfl ?_
              have he : putTE s d t = 0 := by omega
              obtain ⟨hlen, hH, hfit, hsm, hE, hT⟩ := tcp_back hs ht hO.byt hd.1 he
              have hne := tcp_turn (k := k) hu12t.1 (by omega) hsm
              exact ⟨by simp [hne], (SS.tran hN8 S).bl⟩
      ·
        try simp only [Bool.or_eq_true, Bool.and_eq_true, Bool.or_eq_false_iff, Bool.and_eq_false_iff, decide_eq_true_eq, decide_eq_false_iff_not, Bool.not_eq_true', Bool.not_eq_false', Bool.not_eq_true, Bool.not_eq_false] at hc7
        refine Run.skip ?_
        refine Nrm.code ?_
        refine Run.seq ?_
        refine Run.region ?_
        refine ldW rfl T24 S (i := 3) rfl rfl rfl rfl rfl ?_
        refine ldW rfl T24 S (i := 2) rfl rfl rfl rfl rfl ?_
        refine ldW rfl T82 S (i := 0) rfl rfl rfl rfl rfl ?_
        refine call (vs := [_, _, _]) ⟨⟨_, _, rfl, rfl⟩, ⟨_, _, rfl, rfl⟩, ⟨_, _, rfl, rfl⟩, trivial⟩ k61 rfl (c61 s d t _ _ _ hs ht (hO.now S) (hd.now S) (by exact hol) (by exact hoo) (by exact hdl) (hg2.now S) (hg3.now S)) ?_
        rintro _ w9 ⟨u12t, rfl, hF⟩
        have S := S.fb hF
        obtain ⟨hu12t, S⟩ := S.layBI (i := 0) rfl rfl (putTL_byt hs ht hO.byt hd.1)
        obtain ⟨N9, hN9, S_9⟩ := S.reb
        have hud := hud.st S; rw [hN9] at hud
        have hO := hO.st S; rw [hN9] at hO
        have hd := hd.st S; rw [hN9] at hd
        have hg1 := hg1.st S; rw [hN9] at hg1
        have hg2 := hg2.st S; rw [hN9] at hg2
        have hg3 := hg3.st S; rw [hN9] at hg3
        have hu12 := hu12.st S; rw [hN9] at hu12
        rw [hN9] at hu12t
        have SS := SS.tran hN1 S
        have S := S_9
        refine mv1 rfl rfl ?_
        refine extr1 rfl rfl rfl ?_
        refine extr1 rfl rfl rfl ?_
        refine asg1 rfl rfl ?_
        refine asg1 rfl rfl ?_
        refine Ro.nil ?_
        refine Nrm.code ?_
        refine Run.seq ?_
        refine Run.seq ?_
        refine Run.region ?_
        refine mv1 rfl rfl ?_
        refine calg (vs := [_]) rfl ⟨⟨_, _, rfl, rfl⟩, trivial⟩ k56 rfl (fun hG => c56 (putTE s d t) _ (by have := putTE_bd s d t; omega)) ?_
        intro w10 B_; have S := S.call B_
        refine neq1 rfl rfl rfl ?_
        refine mv1 rfl rfl ?_
        refine mv rfl rfl rfl rfl ?_
        refine mv rfl rfl rfl rfl ?_
        refine lenS rfl hu12t.2 Tryd.underlying26 rfl rfl rfl ?_
        refine mul rfl rfl rfl rfl rfl rfl (fun hG => by first | exact w64 (by omega) | (simp [allT] at hG; exact w64 (by omega))) ?_
        refine geq rfl rfl rfl rfl rfl rfl ?_
        refine pkO rfl rfl rfl rfl rfl rfl ?_
        refine Ro.nil ?_
        refine Nrm.code ?_
        refine Run.cond rfl (fun hc15 => ?_) (fun hc15 => ?_)
        ·
          try simp only [Bool.or_eq_true, Bool.and_eq_true, Bool.or_eq_false_iff, Bool.and_eq_false_iff, decide_eq_true_eq, decide_eq_false_iff_not, Bool.not_eq_true', Bool.not_eq_false', Bool.not_eq_true, Bool.not_eq_false] at hc15
          refine Run.seq ?_
          refine Run.region ?_
          refine asg1 rfl rfl ?_
          refine Ro.nil ?_
          refine Nrm.code ?_
          refine Run.ret ?_
          refine Rt.one rfl rfl ?_
          exact ⟨rfl, (SS.tran hN9 S).bl⟩
        ·
          try simp only [Bool.or_eq_true, Bool.and_eq_true, Bool.or_eq_false_iff, Bool.and_eq_false_iff, decide_eq_true_eq, decide_eq_false_iff_not, Bool.not_eq_true', Bool.not_eq_false', Bool.not_eq_true, Bool.not_eq_false] at hc15
          refine Run.skip ?_
          refine Nrm.code ?_
          refine Run.seq ?_
          refine Run.heldB (by kernel_rfl) S [true, true, true, true] rfl rfl rfl ?_
          intro w11 BD S SC
          refine Hb.take (i := 0) SC (fun _ _ S B => S.call B) Pp.body rfl (by kernel_rfl) (by kernel_rfl) (by kernel_rfl) rfl rfl ?_
          refine qldW rfl T24 (fun _ S => S) (i := 3) rfl rfl rfl rfl rfl ?_
          refine Hb.back ?_
          refine Hb.take (i := 1) SC (fun _ _ S B => S.call B) Pp.body rfl (by kernel_rfl) (by kernel_rfl) (by kernel_rfl) rfl rfl ?_
          refine qldW rfl T24 (fun _ S => S) (i := 2) rfl rfl rfl rfl rfl ?_
          refine Hb.back ?_
          refine Hb.take (i := 2) SC (fun _ _ S B => S.call B) Pp.body rfl (by kernel_rfl) (by kernel_rfl) (by kernel_rfl) rfl rfl ?_
          refine qmv rfl rfl rfl rfl ?_
          refine Hb.back ?_
          refine Hb.take (i := 3) SC (fun _ _ S B => S.call B) Pp.body rfl (by kernel_rfl) (by kernel_rfl) (by kernel_rfl) rfl rfl ?_
          refine qmv rfl rfl rfl rfl ?_
          refine Hb.back ?_
          refine Hb.two (i := 4) (i' := 9) (by kernel_rfl) rfl rfl rfl rfl ?_ ?_
          ·
            intro w12 BD; have S := S.call BD
            refine call (vs := [_, _]) ⟨⟨_, _, rfl, rfl⟩, ⟨_, _, rfl, rfl⟩, trivial⟩ k65 rfl (c65 _ _ k _ (hu12t.now S) (by omega) (by omega)) ?_
            rintro u19 w13 hF
            have S := S.fb hF
            obtain ⟨hu19, S⟩ := S.layBI (i := 0) rfl rfl (turnB_byt hu12t.1)
            obtain ⟨N10, hN10, S_10⟩ := S.reb
            have hud := hud.st S; rw [hN10] at hud
            have hO := hO.st S; rw [hN10] at hO
            have hd := hd.st S; rw [hN10] at hd
            have hg1 := hg1.st S; rw [hN10] at hg1
            have hg2 := hg2.st S; rw [hN10] at hg2
            have hg3 := hg3.st S; rw [hN10] at hg3
            have hu12 := hu12.st S; rw [hN10] at hu12
            have hu12t := hu12t.st S; rw [hN10] at hu12t
            rw [hN10] at hu19
            have SS := SS.tran hN9 S
            have SH := S
            have S := S_10
            have SC := (SH.tran hN10 S).pick [true, true, true, true] rfl
            refine Hb.on SC ?_
            refine Hb.two (i := 5) (i' := 9) (by kernel_rfl) rfl rfl rfl rfl ?_ ?_
            ·
              intro w14 BD; have S := S.call BD
              refine call (vs := [_, _, _]) ⟨⟨_, _, rfl, rfl⟩, ⟨_, _, rfl, rfl⟩, ⟨_, _, rfl, rfl⟩, trivial⟩ k62 rfl (c62 s d _ _ _ hs ht (hu19.now S) (hg2.now S) (hg3.now S)) ?_
              rintro _ w15 ⟨o19, d19, vs19, rfl, hF, hw_⟩
              have S := S.fo hF
              have hd19 := (hw_ _ _ hu19).2
              have ho_ := (hw_ _ _ hu19).1
              obtain ⟨ho19, S⟩ := S.layOI (i := 0) rfl rfl ho_
              obtain ⟨N11, hN11, S_11⟩ := S.reb
              have hud := hud.st S; rw [hN11] at hud
              have hO := hO.st S; rw [hN11] at hO
              have hd := hd.st S; rw [hN11] at hd
              have hg1 := hg1.st S; rw [hN11] at hg1
              have hg2 := hg2.st S; rw [hN11] at hg2
              have hg3 := hg3.st S; rw [hN11] at hg3
              have hu12 := hu12.st S; rw [hN11] at hu12
              have hu12t := hu12t.st S; rw [hN11] at hu12t
              have hu19 := hu19.st S; rw [hN11] at hu19
              have hd19 := hd19.st S; rw [hN11] at hd19
              rw [hN11] at ho19
              have SS := SS.tran hN10 S
              have SH := SH.tran hN10 S
              have S := S_11
              have SC := (SH.tran hN11 S).pick [true, true, true, true] rfl
              refine Hb.on SC ?_
              refine Hb.take (i := 6) SC (fun _ _ S B => S.call B) Pp.body rfl (by kernel_rfl) (by kernel_rfl) (by kernel_rfl) rfl rfl ?_
              refine qmv rfl rfl rfl rfl ?_
              refine Hb.back ?_
              refine Hb.take (i := 7) SC (fun _ _ S B => S.call B) Pp.body rfl (by kernel_rfl) (by kernel_rfl) (by kernel_rfl) rfl rfl ?_
              refine qextr rfl rfl rfl rfl rfl ?_
              refine Hb.back ?_
              refine Hb.take (i := 8) SC (fun _ _ S B => S.call B) Pp.body rfl (by kernel_rfl) (by kernel_rfl) (by kernel_rfl) rfl rfl ?_
              refine qextr rfl rfl rfl rfl rfl ?_
              refine Hb.back ?_
              refine Hb.one (i := 9) (by kernel_rfl) rfl rfl ?_
              intro w16 BD; have S := S.call BD
              refine alc T82 S rfl ?_
              intro b19 w17 hb19 S B_
              have SC := (SH.tran hN11 S).pick [false, true, true, true, true] rfl
              refine Hb.on SC ?_
              refine Hb.one (i := 10) (by kernel_rfl) rfl rfl ?_
              intro w18 BD; have S := S.call BD
              refine stW rfl rfl T82 rfl rfl (one_cons rfl (one_cons rfl (one_cons rfl (one_cons rfl (one_cons rfl (one_cons rfl (one_cons rfl (one_cons ho19.one (one_cons hd19.one one_nil))))))))) S (i := 0) rfl rfl ?_
              intro w19 S
              have SC := (SH.tran hN11 S).pick [false, true, true, true, true] rfl
              refine Hb.on SC ?_
              refine Hb.take (i := 11) SC (fun _ _ S B => S.call B) Pp.body rfl (by kernel_rfl) (by kernel_rfl) (by kernel_rfl) rfl rfl ?_
              refine qasg rfl rfl rfl rfl ?_
              refine Hb.back ?_
              refine Hb.done (by kernel_rfl) ?_
              intro w20 BD; have S := S.call BD
              refine Nrm.code ?_
              refine Run.seq ?_
              refine Run.region ?_
              refine mv1 rfl rfl ?_
              refine geq1 rfl rfl rfl ?_
              refine mv1 rfl rfl ?_
              refine mv rfl rfl rfl rfl ?_
              refine lss rfl rfl rfl rfl rfl rfl ?_
              refine pkA rfl rfl rfl rfl rfl rfl ?_
              refine asg1 rfl rfl ?_
              refine Ro.nil ?_
              refine Nrm.code ?_
              refine Run.seq ?_
              refine Run.region ?_
              refine mv1 rfl rfl ?_
              refine calg (vs := [_]) rfl ⟨⟨_, _, rfl, rfl⟩, trivial⟩ k56 rfl (fun hG => c56 (tcpE s d (turnB (putTL s d t) k)) _ (by have := tcpE_bd s d (turnB (putTL s d t) k); omega)) ?_
              intro w21 B_; have S := S.call B_
              refine neq1 rfl rfl rfl ?_
              refine mv1 rfl rfl ?_
              refine mv rfl rfl rfl rfl ?_
              refine mv rfl rfl rfl rfl ?_
              refine ldW rfl T82 S (i := 1) rfl rfl rfl rfl rfl ?_
              refine ldW rfl T82 S (i := 0) rfl rfl rfl rfl rfl ?_
              refine calg (vs := [_, _]) rfl ⟨⟨_, _, rfl, rfl⟩, ⟨_, _, rfl, rfl⟩, trivial⟩ k63 rfl (fun hG => c63 t (tcpT s d (turnB (putTL s d t) k)) _ _ _ _ _ (hO.now S) (hd.now S) (ho19.now S) (hd19.now S) (by exact hol)) ?_
              intro w22 B_; have S := S.call B_
              refine nt rfl rfl rfl rfl ?_
              refine pkA rfl rfl rfl rfl rfl rfl ?_
              refine pkO rfl rfl rfl rfl rfl rfl ?_
              refine asg1 rfl rfl ?_
              refine Ro.nil ?_
              refine Nrm.code ?_
              refine Run.ret ?_
              refine Rt.one rfl rfl ?_
              have he : putTE s d t = 0 := by omega
              obtain ⟨hlen, hH, hfit, hsm, hE, hT⟩ := tcp_back hs ht hO.byt hd.1 he
              have hne := tcp_turn (k := k) hu12t.1 (by omega) hsm
              exact ⟨by simp [hne], (SS.tran hN11 S).bl⟩
            ·
              intro w14 BD; have S := S.call BD
              refine alc T82 S rfl ?_
              intro b19 w15 hb19 S B_
              have SC := (SH.tran hN10 S).pick [false, true, true, true, true] rfl
              refine Hb.on SC ?_
              refine Hb.one (i := 5) (by kernel_rfl) rfl rfl ?_
              intro w16 BD; have S := S.call BD
              refine call (vs := [_, _, _]) ⟨⟨_, _, rfl, rfl⟩, ⟨_, _, rfl, rfl⟩, ⟨_, _, rfl, rfl⟩, trivial⟩ k62 rfl (c62 s d _ _ _ hs ht (hu19.now S) (hg2.now S) (hg3.now S)) ?_
              rintro _ w17 ⟨o19, d19, vs19, rfl, hF, hw_⟩
              have S := S.fo hF
              have hd19 := (hw_ _ _ hu19).2
              have ho_ := (hw_ _ _ hu19).1
              obtain ⟨ho19, S⟩ := S.layOI (i := 0) rfl rfl ho_
              obtain ⟨N12, hN12, S_12⟩ := S.reb
              have hud := hud.st S; rw [hN12] at hud
              have hO := hO.st S; rw [hN12] at hO
              have hd := hd.st S; rw [hN12] at hd
              have hg1 := hg1.st S; rw [hN12] at hg1
              have hg2 := hg2.st S; rw [hN12] at hg2
              have hg3 := hg3.st S; rw [hN12] at hg3
              have hu12 := hu12.st S; rw [hN12] at hu12
              have hu12t := hu12t.st S; rw [hN12] at hu12t
              have hu19 := hu19.st S; rw [hN12] at hu19
              have hd19 := hd19.st S; rw [hN12] at hd19
              rw [hN12] at ho19
              have SS := SS.tran hN10 S
              have SH := SH.tran hN10 S
              have S := S_12
              have SC := (SH.tran hN12 S).pick [false, true, true, true, true] rfl
              refine Hb.on SC ?_
              refine Hb.take (i := 6) SC (fun _ _ S B => S.call B) Pp.body rfl (by kernel_rfl) (by kernel_rfl) (by kernel_rfl) rfl rfl ?_
              refine qmv rfl rfl rfl rfl ?_
              refine Hb.back ?_
              refine Hb.take (i := 7) SC (fun _ _ S B => S.call B) Pp.body rfl (by kernel_rfl) (by kernel_rfl) (by kernel_rfl) rfl rfl ?_
              refine qextr rfl rfl rfl rfl rfl ?_
              refine Hb.back ?_
              refine Hb.take (i := 8) SC (fun _ _ S B => S.call B) Pp.body rfl (by kernel_rfl) (by kernel_rfl) (by kernel_rfl) rfl rfl ?_
              refine qextr rfl rfl rfl rfl rfl ?_
              refine Hb.back ?_
              refine Hb.one (i := 10) (by kernel_rfl) rfl rfl ?_
              intro w18 BD; have S := S.call BD
              refine stW rfl rfl T82 rfl rfl (one_cons rfl (one_cons rfl (one_cons rfl (one_cons rfl (one_cons rfl (one_cons rfl (one_cons rfl (one_cons ho19.one (one_cons hd19.one one_nil))))))))) S (i := 0) rfl rfl ?_
              intro w19 S
              have SC := (SH.tran hN12 S).pick [false, true, true, true, true] rfl
              refine Hb.on SC ?_
              refine Hb.take (i := 11) SC (fun _ _ S B => S.call B) Pp.body rfl (by kernel_rfl) (by kernel_rfl) (by kernel_rfl) rfl rfl ?_
              refine qasg rfl rfl rfl rfl ?_
              refine Hb.back ?_
              refine Hb.done (by kernel_rfl) ?_
              intro w20 BD; have S := S.call BD
              refine Nrm.code ?_
              refine Run.seq ?_
              refine Run.region ?_
              refine mv1 rfl rfl ?_
              refine geq1 rfl rfl rfl ?_
              refine mv1 rfl rfl ?_
              refine mv rfl rfl rfl rfl ?_
              refine lss rfl rfl rfl rfl rfl rfl ?_
              refine pkA rfl rfl rfl rfl rfl rfl ?_
              refine asg1 rfl rfl ?_
              refine Ro.nil ?_
              refine Nrm.code ?_
              refine Run.seq ?_
              refine Run.region ?_
              refine mv1 rfl rfl ?_
              refine calg (vs := [_]) rfl ⟨⟨_, _, rfl, rfl⟩, trivial⟩ k56 rfl (fun hG => c56 (tcpE s d (turnB (putTL s d t) k)) _ (by have := tcpE_bd s d (turnB (putTL s d t) k); omega)) ?_
              intro w21 B_; have S := S.call B_
              refine neq1 rfl rfl rfl ?_
              refine mv1 rfl rfl ?_
              refine mv rfl rfl rfl rfl ?_
              refine mv rfl rfl rfl rfl ?_
              refine ldW rfl T82 S (i := 1) rfl rfl rfl rfl rfl ?_
              refine ldW rfl T82 S (i := 0) rfl rfl rfl rfl rfl ?_
              refine calg (vs := [_, _]) rfl ⟨⟨_, _, rfl, rfl⟩, ⟨_, _, rfl, rfl⟩, trivial⟩ k63 rfl (fun hG => c63 t (tcpT s d (turnB (putTL s d t) k)) _ _ _ _ _ (hO.now S) (hd.now S) (ho19.now S) (hd19.now S) (by exact hol)) ?_
              intro w22 B_; have S := S.call B_
              refine nt rfl rfl rfl rfl ?_
              refine pkA rfl rfl rfl rfl rfl rfl ?_
              refine pkO rfl rfl rfl rfl rfl rfl ?_
              refine asg1 rfl rfl ?_
              refine Ro.nil ?_
              refine Nrm.code ?_
              refine Run.ret ?_
              refine Rt.one rfl rfl ?_
              have he : putTE s d t = 0 := by omega
              obtain ⟨hlen, hH, hfit, hsm, hE, hT⟩ := tcp_back hs ht hO.byt hd.1 he
              have hne := tcp_turn (k := k) hu12t.1 (by omega) hsm
              exact ⟨by simp [hne], (SS.tran hN12 S).bl⟩
          ·
            intro w12 BD; have S := S.call BD
            refine alc T82 S rfl ?_
            intro b19 w13 hb19 S B_
            have SC := S.pick [false, true, true, true, true] rfl
            refine Hb.on SC ?_
            refine Hb.one (i := 4) (by kernel_rfl) rfl rfl ?_
            intro w14 BD; have S := S.call BD
            refine call (vs := [_, _]) ⟨⟨_, _, rfl, rfl⟩, ⟨_, _, rfl, rfl⟩, trivial⟩ k65 rfl (c65 _ _ k _ (hu12t.now S) (by omega) (by omega)) ?_
            rintro u19 w15 hF
            have S := S.fb hF
            obtain ⟨hu19, S⟩ := S.layBI (i := 0) rfl rfl (turnB_byt hu12t.1)
            obtain ⟨N13, hN13, S_13⟩ := S.reb
            have hud := hud.st S; rw [hN13] at hud
            have hO := hO.st S; rw [hN13] at hO
            have hd := hd.st S; rw [hN13] at hd
            have hg1 := hg1.st S; rw [hN13] at hg1
            have hg2 := hg2.st S; rw [hN13] at hg2
            have hg3 := hg3.st S; rw [hN13] at hg3
            have hu12 := hu12.st S; rw [hN13] at hu12
            have hu12t := hu12t.st S; rw [hN13] at hu12t
            rw [hN13] at hu19
            have SS := SS.tran hN9 S
            have SH := S
            have S := S_13
            have SC := (SH.tran hN13 S).pick [false, true, true, true, true] rfl
            refine Hb.on SC ?_
            refine Hb.one (i := 5) (by kernel_rfl) rfl rfl ?_
            intro w16 BD; have S := S.call BD
            refine call (vs := [_, _, _]) ⟨⟨_, _, rfl, rfl⟩, ⟨_, _, rfl, rfl⟩, ⟨_, _, rfl, rfl⟩, trivial⟩ k62 rfl (c62 s d _ _ _ hs ht (hu19.now S) (hg2.now S) (hg3.now S)) ?_
            rintro _ w17 ⟨o19, d19, vs19, rfl, hF, hw_⟩
            have S := S.fo hF
            have hd19 := (hw_ _ _ hu19).2
            have ho_ := (hw_ _ _ hu19).1
            obtain ⟨ho19, S⟩ := S.layOI (i := 0) rfl rfl ho_
            obtain ⟨N14, hN14, S_14⟩ := S.reb
            have hud := hud.st S; rw [hN14] at hud
            have hO := hO.st S; rw [hN14] at hO
            have hd := hd.st S; rw [hN14] at hd
            have hg1 := hg1.st S; rw [hN14] at hg1
            have hg2 := hg2.st S; rw [hN14] at hg2
            have hg3 := hg3.st S; rw [hN14] at hg3
            have hu12 := hu12.st S; rw [hN14] at hu12
            have hu12t := hu12t.st S; rw [hN14] at hu12t
            have hu19 := hu19.st S; rw [hN14] at hu19
            have hd19 := hd19.st S; rw [hN14] at hd19
            rw [hN14] at ho19
            have SS := SS.tran hN13 S
            have SH := SH.tran hN13 S
            have S := S_14
            have SC := (SH.tran hN14 S).pick [false, true, true, true, true] rfl
            refine Hb.on SC ?_
            refine Hb.take (i := 6) SC (fun _ _ S B => S.call B) Pp.body rfl (by kernel_rfl) (by kernel_rfl) (by kernel_rfl) rfl rfl ?_
            refine qmv rfl rfl rfl rfl ?_
            refine Hb.back ?_
            refine Hb.take (i := 7) SC (fun _ _ S B => S.call B) Pp.body rfl (by kernel_rfl) (by kernel_rfl) (by kernel_rfl) rfl rfl ?_
            refine qextr rfl rfl rfl rfl rfl ?_
            refine Hb.back ?_
            refine Hb.take (i := 8) SC (fun _ _ S B => S.call B) Pp.body rfl (by kernel_rfl) (by kernel_rfl) (by kernel_rfl) rfl rfl ?_
            refine qextr rfl rfl rfl rfl rfl ?_
            refine Hb.back ?_
            refine Hb.one (i := 10) (by kernel_rfl) rfl rfl ?_
            intro w18 BD; have S := S.call BD
            refine stW rfl rfl T82 rfl rfl (one_cons rfl (one_cons rfl (one_cons rfl (one_cons rfl (one_cons rfl (one_cons rfl (one_cons rfl (one_cons ho19.one (one_cons hd19.one one_nil))))))))) S (i := 0) rfl rfl ?_
            intro w19 S
            have SC := (SH.tran hN14 S).pick [false, true, true, true, true] rfl
            refine Hb.on SC ?_
            refine Hb.take (i := 11) SC (fun _ _ S B => S.call B) Pp.body rfl (by kernel_rfl) (by kernel_rfl) (by kernel_rfl) rfl rfl ?_
            refine qasg rfl rfl rfl rfl ?_
            refine Hb.back ?_
            refine Hb.done (by kernel_rfl) ?_
            intro w20 BD; have S := S.call BD
            refine Nrm.code ?_
            refine Run.seq ?_
            refine Run.region ?_
            refine mv1 rfl rfl ?_
            refine geq1 rfl rfl rfl ?_
            refine mv1 rfl rfl ?_
            refine mv rfl rfl rfl rfl ?_
            refine lss rfl rfl rfl rfl rfl rfl ?_
            refine pkA rfl rfl rfl rfl rfl rfl ?_
            refine asg1 rfl rfl ?_
            refine Ro.nil ?_
            refine Nrm.code ?_
            refine Run.seq ?_
            refine Run.region ?_
            refine mv1 rfl rfl ?_
            refine calg (vs := [_]) rfl ⟨⟨_, _, rfl, rfl⟩, trivial⟩ k56 rfl (fun hG => c56 (tcpE s d (turnB (putTL s d t) k)) _ (by have := tcpE_bd s d (turnB (putTL s d t) k); omega)) ?_
            intro w21 B_; have S := S.call B_
            refine neq1 rfl rfl rfl ?_
            refine mv1 rfl rfl ?_
            refine mv rfl rfl rfl rfl ?_
            refine mv rfl rfl rfl rfl ?_
            refine ldW rfl T82 S (i := 1) rfl rfl rfl rfl rfl ?_
            refine ldW rfl T82 S (i := 0) rfl rfl rfl rfl rfl ?_
            refine calg (vs := [_, _]) rfl ⟨⟨_, _, rfl, rfl⟩, ⟨_, _, rfl, rfl⟩, trivial⟩ k63 rfl (fun hG => c63 t (tcpT s d (turnB (putTL s d t) k)) _ _ _ _ _ (hO.now S) (hd.now S) (ho19.now S) (hd19.now S) (by exact hol)) ?_
            intro w22 B_; have S := S.call B_
            refine nt rfl rfl rfl rfl ?_
            refine pkA rfl rfl rfl rfl rfl rfl ?_
            refine pkO rfl rfl rfl rfl rfl rfl ?_
            refine asg1 rfl rfl ?_
            refine Ro.nil ?_
            refine Nrm.code ?_
            refine Run.ret ?_
            refine Rt.one rfl rfl ?_
            have he : putTE s d t = 0 := by omega
            obtain ⟨hlen, hH, hfit, hsm, hE, hT⟩ := tcp_back hs ht hO.byt hd.1 he
            have hne := tcp_turn (k := k) hu12t.1 (by omega) hsm
            exact ⟨by simp [hne], (SS.tran hN14 S).bl⟩

end Go.Proofs.YtkahmepenjhcpaaDoor.W

/- What the reading of an argument gives: numbers, bytes, options, addresses, datagrams. No statement of the seat is proved here. -/
namespace Go.Proofs.YtkahmepenjhcpaaDoor.W
open Go
set_option linter.unusedVariables false
set_option linter.unusedSimpArgs false

section
variable {H : Type} {enc : TypeId × Value → H} {W : World} {hd : Bool} {n : Nat} {cs : List Value} {x : DataW H × List MemPlace}

theorem wf_i64 {k : Int} (h : (Lit.int .i64 k).wf = true) : inI k := by
  have := h
  simp [Lit.wf, IntKind.min, IntKind.max, IntKind.signed, IntKind.bits] at this
  unfold inI; omega
theorem wf_u8 {k : Int} (h : (Lit.int .u8 k).wf = true) : 0 ≤ k ∧ k < 256 := by
  have := h
  simp [Lit.wf, IntKind.min, IntKind.max, IntKind.signed, IntKind.bits] at this
  omega

theorem rd_int (h : DataW.trod enc Tryd.prog W 0 (fun _ => true) hd n 3 cs = some x) : ∃ k, cs = [i64 k] ∧ inI k := by
  obtain ⟨k, h1, _, h2⟩ := DataW.trod_int Tryd.underlying3 h
  exact ⟨k, h1, wf_i64 h2⟩
theorem rd_u8 (h : DataW.trod enc Tryd.prog W 0 (fun _ => true) hd n 5 cs = some x) : ∃ k, cs = [u8 k] ∧ 0 ≤ k ∧ k < 256 := by
  obtain ⟨k, h1, _, h2⟩ := DataW.trod_int Tryd.underlying5 h
  exact ⟨k, h1, wf_u8 h2⟩
theorem rd_bool (h : DataW.trod enc Tryd.prog W 0 (fun _ => true) hd n 4 cs = some x) : ∃ b, cs = [.bool b] := by
  obtain ⟨b, h1, _⟩ := DataW.trod_bool Tryd.underlying4 h
  exact ⟨b, h1⟩

theorem cell_spot {w : World} {a : Addr} {v : Value} (h : w.cell? a = some v) : a.spot = none := by
  cases hs : a.spot with
  | none => rfl
  | some s =>
    obtain ⟨b, o, sp⟩ := a
    simp only at hs
    subst hs
    simp only [World.cell?] at h
    split at h <;> simp at h

theorem cells_get {w : World} {a : Addr} {m : Nat} {cs : List Value} (h : w.cells? 0 a m = some cs) : cs.length = m ∧ ∀ i, i < m → w.cell? (a.add i) = cs[i]? := by
  unfold World.cells? at h
  rw [if_pos (Nat.zero_le _)] at h
  refine ⟨by simpa using mapM_some_length h, fun i hi => ?_⟩
  exact mapM_some_get h i i (by simp [hi])

theorem bulk1 (d : DataW H) : 1 ≤ Rows.uptoBulk d := by
  cases d with
  | lit l => cases l <;> simp [Rows.uptoBulk]
  | _ => simp [Rows.uptoBulk]
theorem bulk_len : ∀ l : List (DataW H), l.length ≤ Rows.uptoBulkAll l
  | [] => by simp [Rows.uptoBulkAll]
  | d :: l => by have := bulk1 d; have := bulk_len l; simp only [Rows.uptoBulkAll, List.length_cons]; omega
theorem bulk_mem {d : DataW H} : ∀ {l : List (DataW H)}, d ∈ l → Rows.uptoBulk d ≤ Rows.uptoBulkAll l
  | [], h => by simp at h
  | x :: l, h => by
    simp only [Rows.uptoBulkAll]
    rcases List.mem_cons.1 h with e | e
    · rw [e]; omega
    · have := bulk_mem e; omega
theorem bulk_slice (a b : List (DataW H)) : Rows.uptoBulkAll a + 1 ≤ Rows.uptoBulk (.slice a b) := by simp only [Rows.uptoBulk]; omega
theorem bulk_agg (a : List (DataW H)) : Rows.uptoBulkAll a ≤ Rows.uptoBulk (.agg a) := by simp only [Rows.uptoBulk]; omega

/-- bytes, read -/
theorem rd_bytes {v : Value} (h : DataW.trod enc Tryd.prog W 0 (fun _ => true) hd n 26 [v] = some x) : ∃ l, BS [] W v l ∧ l.length ≤ Rows.uptoBulk x.1 := by
  rcases Go.Deep.open_slice Tryd.underlying26 h with ⟨h1, _⟩ | ⟨a, len, cap, m, k, D, Pl, h1, _, hlc, hcm, hm, hxe, hel⟩
  · simp only [List.cons.injEq, and_true] at h1
    subst h1
    exact ⟨[], BS.nil _ _, by simp⟩
  · simp only [List.cons.injEq, and_true] at h1
    subst h1
    simp only [if_true] at hm
    subst hm
    have hx : ∀ i, ∃ b, i < m → W.cell? (a.add i) = some (u8 b) ∧ 0 ≤ b ∧ b < 256 := by
      intro i
      by_cases hi : i < m
      · obtain ⟨cs', g1, g2⟩ := hel i hi
        rw [cells5, Nat.mul_one] at g1
        obtain ⟨b, rfl, hb⟩ := rd_u8 g2
        have h0 := (cells_get g1).2 0 (by omega)
        have hz : (a.add i).add 0 = a.add i := by simp [Addr.add]
        rw [hz] at h0
        exact ⟨b, fun _ => ⟨h0, hb⟩⟩
      · exact ⟨0, fun h => absurd h hi⟩
    obtain ⟨f, hf⟩ := Classical.axiomOfChoice hx
    refine ⟨(List.range len).map f, ⟨?_, by simp, some a, m, by simp, by simpa using hlc, (fun e => nomatch e), ?_⟩, by rw [hxe]; have h1 := bulk_slice ((List.range len).map D) ((List.range (m - len)).map fun j => D (len + j)); have h2 := bulk_len ((List.range len).map D); simp only [List.length_map, List.length_range] at h2 ⊢; omega⟩
    · intro b hb
      obtain ⟨i, hi, rfl⟩ := List.mem_map.1 hb
      have := (hf i (by have := List.mem_range.1 hi; omega)).2
      exact this
    · intro i hi
      simp only [List.length_map, List.length_range] at hi
      have h1 := (hf i (by omega)).1
      have hs2 : a.spot = none := by
        have h0 := (hf 0 (by omega)).1
        rw [show a.add 0 = a from by simp [Addr.add]] at h0
        exact cell_spot h0
      refine ⟨a, rfl, hs2, by simp, ?_⟩
      have e : (⟨a.block, a.off + i, none⟩ : Addr) = a.add i := by
        obtain ⟨b, o, sp⟩ := a
        simp only at hs2
        subst hs2; exact (add_new b o i).symm
      rw [e, h1]
      simp

theorem rd_field {t : TypeId} {fs : Array Field} (ht : Tryd.prog.underlying t = some (.struct fs)) (h : DataW.trod enc Tryd.prog W 0 (fun _ => true) hd n t cs = some x) (i : Nat) {ft : TypeId} {off sz : Nat}
    (hf : (fs[i]?).map (fun f => (f.type, f.offset)) = some (ft, off)) (hc : Tryd.prog.cellsOf ft = sz) :
    ∃ y k, DataW.trod enc Tryd.prog W 0 (fun _ => true) hd k ft ((cs.drop off).take sz) = some y ∧ Rows.uptoBulk y.1 ≤ Rows.uptoBulk x.1 := by
  obtain ⟨xs, k, _, hx, _, hl, hg⟩ := DataW.trod_struct ht h
  cases hff : fs[i]? with
  | none => rw [hff] at hf; simp at hf
  | some f =>
    rw [hff] at hf
    simp only [Option.map_some, Option.some.injEq, Prod.mk.injEq] at hf
    obtain ⟨rfl, rfl⟩ := hf
    subst hc
    have hi : i < xs.length := by rw [hl]; exact (Array.getElem?_eq_some_iff.1 hff).1
    have h1 := hg i f hff
    rw [List.getElem?_eq_getElem hi] at h1
    refine ⟨xs[i], k, h1, ?_⟩
    rw [hx]
    have h2 := bulk_agg (xs.map (·.1))
    have h3 := bulk_mem (d := xs[i].1) (l := xs.map (·.1)) (List.mem_map_of_mem (List.getElem_mem hi))
    exact Nat.le_trans h3 h2
theorem rd_len {t : TypeId} {fs : Array Field} (ht : Tryd.prog.underlying t = some (.struct fs)) (h : DataW.trod enc Tryd.prog W 0 (fun _ => true) hd n t cs = some x) : cs.length = Tryd.prog.cellsOf t := by
  obtain ⟨xs, k, _, hx, hl, _⟩ := DataW.trod_struct ht h; exact hl

theorem cells93 : Tryd.prog.cellsOf 93 = 2 := by kernel_rfl
theorem cells22 : Tryd.prog.cellsOf 22 = 16 := by kernel_rfl
theorem cells24 : Tryd.prog.cellsOf 24 = 17 := by kernel_rfl
theorem cells28 : Tryd.prog.cellsOf 28 = 43 := by kernel_rfl
theorem cells3 : Tryd.prog.cellsOf 3 = 1 := by kernel_rfl
theorem cells4 : Tryd.prog.cellsOf 4 = 1 := by kernel_rfl
theorem cells26 : Tryd.prog.cellsOf 26 = 1 := by kernel_rfl
theorem cells25 : Tryd.prog.cellsOf 25 = 1 := by kernel_rfl

theorem take1 {l : List Value} {i : Nat} {v : Value} (h : (l.drop i).take 1 = [v]) : l[i]? = some v := by
  have := congrArg (fun l : List Value => l[0]?) h
  simpa [List.getElem?_take, List.getElem?_drop] using this

/-- an address, read -/
theorem rd_ip (h : DataW.trod enc Tryd.prog W 0 (fun _ => true) hd n 24 cs = some x) : ∃ X : IP, cs = encIP X ∧ X.ok := by
  have hl := rd_len Tryd.underlying24 h
  rw [cells24] at hl
  obtain ⟨y0, k0, g0, _⟩ := rd_field Tryd.underlying24 h 0 (ft := 3) (off := 0) rfl cells3
  obtain ⟨y1, k1, g1, _⟩ := rd_field Tryd.underlying24 h 1 (ft := 22) (off := 1) rfl cells22
  obtain ⟨v, e0, hv⟩ := rd_int g0
  obtain ⟨xs, m, _, _, hl1, hl2, hg⟩ := DataW.trod_array Tryd.underlying22 g1
  have hx : ∀ i, ∃ b, i < 16 → cs[1 + i]? = some (u8 b) ∧ 0 ≤ b ∧ b < 256 := by
    intro i
    by_cases hi : i < 16
    · have g := hg i hi
      rw [List.getElem?_eq_getElem (by omega), cells5, Nat.mul_one] at g
      obtain ⟨b, e, hb⟩ := rd_u8 g
      refine ⟨b, fun _ => ⟨?_, hb⟩⟩
      have e2 := take1 e
      rw [List.getElem?_take_of_lt hi, List.getElem?_drop] at e2
      exact e2
    · exact ⟨0, fun h => absurd h hi⟩
  obtain ⟨f, hf⟩ := Classical.axiomOfChoice hx
  refine ⟨⟨v, f⟩, ?_, fun i hi => (hf i hi).2, hv⟩
  apply List.ext_getElem?
  intro i
  rcases Nat.lt_or_ge i 17 with hi | hi
  · cases i with
    | zero => rw [take1 e0]; rfl
    | succ i =>
      have h1 := encIP_at ⟨v, f⟩ i (by omega)
      rw [show i + 1 = 1 + i from by omega, h1]
      exact (hf i (by omega)).1
  · rw [List.getElem?_eq_none (by omega), List.getElem?_eq_none (by simp [encIP]; omega)]

/-- an option, read -/
theorem rd_opt (h : DataW.trod enc Tryd.prog W 0 (fun _ => true) hd n 93 cs = some x) : ∃ k v l, cs = [i64 k, v] ∧ BS [] W v l ∧ inI k ∧ l.length ≤ Rows.uptoBulk x.1 := by
  have hl := rd_len Tryd.underlying93 h
  rw [cells93] at hl
  obtain ⟨y0, k0, g0, _⟩ := rd_field Tryd.underlying93 h 0 (ft := 3) (off := 0) rfl cells3
  obtain ⟨y1, k1, g1, hb⟩ := rd_field Tryd.underlying93 h 1 (ft := 26) (off := 1) rfl cells26
  rcases cs with _ | ⟨a, _ | ⟨b, _ | ⟨c, cs⟩⟩⟩ <;> simp at hl
  obtain ⟨k, e0, hk⟩ := rd_int g0
  simp only [List.drop_zero, List.take_succ_cons, List.take_zero, List.cons.injEq, and_true] at e0
  simp only [List.drop_succ_cons, List.drop_zero, List.take_succ_cons, List.take_zero] at g1
  obtain ⟨l, hB, hl2⟩ := rd_bytes g1
  exact ⟨k, b, l, by rw [e0], hB, hk, by omega⟩

theorem BSs.mk {N : List Nat} {w : World} (F : Nat → Value) (G : Nat → List Int) : ∀ (l : List Nat), (∀ i ∈ l, BS N w (F i) (G i)) → BSs N w (l.map F) (l.map G)
  | [], _ => trivial
  | i :: l, h => ⟨h i (by simp), BSs.mk F G l (fun j hj => h j (by simp [hj]))⟩

/-- options, read -/
theorem rd_opts {v : Value} (h : DataW.trod enc Tryd.prog W 0 (fun _ => true) hd n 25 [v] = some x) : ∃ os, OS [] W v os ∧ os.length ≤ Rows.uptoBulk x.1 ∧ ∀ o ∈ os, inI o.kind ∧ o.data.length ≤ Rows.uptoBulk x.1 := by
  rcases Go.Deep.open_slice Tryd.underlying25 h with ⟨h1, _⟩ | ⟨a, len, cap, m, k, D, Pl, h1, _, hlc, hcm, hm, hxe, hel⟩
  · simp only [List.cons.injEq, and_true] at h1
    subst h1
    exact ⟨[], OS.nil _ _, by simp, by simp⟩
  · simp only [List.cons.injEq, and_true] at h1
    subst h1
    simp only [if_true] at hm
    subst hm
    have hx : ∀ i, ∃ q : Int × Value × List Int, i < m → W.cell? (a.add (i * 2)) = some (i64 q.1) ∧ W.cell? (a.add (i * 2 + 1)) = some q.2.1 ∧ BS [] W q.2.1 q.2.2 ∧ inI q.1 ∧ q.2.2.length ≤ Rows.uptoBulk (D i) := by
      intro i
      by_cases hi : i < m
      · obtain ⟨cs', g1, g2⟩ := hel i hi
        rw [cells93] at g1
        obtain ⟨k, v, l, rfl, hB, hk, hl⟩ := rd_opt g2
        have h0 := (cells_get g1).2 0 (by omega)
        have h1 := (cells_get g1).2 1 (by omega)
        have e0 : (a.add (i * 2)).add 0 = a.add (i * 2) := by simp [Addr.add]
        have e1 : (a.add (i * 2)).add 1 = a.add (i * 2 + 1) := by
          unfold Addr.add
          by_cases hz : i * 2 = 0
          · simp [hz]
          · simp [hz]; omega
        rw [e0] at h0
        rw [e1] at h1
        exact ⟨(k, v, l), fun _ => ⟨h0, h1, hB, hk, hl⟩⟩
      · exact ⟨(0, undef, []), fun h => absurd h hi⟩
    obtain ⟨f, hf⟩ := Classical.axiomOfChoice hx
    have hbulk : ∀ i, i < len → Rows.uptoBulk (D i) ≤ Rows.uptoBulk x.1 := by
      intro i hi
      rw [hxe]
      have h1 := bulk_slice ((List.range len).map D) ((List.range (m - len)).map fun j => D (len + j))
      have h2 := bulk_mem (d := D i) (l := (List.range len).map D) (List.mem_map_of_mem (List.mem_range.2 hi))
      exact Nat.le_trans h2 (Nat.le_trans (Nat.le_succ _) h1)
    have hC : ∀ (r : List Nat), optC (r.map fun i => (⟨(f i).1, (f i).2.2⟩ : Opt)) (r.map fun i => (f i).2.1) = (r.map fun i => [i64 (f i).1, (f i).2.1]).flatten := by
      intro r
      induction r with
      | nil => rfl
      | cons i r ih => simp only [List.map_cons, optC, List.flatten_cons, ih]; rfl
    have hlenC : ∀ (r : List Nat), ((r.map fun i => [i64 (f i).1, (f i).2.1]).flatten).length = r.length * 2 := by
      intro r
      induction r with
      | nil => rfl
      | cons i r ih => simp only [List.map_cons, List.flatten_cons, List.length_append, ih, List.length_cons, List.length_nil]; omega
    refine ⟨(List.range len).map fun i => ⟨(f i).1, (f i).2.2⟩, ⟨(List.range len).map fun i => (f i).2.1, ?_, ?_⟩, ?_, ?_⟩
    · rw [hC]
      refine ⟨by rw [hlenC]; simp, some a, m, by simp, by simpa using hlc, (fun e => nomatch e), ?_⟩
      intro j hj
      rw [hlenC, List.length_range] at hj
      have hs2 : a.spot = none := by
        have h0 := (hf 0 (by omega)).1
        rw [show a.add (0 * 2) = a from by simp [Addr.add]] at h0
        exact cell_spot h0
      refine ⟨a, rfl, hs2, by simp, ?_⟩
      have e : (⟨a.block, a.off + j, none⟩ : Addr) = a.add j := by
        obtain ⟨b, o, sp⟩ := a
        simp only at hs2
        subst hs2; exact (add_new b o j).symm
      have hget : ∀ (r : List Nat) (j : Nat), j < r.length * 2 → ((r.map fun i => [i64 (f i).1, (f i).2.1]).flatten)[j]? = if j % 2 = 0 then (r[j / 2]?).map (fun i => i64 (f i).1) else (r[j / 2]?).map (fun i => (f i).2.1) := by
        intro r
        induction r with
        | nil => intro j hj; simp at hj
        | cons i r ih =>
          intro j hj
          match j with
          | 0 => simp
          | 1 => simp
          | j + 2 =>
            have e1 : (j + 2) % 2 = j % 2 := by omega
            have e2 : (j + 2) / 2 = j / 2 + 1 := by omega
            simp only [List.map_cons, List.flatten_cons, List.cons_append, List.nil_append, List.getElem?_cons_succ, e1, e2]
            exact ih j (by simp only [List.length_cons] at hj; omega)
      have hg := hget (List.range len) j (by simpa using hj)
      have hr : (List.range len)[j / 2]? = some (j / 2) := by rw [List.getElem?_range (by omega)]
      rw [hr] at hg
      rw [e, ← List.getElem?_eq_getElem, hg]
      have hq := hf (j / 2) (by omega)
      rcases Nat.mod_two_eq_zero_or_one j with h0 | h0
      · rw [if_pos h0, show j = j / 2 * 2 from by omega, hq.1]
        simp
      · rw [if_neg (by omega)]
        have : a.add j = a.add (j / 2 * 2 + 1) := by congr 1; omega
        rw [this, hq.2.1]
        rfl
    · unfold OSs
      rw [List.map_map]
      exact BSs.mk _ _ _ (fun i hi => (hf i (by have := List.mem_range.1 hi; omega)).2.2.1)
    · rw [hxe]
      have h1 := bulk_slice ((List.range len).map D) ((List.range (m - len)).map fun j => D (len + j))
      have h2 := bulk_len ((List.range len).map D)
      simp only [List.length_map, List.length_range] at h2 ⊢; omega
    · intro o ho
      obtain ⟨i, hi, rfl⟩ := List.mem_map.1 ho
      have hi' := List.mem_range.1 hi
      have hq := hf i (by omega)
      exact ⟨hq.2.2.2.1, Nat.le_trans hq.2.2.2.2 (hbulk i hi')⟩
end
end Go.Proofs.YtkahmepenjhcpaaDoor.W

/- What the reading of a datagram gives. No statement of the seat is proved here. -/
namespace Go.Proofs.YtkahmepenjhcpaaDoor.W
open Go
set_option linter.unusedVariables false
set_option linter.unusedSimpArgs false

section
variable {H : Type} {enc : TypeId × Value → H} {W : World} {hd : Bool} {n : Nat} {cs : List Value} {x : DataW H × List MemPlace}

theorem cut_at {l : List Value} {a k : Nat} {p : List Value} (h : (l.drop a).take k = p) : l.drop a = p ++ l.drop (a + k) := by
  rw [← h, ← List.drop_drop, List.take_append_drop]

/-- a datagram, read -/
theorem rd_ip4 (h : DataW.trod enc Tryd.prog W 0 (fun _ => true) hd n 28 cs = some x) : ∃ (a : Ip4) (o d : Value), cs = encIp4 a o d ∧ OS [] W o a.opts ∧ BS [] W d a.data ∧ a.ok ∧ a.opts.length ≤ Rows.uptoBulk x.1 ∧ (∀ p ∈ a.opts, p.data.length ≤ Rows.uptoBulk x.1) ∧ a.data.length ≤ Rows.uptoBulk x.1 := by
  have hl := rd_len Tryd.underlying28 h
  rw [cells28] at hl
  obtain ⟨y0, k0, g0, b0⟩ := rd_field Tryd.underlying28 h 0 (ft := 3) (off := 0) rfl cells3
  obtain ⟨y1, k1, g1, b1⟩ := rd_field Tryd.underlying28 h 1 (ft := 3) (off := 1) rfl cells3
  obtain ⟨y2, k2, g2, b2⟩ := rd_field Tryd.underlying28 h 2 (ft := 4) (off := 2) rfl cells4
  obtain ⟨y3, k3, g3, b3⟩ := rd_field Tryd.underlying28 h 3 (ft := 4) (off := 3) rfl cells4
  obtain ⟨y4, k4, g4, b4⟩ := rd_field Tryd.underlying28 h 4 (ft := 3) (off := 4) rfl cells3
  obtain ⟨y5, k5, g5, b5⟩ := rd_field Tryd.underlying28 h 5 (ft := 3) (off := 5) rfl cells3
  obtain ⟨y6, k6, g6, b6⟩ := rd_field Tryd.underlying28 h 6 (ft := 3) (off := 6) rfl cells3
  obtain ⟨y7, k7, g7, b7⟩ := rd_field Tryd.underlying28 h 7 (ft := 24) (off := 7) rfl cells24
  obtain ⟨y8, k8, g8, b8⟩ := rd_field Tryd.underlying28 h 8 (ft := 24) (off := 24) rfl cells24
  obtain ⟨y9, k9, g9, b9⟩ := rd_field Tryd.underlying28 h 9 (ft := 25) (off := 41) rfl cells25
  obtain ⟨ya, ka, ga, ba⟩ := rd_field Tryd.underlying28 h 10 (ft := 26) (off := 42) rfl cells26
  obtain ⟨v0, e0, i0⟩ := rd_int g0
  obtain ⟨v1, e1, i1⟩ := rd_int g1
  obtain ⟨v2, e2⟩ := rd_bool g2
  obtain ⟨v3, e3⟩ := rd_bool g3
  obtain ⟨v4, e4, i4⟩ := rd_int g4
  obtain ⟨v5, e5, i5⟩ := rd_int g5
  obtain ⟨v6, e6, i6⟩ := rd_int g6
  obtain ⟨v7, e7, i7⟩ := rd_ip g7
  obtain ⟨v8, e8, i8⟩ := rd_ip g8
  have h9 : ∃ o, (cs.drop 41).take 1 = [o] := by
    rcases hc : cs.drop 41 with _ | ⟨o, r⟩
    · have := congrArg List.length hc; simp at this; omega
    · exact ⟨o, rfl⟩
  have ha : ∃ o, (cs.drop 42).take 1 = [o] := by
    rcases hc : cs.drop 42 with _ | ⟨o, r⟩
    · have := congrArg List.length hc; simp at this; omega
    · exact ⟨o, rfl⟩
  obtain ⟨o, e9⟩ := h9
  obtain ⟨d, ea⟩ := ha
  rw [e9] at g9
  rw [ea] at ga
  obtain ⟨os, hO, ho1, ho2⟩ := rd_opts g9
  obtain ⟨l, hB, hl2⟩ := rd_bytes ga
  refine ⟨⟨v0, v1, v2, v3, v4, v5, v6, v7, v8, os, l⟩, o, d, ?_, hO, hB, ⟨i0, i1, i4, i5, i6, i7, i8, fun p hp => (ho2 p hp).1⟩, by show os.length ≤ _; omega, fun p hp => by have := (ho2 p hp).2; omega, by show l.length ≤ _; omega⟩
  have c0 := cut_at e0
  rw [List.drop_zero] at c0
  rw [c0, cut_at e1, cut_at e2, cut_at e3, cut_at e4, cut_at e5, cut_at e6, cut_at e7, cut_at e8, cut_at e9, cut_at ea, List.drop_eq_nil_of_le (by omega)]
  simp [encIp4]
end
end Go.Proofs.YtkahmepenjhcpaaDoor.W

/- What the reading of lists of parts, of UDP datagrams and of segments gives. No statement of the seat is proved here. -/
namespace Go.Proofs.YtkahmepenjhcpaaDoor.W
open Go
set_option linter.unusedVariables false
set_option linter.unusedSimpArgs false

theorem cells_slice {P : Program} {w : World} {r : Reach} {base : Nat} {t e : TypeId} {v : Value} (ht : P.underlying t = some (.slice e)) (h : Value.okWide P w r base t v) : v.cells.toList = [v] := by
  obtain ⟨a, l, c, h1⟩ := Go.WideShapes.okWide_slice ht h
  rw [h1]; rfl
theorem cells_int {P : Program} {w : World} {r : Reach} {base : Nat} {t : TypeId} {k : IntKind} {v : Value} (ht : P.underlying t = some (.int k)) (h : Value.okWide P w r base t v) : v.cells.toList = [v] := by
  obtain ⟨n, h1⟩ := Go.WideShapes.okWide_int ht h
  rw [h1]; rfl
theorem agg_of {v : Value} {l : List Value} (h : v.cells.toList = l) (hl : 2 ≤ l.length) : v = .agg l.toArray := by
  cases v <;> first
    | (exfalso; subst h; simp [Value.cells] at hl; done)
    | (simp only [Value.cells] at h; rw [← h])
theorem flat_all {α : Type} {sz : Nat} : ∀ {cs : List (List α)}, (∀ c ∈ cs, c.length = sz) → cs.flatten.length = cs.length * sz
  | [], _ => by simp
  | c :: cs, h => by
    have hc := h c (by simp)
    have ih := flat_all (cs := cs) (sz := sz) (fun x hx => h x (by simp [hx]))
    simp only [List.flatten_cons, List.length_append, List.length_cons, ih, hc, Nat.add_mul, Nat.one_mul]
    omega
theorem flat_get {α : Type} {sz : Nat} : ∀ {cs : List (List α)} {i r : Nat}, (∀ c ∈ cs, c.length = sz) → i < cs.length → r < sz → cs.flatten[i * sz + r]? = (cs.getD i [])[r]?
  | [], i, _, _, h, _ => by simp at h
  | c :: cs, 0, r, h, _, hr => by
    have hc := h c (by simp)
    simp only [List.flatten_cons, Nat.zero_mul, Nat.zero_add, List.getD_cons_zero]
    rw [List.getElem?_append_left (by omega)]
  | c :: cs, i + 1, r, h, hi, hr => by
    have hc := h c (by simp)
    have e : (i + 1) * sz + r = c.length + (i * sz + r) := by rw [Nat.add_mul, Nat.one_mul, hc]; omega
    simp only [List.flatten_cons, List.getD_cons_succ]
    rw [e, List.getElem?_append_right (by omega), Nat.add_sub_cancel_left]
    exact flat_get (fun x hx => h x (by simp [hx])) (by simpa using hi) hr
section
variable {H : Type} {enc : TypeId × Value → H} {W : World} {hd : Bool} {n : Nat} {cs : List Value} {x : DataW H × List MemPlace}

theorem rd_slice {T E sz : Nat} (hu : Tryd.prog.underlying T = some (.slice E)) (hc : Tryd.prog.cellsOf E = sz) (hsz : 0 < sz) {v : Value} (h : DataW.trod enc Tryd.prog W 0 (fun _ => true) hd n T [v] = some x) :
    ∃ (cs : List (List Value)), Sl [] W sz v cs.length cs.flatten ∧ (∀ c ∈ cs, c.length = sz) ∧ cs.length ≤ Rows.uptoBulk x.1 ∧ ∀ i, i < cs.length → ∃ y k, DataW.trod enc Tryd.prog W 0 (fun _ => true) hd k E (cs.getD i []) = some y ∧ Rows.uptoBulk y.1 ≤ Rows.uptoBulk x.1 := by
  rcases Go.Deep.open_slice hu h with ⟨h1, _⟩ | ⟨a, len, cap, m, k, D, Pl, h1, _, hlc, hcm, hm, hxe, hel⟩
  · simp only [List.cons.injEq, and_true] at h1
    subst h1
    exact ⟨[], ⟨by simp, none, 0, rfl, Nat.le_refl _, fun _ => rfl, Rd.self rfl⟩, by simp, by simp, fun i hi => by simp at hi⟩
  · simp only [List.cons.injEq, and_true] at h1
    subst h1
    simp only [if_true] at hm
    subst hm
    rw [hc] at hel
    have hx : ∀ i, ∃ q : List Value, i < m → W.cells? 0 (a.add (i * sz)) sz = some q ∧ DataW.trod enc Tryd.prog W 0 (fun _ => true) hd k E q = some (D i, Pl i) := by
      intro i
      by_cases hi : i < m
      · obtain ⟨q, g1, g2⟩ := hel i hi; exact ⟨q, fun _ => ⟨g1, g2⟩⟩
      · exact ⟨[], fun h => absurd h hi⟩
    obtain ⟨f, hf⟩ := Classical.axiomOfChoice hx
    have hall : ∀ c ∈ (List.range len).map f, c.length = sz := by
      intro c hcm
      obtain ⟨i, hi, rfl⟩ := List.mem_map.1 hcm
      have hi' := List.mem_range.1 hi
      exact (cells_get (hf i (by omega)).1).1
    have hlen : ((List.range len).map f).length = len := by simp
    refine ⟨(List.range len).map f, ⟨flat_all hall, some a, m, by rw [hlen], by rw [hlen]; exact hlc, (fun e => nomatch e), ?_⟩, hall, ?_, ?_⟩
    · intro j hj
      rw [flat_all hall, hlen] at hj
      have hlp : 0 < len := by rcases Nat.eq_zero_or_pos len with h0 | h0; (rw [h0, Nat.zero_mul] at hj; omega); exact h0
      have hs2 : a.spot = none := by
        have h0 := (cells_get (hf 0 (by omega)).1).2 0 hsz
        rw [Nat.zero_mul, show (a.add 0).add 0 = a from by simp [Addr.add]] at h0
        have hl0 := (cells_get (hf 0 (by omega)).1).1
        rw [List.getElem?_eq_getElem (by omega)] at h0
        exact cell_spot h0
      refine ⟨a, rfl, hs2, by simp, ?_⟩
      have hq : j / sz < len := by rw [Nat.div_lt_iff_lt_mul hsz]; exact hj
      have hr : j % sz < sz := Nat.mod_lt _ hsz
      have hc1 := (cells_get (hf (j / sz) (by omega)).1).2 (j % sz) hr
      have ej : j / sz * sz + j % sz = j := Nat.div_add_mod' j sz
      have e : (⟨a.block, a.off + j, none⟩ : Addr) = (a.add (j / sz * sz)).add (j % sz) := by
        rw [add_addr hs2, add_new, Nat.add_assoc, ej]
      have hfg := flat_get (cs := (List.range len).map f) (i := j / sz) (r := j % sz) hall (by rw [hlen]; exact hq) hr
      rw [ej] at hfg
      rw [e, hc1, ← List.getElem?_eq_getElem, hfg]
      simp [List.getD_eq_getElem?_getD, List.getElem?_map, List.getElem?_range hq]
    · rw [hxe, hlen]
      have h1 := bulk_slice ((List.range len).map D) ((List.range (m - len)).map fun j => D (len + j))
      have h2 := bulk_len ((List.range len).map D)
      simp only [List.length_map, List.length_range] at h2 ⊢; omega
    · intro i hi
      rw [hlen] at hi
      refine ⟨(D i, Pl i), k, ?_, ?_⟩
      · have := (hf i (by omega)).2
        rw [← this]
        simp [List.getD_eq_getElem?_getD, List.getElem?_map, List.getElem?_range hi]
      · rw [hxe]
        have h1 := bulk_slice ((List.range len).map D) ((List.range (m - len)).map fun j => D (len + j))
        have h2 := bulk_mem (d := D i) (l := (List.range len).map D) (List.mem_map_of_mem (List.mem_range.2 hi))
        exact Nat.le_trans h2 (Nat.le_trans (Nat.le_succ _) h1)

theorem take_one {a : Nat} (h : a < cs.length) : ∃ o, (cs.drop a).take 1 = [o] := by
  rcases hc : cs.drop a with _ | ⟨o, r⟩
  · have := congrArg List.length hc; simp at this; omega
  · exact ⟨o, rfl⟩
theorem cells73 : Tryd.prog.cellsOf 73 = 4 := by kernel_rfl
theorem cells82 : Tryd.prog.cellsOf 82 = 9 := by kernel_rfl
theorem cells67 : Tryd.prog.cellsOf 67 = 2 := by kernel_rfl
def Udp.ok (u : Udp) : Prop := inI u.sport ∧ inI u.dport
def Tcp.ok (t : Tcp) : Prop := inI t.sport ∧ inI t.dport ∧ inI t.seq ∧ inI t.ack ∧ inI t.flags ∧ inI t.win ∧ inI t.urg ∧ ∀ o ∈ t.opts, inI o.kind
/-- a UDP datagram, read -/
theorem rd_udp (h : DataW.trod enc Tryd.prog W 0 (fun _ => true) hd n 73 cs = some x) : ∃ (u : Udp) (d : Value), cs = encUdp u d ∧ BS [] W d u.data ∧ u.ok ∧ u.data.length ≤ Rows.uptoBulk x.1 := by
  have hl := rd_len Tryd.underlying73 h
  rw [cells73] at hl
  obtain ⟨y0, k0, g0, b0⟩ := rd_field Tryd.underlying73 h 0 (ft := 3) (off := 0) rfl cells3
  obtain ⟨y1, k1, g1, b1⟩ := rd_field Tryd.underlying73 h 1 (ft := 3) (off := 1) rfl cells3
  obtain ⟨y2, k2, g2, b2⟩ := rd_field Tryd.underlying73 h 2 (ft := 4) (off := 2) rfl cells4
  obtain ⟨y3, k3, g3, b3⟩ := rd_field Tryd.underlying73 h 3 (ft := 26) (off := 3) rfl cells26
  obtain ⟨v0, e0, i0⟩ := rd_int g0
  obtain ⟨v1, e1, i1⟩ := rd_int g1
  obtain ⟨v2, e2⟩ := rd_bool g2
  obtain ⟨d, ed⟩ := take_one (cs := cs) (a := 3) (by omega)
  rw [ed] at g3
  obtain ⟨l, hB, hl2⟩ := rd_bytes g3
  refine ⟨⟨v0, v1, v2, l⟩, d, ?_, hB, ⟨i0, i1⟩, by show l.length ≤ _; omega⟩
  have c0 := cut_at e0
  rw [List.drop_zero] at c0
  rw [c0, cut_at e1, cut_at e2, cut_at ed, List.drop_eq_nil_of_le (by omega)]
  simp [encUdp]
/-- a segment, read -/
theorem rd_tcp (h : DataW.trod enc Tryd.prog W 0 (fun _ => true) hd n 82 cs = some x) : ∃ (t : Tcp) (o d : Value), cs = encTcp t o d ∧ OS [] W o t.opts ∧ BS [] W d t.data ∧ t.ok ∧ t.opts.length ≤ Rows.uptoBulk x.1 ∧ (∀ p ∈ t.opts, p.data.length ≤ Rows.uptoBulk x.1) ∧ t.data.length ≤ Rows.uptoBulk x.1 := by
  have hl := rd_len Tryd.underlying82 h
  rw [cells82] at hl
  obtain ⟨y0, k0, g0, b0⟩ := rd_field Tryd.underlying82 h 0 (ft := 3) (off := 0) rfl cells3
  obtain ⟨y1, k1, g1, b1⟩ := rd_field Tryd.underlying82 h 1 (ft := 3) (off := 1) rfl cells3
  obtain ⟨y2, k2, g2, b2⟩ := rd_field Tryd.underlying82 h 2 (ft := 3) (off := 2) rfl cells3
  obtain ⟨y3, k3, g3, b3⟩ := rd_field Tryd.underlying82 h 3 (ft := 3) (off := 3) rfl cells3
  obtain ⟨y4, k4, g4, b4⟩ := rd_field Tryd.underlying82 h 4 (ft := 3) (off := 4) rfl cells3
  obtain ⟨y5, k5, g5, b5⟩ := rd_field Tryd.underlying82 h 5 (ft := 3) (off := 5) rfl cells3
  obtain ⟨y6, k6, g6, b6⟩ := rd_field Tryd.underlying82 h 6 (ft := 3) (off := 6) rfl cells3
  obtain ⟨y7, k7, g7, b7⟩ := rd_field Tryd.underlying82 h 7 (ft := 25) (off := 7) rfl cells25
  obtain ⟨y8, k8, g8, b8⟩ := rd_field Tryd.underlying82 h 8 (ft := 26) (off := 8) rfl cells26
  obtain ⟨v0, e0, i0⟩ := rd_int g0
  obtain ⟨v1, e1, i1⟩ := rd_int g1
  obtain ⟨v2, e2, i2⟩ := rd_int g2
  obtain ⟨v3, e3, i3⟩ := rd_int g3
  obtain ⟨v4, e4, i4⟩ := rd_int g4
  obtain ⟨v5, e5, i5⟩ := rd_int g5
  obtain ⟨v6, e6, i6⟩ := rd_int g6
  obtain ⟨o, e7⟩ := take_one (cs := cs) (a := 7) (by omega)
  obtain ⟨d, e8⟩ := take_one (cs := cs) (a := 8) (by omega)
  rw [e7] at g7
  rw [e8] at g8
  obtain ⟨os, hO, ho1, ho2⟩ := rd_opts g7
  obtain ⟨l, hB, hl2⟩ := rd_bytes g8
  refine ⟨⟨v0, v1, v2, v3, v4, v5, v6, os, l⟩, o, d, ?_, hO, hB, ⟨i0, i1, i2, i3, i4, i5, i6, fun p hp => (ho2 p hp).1⟩, by show os.length ≤ _; omega, fun p hp => by have := (ho2 p hp).2; omega, by show l.length ≤ _; omega⟩
  have c0 := cut_at e0
  rw [List.drop_zero] at c0
  rw [c0, cut_at e1, cut_at e2, cut_at e3, cut_at e4, cut_at e5, cut_at e6, cut_at e7, cut_at e8, List.drop_eq_nil_of_le (by omega)]
  simp [encTcp]
/-- two numbers, read -/
theorem rd_pair (h : DataW.trod enc Tryd.prog W 0 (fun _ => true) hd n 67 cs = some x) : ∃ a b : Int, cs = [i64 a, i64 b] ∧ inI a ∧ inI b := by
  obtain ⟨xs, m, _, _, hl1, hl2, hg⟩ := DataW.trod_array Tryd.underlying67 h
  have hx0 : 0 < xs.length := by rw [hl2]; decide
  have hx1 : 1 < xs.length := by rw [hl2]; decide
  have hg' : ∀ i, i < 2 → DataW.trod enc Tryd.prog W 0 (fun _ => true) hd m 3 ((cs.drop i).take 1) = xs[i]? := fun i hi => by
    have h1 := hg i hi
    rw [cells3, Nat.mul_one] at h1
    exact h1
  have g0 := hg' 0 (by decide)
  have g1 := hg' 1 (by decide)
  rw [List.getElem?_eq_getElem hx0] at g0
  rw [List.getElem?_eq_getElem hx1] at g1
  obtain ⟨a, e0, ha⟩ := rd_int g0
  obtain ⟨b, e1, hb⟩ := rd_int g1
  refine ⟨a, b, ?_, ha, hb⟩
  have hl : cs.length = 2 := by
    rw [hl1, cells67]
  have c0 := cut_at e0
  rw [List.drop_zero] at c0
  rw [c0, cut_at e1, List.drop_eq_nil_of_le (by omega)]
  rfl
end
end Go.Proofs.YtkahmepenjhcpaaDoor.W

/- Tables of layer 9, as a row lays them. No statement of the seat is proved here. -/
namespace Go.Proofs.YtkahmepenjhcpaaDoor.W
open Go
set_option linter.unusedVariables false
set_option linter.unusedSimpArgs false

theorem laid_tl {P : Program} {x : String × DataW Unit} {r : List (String × DataW Unit)} {w : World} (h : laidMet P (x :: r) w) : laidMet P r w := by
  obtain ⟨ps, hv, hnd, hrows⟩ := h
  obtain ⟨n, d⟩ := x
  obtain ⟨g, t, cs, fuel, p, q, _, _, _, _, hq, rfl⟩ := hv
  exact ⟨q, hq, List.Nodup.sublist (List.sublist_append_right _ _) hnd, fun b off hm => hrows b off (List.mem_append_right _ hm)⟩
theorem gv_tab {W : World} {name : String} {k : IntKind} {zs : List Int} {g : Nat} {T : TypeId} (h : Lib.TabIs Tryd.prog W name k zs) (hg : Tryd.prog.globalNamed name = some g) : GV [] W g T (zs.map fun z => Value.int k z) := by
  intro i hi
  have hi' : i < zs.length := by simpa using hi
  refine ⟨⟨g, 0, none⟩, rfl, rfl, by simp, ?_⟩
  have := h.cell hg i hi'
  rw [Nat.zero_add, this, List.getElem_map, List.getD_eq_getElem?_getD, List.getElem?_eq_getElem hi']
  rfl
theorem gName1 : Tryd.prog.globalNamed "weir/l4.udpWidths" = some 1 := by kernel_rfl
theorem gName2 : Tryd.prog.globalNamed "weir/l4.tcpWidths" = some 2 := by kernel_rfl
theorem gName3 : Tryd.prog.globalNamed "weir/l4.lengths" = some 3 := by kernel_rfl
theorem gType1 : (Tryd.prog.globals[1]?).map (·.type) = some 163 := by kernel_rfl
theorem gType2 : (Tryd.prog.globals[2]?).map (·.type) = some 166 := by kernel_rfl
theorem gType3 : (Tryd.prog.globals[3]?).map (·.type) = some 183 := by kernel_rfl
theorem cells163 : Tryd.prog.cellsOf 163 = 4 := by kernel_rfl
theorem cells166 : Tryd.prog.cellsOf 166 = 10 := by kernel_rfl
theorem cells183 : Tryd.prog.cellsOf 183 = 9 := by kernel_rfl
theorem cells182 : Tryd.prog.cellsOf 182 = 1 := by kernel_rfl
def laid9 : List (String × DataW Unit) := [("weir/l4.udpWidths", Lib.tabData .i64 W16), ("weir/l4.tcpWidths", Lib.tabData .i64 W10), ("weir/l4.lengths", Lib.tabData .u64 lenT)]
theorem gv1_of {W : World} (h : laidMet Tryd.prog laid9 W) : GV [] W 1 163 (W16.map i64) :=
  gv_tab (Lib.tabIs_of_head gName1 gType1 Tryd.underlying163 Tryd.underlying3 cells3 cells163 h) gName1
theorem gv2_of {W : World} (h : laidMet Tryd.prog laid9 W) : GV [] W 2 166 (W10.map i64) :=
  gv_tab (Lib.tabIs_of_head gName2 gType2 Tryd.underlying166 Tryd.underlying3 cells3 cells166 (laid_tl h)) gName2
theorem gv3_of {W : World} (h : laidMet Tryd.prog laid9 W) : GV [] W 3 183 (lenT.map u64) :=
  gv_tab (Lib.tabIs_of_head (rest := []) gName3 gType3 Tryd.underlying183 Tryd.underlying182 cells182 cells183 (laid_tl (laid_tl h))) gName3
def setC (c : Array Value) : Obj → Obj
  | .cells _ t frozen => .cells c t frozen
  | o => o
noncomputable def laidWorld9 (os : Os) : World :=
  { World.holding Tryd.prog os ⟨#[], #[], []⟩ with
    heap := (((World.holding Tryd.prog os ⟨#[], #[], []⟩).heap.modify 1 (setC #[.int .i64 16, .int .i64 16, .int .i64 16, .int .i64 16])).modify 2 (setC #[.int .i64 16, .int .i64 16, .int .i64 32, .int .i64 32, .int .i64 4, .int .i64 4, .int .i64 8, .int .i64 16, .int .i64 16, .int .i64 16])).modify 3 (setC #[.int .u64 0, .int .u64 0, .int .u64 16, .int .u64 8, .int .u64 4, .int .u64 17247241216, .int .u64 0, .int .u64 0, .int .u64 1024]) }
end Go.Proofs.YtkahmepenjhcpaaDoor.W

/- A reading of the arguments stands behind a call that leaves what was there. No statement of the seat is proved here. -/
namespace Go.Proofs.YtkahmepenjhcpaaDoor.W
open Go
set_option linter.unusedVariables false

theorem laidOut : laidOutB Tryd.prog = true := by kernel_rfl
theorem mapsR : mapsRowed Tryd.prog = true := by kernel_rfl
def sizedB (P : Program) : Bool := (List.range P.types.size).all fun t => match P.underlying t with
  | some (.slice e) => decide (0 < P.cellsOf e)
  | _ => true
theorem sizedAll : sizedB Tryd.prog = true := by kernel_rfl
theorem sized {t e : TypeId} (ht : t < Tryd.prog.types.size) (hu : Tryd.prog.underlying t = some (.slice e)) : 0 < Tryd.prog.cellsOf e := by
  have h := sizedAll
  unfold sizedB at h
  rw [List.all_eq_true] at h
  have := h t (List.mem_range.2 ht)
  rw [hu] at this
  simpa using this

theorem stays {H : Type} {enc : TypeId × Value → H} {W W' : World} {t : TypeId} {v : Value} {d : DataW H} {p : List MemPlace} (B : Bl W W') (ht : t < Tryd.prog.types.size)
    (h : DataW.Trod enc Tryd.prog W 0 (fun _ => true) true t v d p) (sp : Nat → Bool) (hs : ∀ q ∈ p, sp q.block = true) : DataW.Trod enc Tryd.prog W' 0 sp true t v d p := by
  obtain ⟨n, h⟩ := h
  exact ⟨n, DataW.trod_stays (T := (· < Tryd.prog.types.size)) (kids_rows laidOut mapsR) (fun ht hu => sized ht hu) (fun h => by cases h) ht h
    (fun q hq => Go.RowKit.Below.same B (DataW.trod_lt n t _ _ h q hq)) hs⟩
/-- what a call that only reads leaves: the row's own answer -/
theorem post_kept {H : Type} {enc : TypeId × Value → H} {P : Program} {s : ChangeSpec} {f : Func} {apart fresh handsOn again : Bool} {W W' : World} {args : Array Value} {v : Value} {ds gs : List (DataW H)} {before pa : List MemPlace}
    (hW : DataW.Whole enc P f.params.toList s.vars apart W args.toList ds gs before)
    (hres : ∀ (b : Nat) (sp : Nat → Bool) (hd : Bool), DataW.TrodAll enc P W' b sp hd f.resultTypes.toList (v.resultList f.resultTypes.size) (s.fn H (ds ++ gs)).results [])
    (hargs : ∀ sp : Nat → Bool, (∀ p ∈ before, sp p.block = true) → DataW.TrodAll enc P W' 0 sp true f.params.toList args.toList (s.fn H (ds ++ gs)).args pa)
    (hvars : ∀ sp : Nat → Bool, DataW.TrodVars enc P W' sp s.vars (s.fn H (ds ++ gs)).vars [])
    (hps : before = pa) (B : Bl W W')
    (hok : ∀ (j : Nat) (t : TypeId) (r : Value), f.resultTypes[j]? = some t → (v.resultList f.resultTypes.size)[j]? = some r → Value.okWide P W' .any 0 t r) :
    s.post enc P f apart fresh handsOn again W args v W' := by
  have hlt := fun p hp => hW.lt p hp
  have hold : ∀ p ∈ before, (fun b => decide (b < W.heap.size)) p.block = true := fun p hp => by simpa using hlt p hp
  subst hps
  refine ⟨ds, gs, before, [], before, [], hW, hres _ _ _, hargs _ hold, hvars _, Go.RowKit.Below.frame B _, fun _ => ?_⟩
  obtain ⟨_, _, _, _, _, hz, hn⟩ := hW
  refine ⟨hok, _, _, ([] ++ before) ++ [], ⟨[] ++ before, [], Go.ChangeShapes.trodAll_append (hargs _ (fun _ _ => rfl)) (hres _ _ _), hvars _, rfl, ?_, ?_⟩, ?_⟩
  · intro b off hp
    have hp' : MemPlace.cell b off ∈ before := by simpa using hp
    rw [Go.RowKit.Below.frozen B (hlt _ hp')]
    exact hz b off hp'
  · intro ha
    have := hn ha
    simpa using this
  · intro p hp _
    simpa using hp
end Go.Proofs.YtkahmepenjhcpaaDoor.W

/- Plain laws of layer 9: one bit of an endpoint turned. No program walked here; no statement of the seat is proved here. -/
namespace Go.Proofs.YtkahmepenjhcpaaDoor.W
open Go
set_option linter.unusedVariables false
set_option linter.unusedSimpArgs false

def flipJ (x : IP) (j : Nat) (r : Int) : IP := ⟨x.v, fun i => if i = j then xor8 (x.a i) r else x.a i⟩
theorem lt16 {j : Nat} (h : j < 16) : j = 0 ∨ j = 1 ∨ j = 2 ∨ j = 3 ∨ j = 4 ∨ j = 5 ∨ j = 6 ∨ j = 7 ∨ j = 8 ∨ j = 9 ∨ j = 10 ∨ j = 11 ∨ j = 12 ∨ j = 13 ∨ j = 14 ∨ j = 15 := by omega
theorem putN_flip (x : IP) (j : Nat) (r : Int) (h : j < 16) : putN (encIP x) (1 + j) [u8 (xor8 (x.a j) r)] = some (encIP (flipJ x j r)) := by
  rcases lt16 h with rfl | rfl | rfl | rfl | rfl | rfl | rfl | rfl | rfl | rfl | rfl | rfl | rfl | rfl | rfl | rfl <;> rfl
theorem flipJ_ok {x : IP} {j : Nat} {r : Int} (h : x.ok) (hr : 0 ≤ r ∧ r < 8) : (flipJ x j r).ok := by
  refine ⟨fun i hi => ?_, h.2⟩
  simp only [flipJ]
  split
  · have := xor8_bd (h.1 i hi) hr; omega
  · exact h.1 i hi
theorem four_flip (x : IP) (j : Nat) (r : Int) (h : j < 4) : four4 (flipJ x j r) = (four4 x).set j (xor8 ((four4 x).getD j 0) r) := by
  have h4 : j = 0 ∨ j = 1 ∨ j = 2 ∨ j = 3 := by omega
  rcases h4 with rfl | rfl | rfl | rfl <;> rfl
theorem six_flip (x : IP) (j : Nat) (r : Int) (h : j < 16) : six6 (flipJ x j r) = (six6 x).set j (xor8 ((six6 x).getD j 0) r) := by
  rcases lt16 h with rfl | rfl | rfl | rfl | rfl | rfl | rfl | rfl | rfl | rfl | rfl | rfl | rfl | rfl | rfl | rfl <;> rfl
theorem fourB_flip {x : IP} (h : fourB x = true) {j : Nat} (r : Int) (hj : j < 4) : fourB (flipJ x j r) = true := by
  simp only [fourB, Bool.and_eq_true, decide_eq_true_eq, List.all_eq_true, List.mem_range, Bool.or_eq_true] at h ⊢
  refine ⟨h.1, fun i hi => ?_⟩
  simp only [flipJ]
  by_cases e : i = j
  · left; omega
  · rw [if_neg e]; exact h.2 i hi
theorem ver_flip {x : IP} {j : Nat} (r : Int) (hj : x.v = 6 ∨ j < 4) (h0 : verI x ≠ 0) : verI (flipJ x j r) = verI x := by
  unfold verI at *
  have e : (flipJ x j r).v = x.v := rfl
  rw [e]
  by_cases h6 : x.v = 6
  · rw [if_pos h6, if_pos h6]
  · rw [if_neg h6] at h0 ⊢
    rw [if_neg h6]
    cases hf : fourB x with
    | true => rw [fourB_flip hf r (by omega)]
    | false => rw [hf] at h0; simp at h0
theorem fit_parts {s d : IP} : fitE s d = 0 ↔ verI s ≠ 0 ∧ verI d = verI s := by
  unfold fitE famB
  by_cases h : (decide (verI s = 0) || decide (verI d ≠ verI s)) = true
  · rw [if_pos h]
    simp only [Bool.or_eq_true, decide_eq_true_eq] at h
    omega
  · rw [if_neg h]
    simp only [Bool.or_eq_true, decide_eq_true_eq, not_or] at h
    omega
/-- the endpoints differ by one bit that counts -/
def Flip (s d s' d' : IP) : Prop := fitE s' d' = 0 ∧ ∀ p n : Int, 0 ≤ p ∧ p ≤ 255 → 0 ≤ n ∧ n ≤ 65535 → ∃ i r, i < (pseL s d p n).length ∧ (0 ≤ r ∧ r < 8) ∧ pseL s' d' p n = (pseL s d p n).set i (xor8 ((pseL s d p n).getD i 0) r)
theorem getD_left {A B : List Int} {i : Nat} (h : i < A.length) : (A ++ B).getD i 0 = A.getD i 0 := by
  rw [List.getD_eq_getElem?_getD, List.getElem?_append_left h, List.getD_eq_getElem?_getD]
theorem getD_right {A B : List Int} {i : Nat} : (A ++ B).getD (A.length + i) 0 = B.getD i 0 := by
  rw [List.getD_eq_getElem?_getD, List.getElem?_append_right (by omega), Nat.add_sub_cancel_left, List.getD_eq_getElem?_getD]
theorem set_left {A B : List Int} {i : Nat} {x : Int} (h : i < A.length) : (A ++ B).set i x = A.set i x ++ B := by
  rw [List.set_append_left _ _ h]
theorem set_right {A B : List Int} {i : Nat} {x : Int} : (A ++ B).set (A.length + i) x = A ++ B.set i x := by
  rw [List.set_append_right _ _ (by omega), Nat.add_sub_cancel_left]
theorem flip_src {s d : IP} {j : Nat} {r : Int} (hf : fitE s d = 0) (hj : (s.v = 6 ∧ j < 16) ∨ j < 4) (hr : 0 ≤ r ∧ r < 8) : Flip s d (flipJ s j r) d := by
  obtain ⟨h0, h1⟩ := fit_parts.1 hf
  have hv := ver_flip (x := s) (j := j) r (by omega) h0
  have hf' : fitE (flipJ s j r) d = 0 := fit_parts.2 ⟨by rw [hv]; exact h0, by rw [hv]; exact h1⟩
  refine ⟨hf', fun p n hp hn => ?_⟩
  have e1 : pseL s d p n = pseB s d p n := by unfold pseL; rw [if_pos (fit_pse hf hp hn)]
  have e2 : pseL (flipJ s j r) d p n = pseB (flipJ s j r) d p n := by unfold pseL; rw [if_pos (fit_pse hf' hp hn)]
  rw [e1, e2]
  unfold pseB
  rw [hv]
  by_cases h4 : verI s = 4
  · rw [if_pos h4]
    have hj4 : j < 4 := by
      rcases hj with h | h
      · exfalso
        unfold verI at h4
        rw [if_pos h.1] at h4; omega
      · exact h
    refine ⟨j, r, by simp [four4]; omega, hr, ?_⟩
    rw [if_pos h4, four_flip s j r hj4, getD_left (by simp [four4]; omega), getD_left (by simp [four4]; omega), set_left (by simp [four4]; omega), set_left (by simp [four4]; omega)]
  · rw [if_neg h4]
    refine ⟨j, r, by simp [six6]; omega, hr, ?_⟩
    rw [if_neg h4, six_flip s j r (by omega), getD_left (by simp [six6]; omega), getD_left (by simp [six6]; omega), set_left (by simp [six6]; omega), set_left (by simp [six6]; omega)]
theorem flip_dst {s d : IP} {j : Nat} {r : Int} (hf : fitE s d = 0) (hj : (s.v = 6 ∧ j < 16) ∨ j < 4) (hr : 0 ≤ r ∧ r < 8) : Flip s d s (flipJ d j r) := by
  obtain ⟨h0, h1⟩ := fit_parts.1 hf
  have hd6 : s.v = 6 → d.v = 6 := by
    intro h6
    have : verI s = 6 := by unfold verI; rw [if_pos h6]
    rw [this] at h1
    unfold verI at h1
    by_cases h : d.v = 6
    · exact h
    · rw [if_neg h] at h1; split at h1 <;> omega
  have hv := ver_flip (x := d) (j := j) r (by omega) (by rw [h1]; exact h0)
  have hf' : fitE s (flipJ d j r) = 0 := fit_parts.2 ⟨h0, by rw [hv]; exact h1⟩
  refine ⟨hf', fun p n hp hn => ?_⟩
  have e1 : pseL s d p n = pseB s d p n := by unfold pseL; rw [if_pos (fit_pse hf hp hn)]
  have e2 : pseL s (flipJ d j r) p n = pseB s (flipJ d j r) p n := by unfold pseL; rw [if_pos (fit_pse hf' hp hn)]
  rw [e1, e2]
  unfold pseB
  by_cases h4 : verI s = 4
  · rw [if_pos h4]
    have hj4 : j < 4 := by
      rcases hj with h | h
      · exfalso
        unfold verI at h4
        rw [if_pos h.1] at h4; omega
      · exact h
    refine ⟨(four4 s).length + j, r, by simp [four4]; omega, hr, ?_⟩
    rw [if_pos h4, four_flip d j r hj4, List.append_assoc, List.append_assoc, getD_right, getD_left (by simp [four4]; omega), set_right, set_left (by simp [four4]; omega)]
  · rw [if_neg h4]
    refine ⟨(six6 s).length + j, r, by simp [six6]; omega, hr, ?_⟩
    rw [if_neg h4, six_flip d j r (by omega), List.append_assoc, List.append_assoc, getD_right, getD_left (by simp [six6]; omega), set_right, set_left (by simp [six6]; omega)]
theorem psum_flip {s d s' d' : IP} {p : Int} {b : List Int} (hs : s.ok) (hd : d.ok) (hF : Flip s d s' d') (hp : 0 ≤ p ∧ p ≤ 255) (hn : b.length ≤ 65535) (h : psum s d p b = 65535) : psum s' d' p b ≠ 65535 := by
  obtain ⟨i, r, hi, hr, e⟩ := hF.2 p b.length hp (by omega)
  have hP := pseL_byt hs hd p b.length
  have hx := xor8_bd (byt_getD hP i) hr
  obtain ⟨c, hc, hw⟩ := wsum_set1 (pseL s d p b.length) true i (xor8 ((pseL s d p b.length).getD i 0) r) hi
  rw [psum_pw] at h ⊢
  have e2 : pw s' d' p b = pw s d p b + (xor8 ((pseL s d p b.length).getD i 0) r - (pseL s d p b.length).getD i 0) * c := by
    unfold pw; rw [e, hw]; omega
  rw [e2]
  refine foldS_two h ?_ ?_ ?_ <;> rcases hc with rfl | rfl <;> omega
theorem udp_ends {s d s' d' : IP} {u : Udp} (hs : s.ok) (ht : d.ok) (hd : byt u.data) (he : putUE s d u = 0) (hn : u.nosum = false) (hF : Flip s d s' d') : udpE s' d' (putUL s d u) = 93 := by
  obtain ⟨hlen, hLU, h67, hC0, hC1, hfit, hsum, _, _⟩ := udp_back hs ht hd he
  have hle := putUL_le s d u
  have hf := hF.1
  have hp := psum_flip hs ht hF (p := 17) (by decide) hle (hsum hn)
  rw [hn] at h67
  simp only [Bool.false_eq_true, if_false] at h67
  unfold udpE
  rw [if_neg (by omega), if_neg (by omega), if_neg (by omega), if_neg (by omega), if_neg (by omega), hLU, List.take_of_length_le (by omega), if_pos hp]
theorem tcp_ends {s d s' d' : IP} {t : Tcp} (hs : s.ok) (ht : d.ok) (ho : ∀ o ∈ t.opts, W.byt o.data) (hd : byt t.data) (he : putTE s d t = 0) (hF : Flip s d s' d') : tcpE s' d' (putTL s d t) = 96 := by
  obtain ⟨hlen, hH, hfit, hsum, _, _⟩ := tcp_back hs ht ho hd he
  have hle := putTL_le s d t
  have hf := hF.1
  have hp := psum_flip hs ht hF (p := 6) (by decide) hle hsum
  unfold tcpE
  rw [if_neg (by omega), if_neg (by omega), if_neg (by omega), if_neg (by omega), if_pos hp]
end Go.Proofs.YtkahmepenjhcpaaDoor.W

