/- Texts of the proofs of this seat, packed into one (Lj Lk Cr Ll Sg Cu Cv Cw Cs Sh Cx Cy Cz Si Sj Lm Sk Lr Ls Da Lt Lo Lu Db Lv Fz). No statement of the seat is proved here. -/
import Derived.ArgAppend
import Derived.Test.YtkahmepenjhcpaaDoorMc
/- Contracts: segments written. No statement of the seat is proved here. -/
namespace Go.Proofs.YtkahmepenjhcpaaDoor.W
open Go
set_option linter.unusedSimpArgs false
set_option linter.unusedVariables false
theorem bitsOf_32 {v : Int} (h : 0 ≤ v ∧ v < 4294967296) : bitsOf v 32 = bitsB [v / 16777216, v / 65536 % 256, v / 256 % 256, v % 256] := by
  simp only [bitsB, bitsOf, List.append_nil, List.nil_append, List.cons_append, List.cons.injEq, and_true, Int.reducePow]
  refine ⟨?_, ?_, ?_, ?_, ?_, ?_, ?_, ?_, ?_, ?_, ?_, ?_, ?_, ?_, ?_, ?_, ?_, ?_, ?_, ?_, ?_, ?_, ?_, ?_, ?_, ?_, ?_, ?_, ?_, ?_, ?_, ?_⟩ <;> omega
def hdT (t : Tcp) : Int := (20 + ((tputL t.opts).length : Int)) / 4
def tcp20 (t : Tcp) : List Int := [t.sport / 256, t.sport % 256] ++ [t.dport / 256, t.dport % 256] ++ [t.seq / 16777216, t.seq / 65536 % 256, t.seq / 256 % 256, t.seq % 256] ++ [t.ack / 16777216, t.ack / 65536 % 256, t.ack / 256 % 256, t.ack % 256] ++ [hdT t * 16 + 0] ++ [t.flags] ++ [t.win / 256, t.win % 256] ++ [(0 : Int) / 256, (0 : Int) % 256] ++ [t.urg / 256, t.urg % 256]
def tcpB0 (t : Tcp) : List Int := tcp20 t ++ tputL t.opts ++ t.data
def tcpC (s d : IP) (t : Tcp) : Int := 65535 - psum s d 6 (tcpB0 t)
def putTE (s d : IP) (t : Tcp) : Int := if fitE s d = 0 then chkT t else fitE s d
def putTB (s d : IP) (t : Tcp) : List Int := ((tcpB0 t).set 16 (tcpC s d t / 256)).set 17 (tcpC s d t % 256)
def putTL (s d : IP) (t : Tcp) : List Int := if putTE s d t = 0 then putTB s d t else []
theorem putTE_fit {s d : IP} {t : Tcp} (h : fitE s d = 0) : putTE s d t = chkT t := by unfold putTE; rw [if_pos h]
theorem putTE_no {s d : IP} {t : Tcp} (h : fitE s d ≠ 0) : putTE s d t = fitE s d := by unfold putTE; rw [if_neg h]
theorem putTE_bd (s d : IP) (t : Tcp) : 0 ≤ putTE s d t ∧ putTE s d t ≤ 98 := by
  have := fitE_or s d
  have := chkT_bd t
  unfold putTE; split <;> omega
theorem putTE_zero {s d : IP} {t : Tcp} (h : putTE s d t = 0) : fitE s d = 0 ∧ chkT t = 0 := by
  have := fitE_or s d
  unfold putTE at h
  by_cases h1 : fitE s d = 0
  · rw [if_pos h1] at h; exact ⟨h1, h⟩
  · rw [if_neg h1] at h; omega
theorem hdT_bd (t : Tcp) : 5 ≤ hdT t ∧ hdT t < 16 ∧ hdT t * 4 = 20 + ((tputL t.opts).length : Int) := by
  have := tputL_len t.opts
  unfold hdT; omega
theorem tcp20_len (t : Tcp) : (tcp20 t).length = 20 := rfl
theorem tcpB0_len (t : Tcp) : (tcpB0 t).length = 20 + (tputL t.opts).length + t.data.length := by simp [tcpB0, tcp20_len]; omega
theorem byt2 {v : Int} (h : 0 ≤ v ∧ v ≤ 65535) : byt [v / 256, v % 256] := by
  intro x hx
  simp only [List.mem_cons, List.not_mem_nil, or_false] at hx
  rcases hx with rfl | rfl <;> omega
theorem byt4 {v : Int} (h : 0 ≤ v ∧ v ≤ 4294967295) : byt [v / 16777216, v / 65536 % 256, v / 256 % 256, v % 256] := by
  intro x hx
  simp only [List.mem_cons, List.not_mem_nil, or_false] at hx
  rcases hx with rfl | rfl | rfl | rfl <;> omega
theorem byt1 {v : Int} (h : 0 ≤ v ∧ v ≤ 255) : byt [v] := by
  intro x hx
  simp only [List.mem_cons, List.not_mem_nil, or_false] at hx
  subst hx; omega
theorem tcp20_byt {t : Tcp} (h : chkT t = 0) : byt (tcp20 t) := by
  have hb := badT_off (chkT_zero h).1
  have hh := hdT_bd t
  unfold tcp20
  exact byt_app (byt_app (byt_app (byt_app (byt_app (byt_app (byt_app (byt_app (byt2 (by omega)) (byt2 (by omega))) (byt4 (by omega))) (byt4 (by omega))) (byt1 (by omega))) (byt1 (by omega))) (byt2 (by omega))) (byt2 (by omega))) (byt2 (by omega))
theorem tcpB0_byt {t : Tcp} (h : chkT t = 0) (ho : ∀ o ∈ t.opts, W.byt o.data) (hd : byt t.data) : byt (tcpB0 t) := byt_app (byt_app (tcp20_byt h) (tputL_byt ho)) hd
theorem tcpC_bd {s d : IP} {t : Tcp} (hs : s.ok) (ht : d.ok) (hb : byt (tcpB0 t)) : 0 ≤ tcpC s d t ∧ tcpC s d t ≤ 65535 := by
  have := psum_bd (p := 6) hs ht hb
  unfold tcpC; omega
theorem putTL_byt {s d : IP} {t : Tcp} (hs : s.ok) (ht : d.ok) (ho : ∀ o ∈ t.opts, W.byt o.data) (hd : byt t.data) : byt (putTL s d t) := by
  unfold putTL
  split
  · rename_i h
    have hb := tcpB0_byt (putTE_zero h).2 ho hd
    have hc := tcpC_bd hs ht hb
    unfold putTB
    exact byt_set (byt_set hb _ (by omega)) _ (by omega)
  · exact byt_nil
theorem tcp20_bits {t : Tcp} (h : chkT t = 0) : bitsB (tcp20 t) = strm W10 [t.sport, t.dport, t.seq, t.ack, hdT t, 0, t.flags, t.win, 0, t.urg] := by
  have hb := badT_off (chkT_zero h).1
  have hh := hdT_bd t
  have e : strm W10 [t.sport, t.dport, t.seq, t.ack, hdT t, 0, t.flags, t.win, 0, t.urg] =
      bitsOf t.sport 16 ++ (bitsOf t.dport 16 ++ (bitsOf t.seq 32 ++ (bitsOf t.ack 32 ++ ((bitsOf (hdT t) 4 ++ bitsOf 0 4) ++ (bitsOf t.flags 8 ++ (bitsOf t.win 16 ++ (bitsOf 0 16 ++ bitsOf t.urg 16))))))) := by
    simp [strm, W10, List.append_assoc]
  rw [e, bitsOf_16 (by omega), bitsOf_16 (by omega), bitsOf_32 (by omega), bitsOf_32 (by omega), bitsOf_44 (by omega) (by omega), bitsOf_8, bitsOf_16 (by omega), bitsOf_16 (by omega), bitsOf_16 (by omega)]
  simp only [← bitsB_app]
  rfl
theorem tcp20_pack {t : Tcp} (h : chkT t = 0) : ∀ i, i < W10.length → 0 ≤ [t.sport, t.dport, t.seq, t.ack, hdT t, 0, t.flags, t.win, 0, t.urg].getD i 0 ∧ [t.sport, t.dport, t.seq, t.ack, hdT t, 0, t.flags, t.win, 0, t.urg].getD i 0 < 2 ^ (W10.getD i 0).toNat := by
  have hb := badT_off (chkT_zero h).1
  have hh := hdT_bd t
  intro i hi
  rcases i with _ | _ | _ | _ | _ | _ | _ | _ | _ | _ | i
  all_goals first
    | (simp only [W10, List.getD_cons_zero, List.getD_cons_succ, Int.reducePow, Int.reduceToNat]; omega)
    | (exfalso; simp at hi; omega)
set_option maxHeartbeats 1000000 in
theorem c61 (s d : IP) (t : Tcp) (o dv : Value) (w : World) (hs : s.ok) (ht : d.ok) (hO : OS [] w o t.opts) (hd : BS [] w dv t.data) (hol : t.opts.length ≤ 1099511627776) (hoo : ∀ p ∈ t.opts, p.data.length ≤ 1099511627776) (hdl : t.data.length ≤ 1099511627776) (hg2 : GV [] w 2 166 (W10.map i64)) (hg3 : GV [] w 3 183 (lenT.map u64)) :
  CallsV Tryd.prog 61 #[.agg (encIP s).toArray, .agg (encIP d).toArray, .agg (encTcp t o dv).toArray] w (fun r w' => ∃ v, r = .tuple #[v, .int .i64 (putTE s d t)] ∧ FB w w' v (putTL s d t)) := by
 refine enter Tryd.func61 rfl Tryd.ntmps61 (l := [(0, [], _), (1, [], _), (2, [], _)]) rfl rfl ?_
 have S := St.refl [] w
 have hpb0 := putTE_bd s d t
 have hfo := fitE_or s d
 refine Run.seq ?_
 refine Run.region ?_
 refine boxA rfl S rfl ?_
 intro b3 w1 hb3 S B_
 refine boxA rfl S rfl ?_
 intro b4 w2 hb4 S B_
 refine boxA rfl S rfl ?_
 intro b5 w3 hb5 S B_
 refine asg1 rfl rfl ?_
 refine asg1 rfl rfl ?_
 refine Ro.nil ?_
 refine Nrm.code ?_
 refine Run.seq ?_
 refine Run.region ?_
 refine ldW rfl T24 S (i := 2) rfl rfl rfl rfl rfl ?_
 refine ldW rfl T24 S (i := 1) rfl rfl rfl rfl rfl ?_
 refine calg (vs := [_, _]) rfl ⟨⟨_, _, rfl, rfl⟩, ⟨_, _, rfl, rfl⟩, trivial⟩ k123 rfl (fun hG => c123 s d _ hs ht) ?_
 intro w4 B_; have S := S.call B_
 refine asg1 rfl rfl ?_
 refine Ro.nil ?_
 refine Nrm.code ?_
 refine Run.cut (γ := Unit) (fun g w_ => St [] w [.var b5 82 (encTcp t o dv), .var b4 24 (encIP d), .var b3 24 (encIP s)] w_) (fun g => [(3, [], .pointer (some ⟨b3, 0, none⟩)), (4, [], .pointer (some ⟨b4, 0, none⟩)), (5, [], .pointer (some ⟨b5, 0, none⟩)), (8, [], .int .i64 (putTE s d t))]) ?_ ?_
 ·
  refine Run.seq ?_
  refine Run.region ?_
  refine mv1 rfl rfl ?_
  refine eql1 rfl rfl rfl ?_
  refine Ro.nil ?_
  refine Nrm.code ?_
  refine Run.cond rfl (fun hc2 => ?_) (fun hc2 => ?_)
  ·
   try simp only [Bool.or_eq_true, Bool.and_eq_true, Bool.or_eq_false_iff, Bool.and_eq_false_iff, decide_eq_true_eq, decide_eq_false_iff_not, Bool.not_eq_true', Bool.not_eq_false', Bool.not_eq_true, Bool.not_eq_false] at hc2
   refine Run.region ?_
   refine ldW rfl T82 S (i := 0) rfl rfl rfl rfl rfl ?_
   refine calg (vs := [_]) rfl ⟨⟨_, _, rfl, rfl⟩, trivial⟩ k64 rfl (fun hG => c64 _ _ _ _ (hO.now S) (hd.now S) hol hoo hdl (hg3.now S)) ?_
   intro w5 B_; have S := S.call B_
   refine asg1 rfl rfl ?_
   refine Ro.nil ?_
   exact Nrm.cut () S ⟨rfl, rfl, rfl, (by rw [putTE_fit hc2]; rfl), trivial⟩
  ·
   try simp only [Bool.or_eq_true, Bool.and_eq_true, Bool.or_eq_false_iff, Bool.and_eq_false_iff, decide_eq_true_eq, decide_eq_false_iff_not, Bool.not_eq_true', Bool.not_eq_false', Bool.not_eq_true, Bool.not_eq_false] at hc2
   refine Run.skip ?_
   exact Nrm.cut () S ⟨rfl, rfl, rfl, (by rw [putTE_no hc2]; rfl), trivial⟩
 ·
  rintro g4 w5 S
  refine Run.seq ?_
  refine Run.seq ?_
  refine Run.region ?_
  refine mv1 rfl rfl ?_
  refine neq1 rfl rfl rfl ?_
  refine Ro.nil ?_
  refine Nrm.code ?_
  refine Run.cond rfl (fun hc4 => ?_) (fun hc4 => ?_)
  ·
   try simp only [Bool.or_eq_true, Bool.and_eq_true, Bool.or_eq_false_iff, Bool.and_eq_false_iff, decide_eq_true_eq, decide_eq_false_iff_not, Bool.not_eq_true', Bool.not_eq_false', Bool.not_eq_true, Bool.not_eq_false] at hc4
   refine Run.seq ?_
   refine Run.region ?_
   refine mv1 rfl rfl ?_
   refine asg1 rfl rfl ?_
   refine asg1 rfl rfl ?_
   refine Ro.nil ?_
   refine Nrm.code ?_
   refine Run.ret ?_
   refine Rt.two rfl rfl rfl ?_
   have hl0 : putTL s d t = [] := by unfold putTL; rw [if_neg (by omega)]
   exact ⟨.slice none 0 0, by rfl, by rw [hl0]; exact (S.nilB).toFB (i := 0) rfl⟩
  ·
   try simp only [Bool.or_eq_true, Bool.and_eq_true, Bool.or_eq_false_iff, Bool.and_eq_false_iff, decide_eq_true_eq, decide_eq_false_iff_not, Bool.not_eq_true', Bool.not_eq_false', Bool.not_eq_true, Bool.not_eq_false] at hc4
   have hpe : putTE s d t = 0 := by omega
   have hz := putTE_zero hpe
   have hzz := chkT_zero hz.2
   have hbo := badT_off hzz.1
   have hpb := tputL_byt hO.byt
   have hpl := tputL_len t.opts
   have hbB := tcpB0_byt hz.2 hO.byt hd.1
   have hlB := tcpB0_len t
   have hCb := tcpC_bd (s := s) (d := d) hs ht hbB
   have h20 := tcp20_len t
   have hpsb := psum_bd (p := 6) hs ht hbB
   have hhd := hdT_bd t
   have hl2 : (tcp20 t ++ tputL t.opts).length = 20 + (tputL t.opts).length := by rw [List.length_append, h20]
   refine Run.skip ?_
   refine Nrm.code ?_
   refine Run.seq ?_
   refine Run.region ?_
   refine fld (o' := 7) rfl fo82_7 rfl rfl rfl rfl ?_
   refine ld1 rfl T25 S (i := 0) rfl rfl rfl rfl rfl ?_
   refine call (vs := [_]) ⟨⟨_, _, rfl, rfl⟩, trivial⟩ k73 rfl (c73 _ _ _ (hO.now S) hol hoo (hg3.now S)) ?_
   rintro _ w6 ⟨u9, rfl, hF⟩
   have S := S.fb hF
   refine mv1 rfl rfl ?_
   refine extr1 rfl rfl rfl ?_
   refine extr1 rfl rfl rfl ?_
   refine asg1 rfl rfl ?_
   refine asg1 rfl rfl ?_
   refine Ro.nil ?_
   refine Nrm.code ?_
   refine Run.seq ?_
   refine Run.region ?_
   refine ldG hg2 S T166 rfl rfl ?_
   refine alc T166 S rfl ?_
   intro b11 w7 hb11 S B_
   refine stW rfl rfl T166 rfl rfl (by simp [Value.oneCell']) S (i := 0) rfl rfl ?_
   intro w8 S
   refine Ro.nil ?_
   refine Nrm.code ?_
   refine Run.seq ?_
   refine Run.heldB (by kernel_rfl) S [true, true, true, true, true] rfl rfl rfl ?_
   intro w9 BD S SC
   refine Hb.take (i := 0) SC (fun _ _ S B => S.call B) Pp.body rfl (by kernel_rfl) (by kernel_rfl) (by kernel_rfl) rfl rfl ?_
   refine qslAT rfl Tryd.underlying166 T3 rfl rfl rfl (i2 := none) trivial rfl (by decide) (by decide) ?_
   refine Hb.back ?_
   refine Hb.take (i := 1) SC (fun _ _ S B => S.call B) Pp.body rfl (by kernel_rfl) (by kernel_rfl) (by kernel_rfl) rfl rfl ?_
   refine qfld (o' := 0) rfl fo82_0 rfl rfl rfl rfl ?_
   refine Hb.back ?_
   refine Hb.take (i := 2) SC (fun _ _ S B => S.call B) Pp.body rfl (by kernel_rfl) (by kernel_rfl) (by kernel_rfl) rfl rfl ?_
   refine qld1 rfl T3 (fun _ S => S) (i := 2) rfl rfl rfl rfl rfl ?_
   refine Hb.back ?_
   refine Hb.take (i := 3) SC (fun _ _ S B => S.call B) Pp.body rfl (by kernel_rfl) (by kernel_rfl) (by kernel_rfl) rfl rfl ?_
   refine qfld (o' := 1) rfl fo82_1 rfl rfl rfl rfl ?_
   refine Hb.back ?_
   refine Hb.take (i := 4) SC (fun _ _ S B => S.call B) Pp.body rfl (by kernel_rfl) (by kernel_rfl) (by kernel_rfl) rfl rfl ?_
   refine qld1 rfl T3 (fun _ S => S) (i := 2) rfl rfl rfl rfl rfl ?_
   refine Hb.back ?_
   refine Hb.take (i := 5) SC (fun _ _ S B => S.call B) Pp.body rfl (by kernel_rfl) (by kernel_rfl) (by kernel_rfl) rfl rfl ?_
   refine qfld (o' := 2) rfl fo82_2 rfl rfl rfl rfl ?_
   refine Hb.back ?_
   refine Hb.take (i := 6) SC (fun _ _ S B => S.call B) Pp.body rfl (by kernel_rfl) (by kernel_rfl) (by kernel_rfl) rfl rfl ?_
   refine qld1 rfl T3 (fun _ S => S) (i := 2) rfl rfl rfl rfl rfl ?_
   refine Hb.back ?_
   refine Hb.take (i := 7) SC (fun _ _ S B => S.call B) Pp.body rfl (by kernel_rfl) (by kernel_rfl) (by kernel_rfl) rfl rfl ?_
   refine qfld (o' := 3) rfl fo82_3 rfl rfl rfl rfl ?_
   refine Hb.back ?_
   refine Hb.take (i := 8) SC (fun _ _ S B => S.call B) Pp.body rfl (by kernel_rfl) (by kernel_rfl) (by kernel_rfl) rfl rfl ?_
   refine qld1 rfl T3 (fun _ S => S) (i := 2) rfl rfl rfl rfl rfl ?_
   refine Hb.back ?_
   refine Hb.take (i := 9) SC (fun _ _ S B => S.call B) Pp.body rfl (by kernel_rfl) (by kernel_rfl) (by kernel_rfl) rfl rfl ?_
   refine qmv rfl rfl rfl rfl ?_
   refine Hb.back ?_
   refine Hb.take (i := 10) SC (fun _ _ S B => S.call B) Pp.body rfl (by kernel_rfl) (by kernel_rfl) (by kernel_rfl) rfl rfl ?_
   refine qlenS rfl (S.slI (i := 1) rfl) Tryd.underlying26 rfl rfl rfl ?_
   refine Hb.back ?_
   refine Hb.take (i := 11) SC (fun _ _ S B => S.call B) Pp.body rfl (by kernel_rfl) (by kernel_rfl) (by kernel_rfl) rfl rfl ?_
   refine qadd rfl rfl rfl rfl rfl rfl (fun _ => w64 (by omega)) ?_
   refine Hb.back ?_
   refine Hb.take (i := 12) SC (fun _ _ S B => S.call B) Pp.body rfl (by kernel_rfl) (by kernel_rfl) (by kernel_rfl) rfl rfl ?_
   refine qquo rfl rfl rfl rfl rfl rfl (fun _ => by decide) (fun _ => q64 (by omega)) ?_
   refine Hb.back ?_
   refine Hb.take (i := 13) SC (fun _ _ S B => S.call B) Pp.body rfl (by kernel_rfl) (by kernel_rfl) (by kernel_rfl) rfl rfl ?_
   refine qfld (o' := 4) rfl fo82_4 rfl rfl rfl rfl ?_
   refine Hb.back ?_
   refine Hb.take (i := 14) SC (fun _ _ S B => S.call B) Pp.body rfl (by kernel_rfl) (by kernel_rfl) (by kernel_rfl) rfl rfl ?_
   refine qld1 rfl T3 (fun _ S => S) (i := 2) rfl rfl rfl rfl rfl ?_
   refine Hb.back ?_
   refine Hb.take (i := 15) SC (fun _ _ S B => S.call B) Pp.body rfl (by kernel_rfl) (by kernel_rfl) (by kernel_rfl) rfl rfl ?_
   refine qfld (o' := 5) rfl fo82_5 rfl rfl rfl rfl ?_
   refine Hb.back ?_
   refine Hb.take (i := 16) SC (fun _ _ S B => S.call B) Pp.body rfl (by kernel_rfl) (by kernel_rfl) (by kernel_rfl) rfl rfl ?_
   refine qld1 rfl T3 (fun _ S => S) (i := 2) rfl rfl rfl rfl rfl ?_
   refine Hb.back ?_
   refine Hb.take (i := 17) SC (fun _ _ S B => S.call B) Pp.body rfl (by kernel_rfl) (by kernel_rfl) (by kernel_rfl) rfl rfl ?_
   refine qfld (o' := 6) rfl fo82_6 rfl rfl rfl rfl ?_
   refine Hb.back ?_
   refine Hb.take (i := 18) SC (fun _ _ S B => S.call B) Pp.body rfl (by kernel_rfl) (by kernel_rfl) (by kernel_rfl) rfl rfl ?_
   refine qld1 rfl T3 (fun _ S => S) (i := 2) rfl rfl rfl rfl rfl ?_
   refine Hb.back ?_
   refine Hb.one (i := 19) (by kernel_rfl) rfl rfl ?_
   intro w10 BD; have S := S.call BD
   refine bsl e132 (qs := [(_, _), (_, _), (_, _), (_, _), (_, _), (_, _), (_, _), (_, _), (_, _), (_, _)]) ⟨⟨_, _, _, rfl, rfl, rfl, rfl, by first | (simp [Value.cells]; done) | simp [Value.cells, encIP]⟩, ⟨_, _, _, rfl, rfl, rfl, rfl, by first | (simp [Value.cells]; done) | simp [Value.cells, encIP]⟩, ⟨_, _, _, rfl, rfl, rfl, rfl, by first | (simp [Value.cells]; done) | simp [Value.cells, encIP]⟩, ⟨_, _, _, rfl, rfl, rfl, rfl, by first | (simp [Value.cells]; done) | simp [Value.cells, encIP]⟩, ⟨_, _, _, rfl, rfl, rfl, rfl, by first | (simp [Value.cells]; done) | simp [Value.cells, encIP]⟩, ⟨_, _, _, rfl, rfl, rfl, rfl, by first | (simp [Value.cells]; done) | simp [Value.cells, encIP]⟩, ⟨_, _, _, rfl, rfl, rfl, rfl, by first | (simp [Value.cells]; done) | simp [Value.cells, encIP]⟩, ⟨_, _, _, rfl, rfl, rfl, rfl, by first | (simp [Value.cells]; done) | simp [Value.cells, encIP]⟩, ⟨_, _, _, rfl, rfl, rfl, rfl, by first | (simp [Value.cells]; done) | simp [Value.cells, encIP]⟩, ⟨_, _, _, rfl, rfl, rfl, rfl, by first | (simp [Value.cells]; done) | simp [Value.cells, encIP]⟩, trivial⟩ rfl rfl rfl rfl S ?_
   intro u54 w11 S B_
   have SC := S.pick [false, true, true, true, true, true] rfl
   refine Hb.on SC ?_
   refine Hb.one (i := 20) (by kernel_rfl) rfl rfl ?_
   intro w12 BD; have S := S.call BD
   refine call (vs := [_, _]) ⟨⟨_, _, rfl, rfl⟩, ⟨_, _, rfl, rfl⟩, trivial⟩ k95 rfl (c95 _ _ W10 [t.sport, t.dport, t.seq, t.ack, hdT t, 0, t.flags, t.win, 0, t.urg] _ (S.varSl (i := 1) (m := 10) (sz := 1) rfl rfl rfl (by decide)) (S.isI (l := [t.sport, t.dport, t.seq, t.ack, hdT t, 0, t.flags, t.win, 0, t.urg]) (i := 0) rfl) (by decide) (by decide) (by decide) rfl (tcp20_pack hz.2)) ?_
   rintro _ w13 ⟨u12, out, rfl, hF, hpk⟩
   have hout : out = tcp20 t := bits_of_eq hpk.1 hpk.2.1 hpk.2.2.2 rfl (tcp20_byt hz.2) (tcp20_bits hz.2)
   subst hout
   have S := S.fb hF
   have SC := S.pick [false, false, true, true, true, true, true] rfl
   refine Hb.on SC ?_
   refine Hb.take (i := 21) SC (fun _ _ S B => S.call B) Pp.body rfl (by kernel_rfl) (by kernel_rfl) (by kernel_rfl) rfl rfl ?_
   refine qmv rfl rfl rfl rfl ?_
   refine Hb.back ?_
   refine Hb.take (i := 22) SC (fun _ _ S B => S.call B) Pp.body rfl (by kernel_rfl) (by kernel_rfl) (by kernel_rfl) rfl rfl ?_
   refine qextr rfl rfl rfl rfl rfl ?_
   refine Hb.back ?_
   refine Hb.take (i := 23) SC (fun _ _ S B => S.call B) Pp.body rfl (by kernel_rfl) (by kernel_rfl) (by kernel_rfl) rfl rfl ?_
   refine qextr rfl rfl rfl rfl rfl ?_
   refine Hb.back ?_
   refine Hb.take (i := 24) SC (fun _ _ S B => S.call B) Pp.body rfl (by kernel_rfl) (by kernel_rfl) (by kernel_rfl) rfl rfl ?_
   refine qasg rfl rfl rfl rfl ?_
   refine Hb.back ?_
   refine Hb.take (i := 25) SC (fun _ _ S B => S.call B) Pp.body rfl (by kernel_rfl) (by kernel_rfl) (by kernel_rfl) rfl rfl ?_
   refine qasg rfl rfl rfl rfl ?_
   refine Hb.back ?_
   refine Hb.done (by kernel_rfl) ?_
   intro w14 BD; have S := S.call BD
   refine Nrm.code ?_
   refine Run.seq ?_
   refine Run.region ?_
   refine mv1 rfl rfl ?_
   refine mv1 rfl rfl ?_
   refine apB rfl rfl e26 (S.bsI (i := 3) rfl hpb) S (i := 0) rfl rfl (fun _ => rfl) (by omega) ?_
   intro u12b w15 S B_
   refine asg1 rfl rfl ?_
   refine Ro.nil ?_
   refine Nrm.code ?_
   refine Run.seq ?_
   refine Run.region ?_
   refine mv1 rfl rfl ?_
   refine fld (o' := 8) rfl fo82_8 rfl rfl rfl rfl ?_
   refine ld1 rfl T26 S (i := 4) rfl rfl rfl rfl rfl ?_
   refine apB rfl rfl e26 (hd.now S) S (i := 0) rfl rfl (fun _ => rfl) (by omega) ?_
   intro u12c w16 S B_
   have S : St [] w (oB u12c (tcpB0 t) :: _) w16 := S
   refine asg1 rfl rfl ?_
   refine Ro.nil ?_
   refine Nrm.code ?_
   refine Run.seq ?_
   refine Run.region ?_
   refine ldW rfl T24 S (i := 6) rfl rfl rfl rfl rfl ?_
   refine ldW rfl T24 S (i := 5) rfl rfl rfl rfl rfl ?_
   refine mv1 rfl rfl ?_
   refine lenS rfl (S.slI (i := 0) rfl) Tryd.underlying26 rfl rfl rfl ?_
   refine call (vs := [_, _, _, _]) ⟨⟨_, _, rfl, rfl⟩, ⟨_, _, rfl, rfl⟩, ⟨_, _, rfl, rfl⟩, ⟨_, _, rfl, rfl⟩, trivial⟩ k58 rfl (c58 _ _ _ _ _ hs ht (by unfold inI; omega)) ?_
   rintro _ w17 ⟨up, rfl, hF⟩
   have S := S.fb hF
   refine mv1 rfl rfl ?_
   refine extr1 rfl rfl rfl ?_
   refine extr1 rfl rfl rfl ?_
   refine asg1 rfl rfl ?_
   refine asg1 rfl rfl ?_
   refine Ro.nil ?_
   refine Nrm.code ?_
   refine Run.seq ?_
   refine Run.region ?_
   refine mv1 rfl rfl ?_
   refine mv1 rfl rfl ?_
   refine bsl e102 (qs := [(_, _), (_, _)]) ⟨⟨_, _, _, rfl, rfl, cells1 (S.slI (i := 0) rfl).one, rfl, List.cons_ne_nil _ _⟩, ⟨_, _, _, rfl, rfl, cells1 (S.slI (i := 1) rfl).one, rfl, List.cons_ne_nil _ _⟩, trivial⟩ rfl rfl rfl rfl S ?_
   intro u75 w18 S B_
   have hck : CallsD Tryd.prog 97 #[u75] w18 (.int .i64 (tcpC s d t)) := by
    have := c97 u75 [pseL s d 6 (tcpB0 t).length, tcpB0 t] w18 ⟨[_, _], S.slI (i := 0) rfl, S.bsI (i := 1) rfl (pseL_byt hs ht _ _), S.bsI (i := 2) rfl hbB, trivial⟩ (by have := (pseL_len s d 6 (tcpB0 t).length).1; simp; omega) (by simp)
    rw [show [pseL s d 6 (tcpB0 t).length, tcpB0 t].flatten = pseL s d 6 (tcpB0 t).length ++ tcpB0 t from by simp] at this
    exact this
   refine calg (vs := [_]) rfl ⟨⟨_, _, rfl, rfl⟩, trivial⟩ k97 rfl (fun hG => hck) ?_
   intro w19 B_; have S := S.call B_
   refine asg1 rfl rfl ?_
   refine Ro.nil ?_
   refine Nrm.code ?_
   refine Run.seq ?_
   refine Run.region ?_
   refine mv1 rfl rfl ?_
   refine mv1 rfl rfl ?_
   refine mv1 rfl rfl ?_
   refine shr rfl rfl rfl rfl rfl rfl (fun _ => by decide) (fun _ => sh8 _) ?_
   refine cvi1 rfl rfl Tryd.underlying3 Tryd.underlying5 (w8of (y := tcpC s d t / 256) rfl (by omega)) ?_
   refine mv1 rfl rfl ?_
   refine cvi1 rfl rfl Tryd.underlying3 Tryd.underlying5 (w8m (tcpC s d t)) ?_
   refine ixa rfl rfl (S.slI (i := 2) rfl) e26 rfl rfl rfl rfl (fun _ => by omega) ?_
   refine stB rfl rfl T5 S (i := 2) rfl (by omega) rfl ?_
   intro w20 S
   refine ixa rfl rfl (S.slI (i := 2) rfl) e26 rfl rfl rfl rfl (fun _ => by rw [List.length_set]; omega) ?_
   refine stB rfl rfl T5 S (i := 2) rfl (by rw [List.length_set]; omega) rfl ?_
   intro w21 S
   refine Ro.nil ?_
   refine Nrm.code ?_
   refine Run.seq ?_
   refine Run.region ?_
   refine mv1 rfl rfl ?_
   refine asg1 rfl rfl ?_
   refine asg1 rfl rfl ?_
   refine Ro.nil ?_
   refine Nrm.code ?_
   refine Run.ret ?_
   refine Rt.two rfl rfl rfl ?_
   have hl0 : putTL s d t = ((tcpB0 t).set 16 (tcpC s d t / 256)).set 17 (tcpC s d t % 256) := by unfold putTL putTB; rw [if_pos hpe]
   exact ⟨_, by rw [hpe], by rw [hl0]; exact S.toFB (i := 2) rfl⟩
end Go.Proofs.YtkahmepenjhcpaaDoor.W
/- Contracts: what a segment may hold is bounded. No statement of the seat is proved here. -/
namespace Go.Proofs.YtkahmepenjhcpaaDoor.W
open Go
set_option linter.unusedSimpArgs false
set_option linter.unusedVariables false
section
variable {P : Program} {R : Qp} {ds : List Deferred} {n : Nat} {l : Env} {k : List KI} {w w0 : World} {ops : Array Oper} {os : List Oper}
variable {d : Nat} {G gx gy ex ey : Gs} {ty T T' : TypeId} {ps : String} {af : Array Edge} {gu : Option (Nat × Bool)} {x y : Operand}
theorem maxI {a b : Int} (hx : ev l x = some (gx, .int .i64 a)) (hy : ev l y = some (gy, .int .i64 b)) (hG : gd ops l gu = some G) (hpx : G = gx ++ ex) (hpy : G = gy ++ ey) (hn : Nat.blt d n = true)
    (h : Ro P R ds n ops ((d, G, .int .i64 (if b > a then b else a)) :: l) os k w) :
    Ro P R ds n ops l ({ dst := some d, op := .call { callee := .builtin .max, args := #[x, y], argTypes := #[T, T'] }, type := ty, pos := ps, after := af, guard := gu } :: os) k w := by
  refine opv hG rfl hn ?_ h
  intro hT' a' ha
  simp [execOp, resolve, invoke, builtin, Builtin.max_, Builtin.max2, ha.eval hx (pre_T hpx hT'), ha.eval hy (pre_T hpy hT')]
end
def clM (m : Int) : Int := if 0 > m then 0 else m
theorem clM_bd (m : Int) : 0 ≤ clM m := by unfold clM; split <;> omega
def synN (f : Int) : Int := IntKind.i64.wrap (((f % 2 ^ IntKind.i64.bits).toNat &&& ((2 : Int) % 2 ^ IntKind.i64.bits).toNat : Nat) : Int)
def clB (m f : Int) (o : Opt) : Bool := (toldB o && decide (m < toldN o)) && decide (synN f ≠ 0)
def clampO (m f : Int) (o : Opt) : Opt := if clB m f o = true then ⟨o.kind, [m / 256, m % 256]⟩ else o
def clampT (t : Tcp) (m : Int) : Tcp := { t with opts := t.opts.map (clampO (clM m) t.flags) }
theorem clampO_eta (m f : Int) (o : Opt) : (⟨o.kind, (clampO m f o).data⟩ : Opt) = clampO m f o := by unfold clampO; split <;> rfl
theorem clB_parts {m f : Int} {o : Opt} (h : clB m f o = true) : toldB o = true ∧ m < toldN o ∧ synN f ≠ 0 := by
  simpa only [clB, Bool.and_eq_true, decide_eq_true_eq, and_assoc] using h
theorem told_bd {o : Opt} (h : byt o.data) : 0 ≤ toldN o ∧ toldN o < 65536 := by
  have := wd2_bd h 0
  unfold toldN; split <;> omega
theorem clampO_byt {m f : Int} {o : Opt} (hm : 0 ≤ m) (h : byt o.data) : byt (clampO m f o).data := by
  unfold clampO
  split
  · rename_i hc
    have := clB_parts hc
    have := told_bd h
    exact byt2 (by omega)
  · exact h
theorem St.layOld {w0 w : World} {L L' : List Own} {v : Value} {l : List Int} {i : Nat} (S : St [] w0 L w) (hk : getN L i = some (oB v l)) (hd : delN L i = some L') (hb : byt l) : ∀ N, (∀ i ∈ N, i < w0.heap.size) → BS (idsL L' ++ N) w v l := by
  intro N hN
  obtain ⟨A, B, rfl, rfl⟩ := delN_spec _ _ _ _ hd hk
  refine ⟨hb, Own.sl (S.rowI hk) _ (fun j hj hn => ?_)⟩
  rcases List.mem_append.1 hn with hm | hn
  · have hnd := S.nodup
    simp only [idsL, List.flatMap_append, List.flatMap_cons] at hnd hm
    rw [← List.append_assoc] at hnd
    obtain ⟨ha, _, hc⟩ := List.nodup_append.1 hnd
    obtain ⟨_, _, hab⟩ := List.nodup_append.1 ha
    rcases List.mem_append.1 hm with hm | hm
    · exact hab j hm j hj rfl
    · exact hc j (List.mem_append.2 (.inr hj)) j hm rfl
  · have h1 := S.fresh hk j hj
    have h2 := hN j hn
    omega
theorem rng_lt {w : World} : ∀ i ∈ List.range w.heap.size, i < w.heap.size := fun i hi => List.mem_range.1 hi
theorem tail_sub {o : Own} {L : List Own} {R : List Nat} : ∀ i ∈ idsL L ++ R, i ∈ idsL (o :: L) ++ R := by
  intro i hi
  rcases List.mem_append.1 hi with h | h
  · exact List.mem_append_left _ (by simp only [idsL, List.flatMap_cons]; exact List.mem_append_right _ h)
  · exact List.mem_append_right _ h
set_option maxHeartbeats 1000000 in
theorem c69 (t : Tcp) (m : Int) (o dv : Value) (w : World) (hO : OS [] w o t.opts) (hd : BS [] w dv t.data) (hol : t.opts.length ≤ 1099511627776) (hoo : ∀ p ∈ t.opts, p.data.length ≤ 1099511627776) :
  CallsV Tryd.prog 69 #[.agg (encTcp t o dv).toArray, .int .i64 m] w (fun r w' => ∃ o', r = .agg (encTcp (clampT t m) o' dv).toArray ∧ FOS w w' o' (clampT t m).opts) := by
 refine enter Tryd.func69 rfl Tryd.ntmps69 (l := [(0, [], _), (1, [], _)]) rfl rfl ?_
 have S := St.refl [] w
 obtain ⟨ds, hOS, hOB⟩ := id hO
 have hcm := clM_bd m
 refine Run.seq ?_
 refine Run.region ?_
 refine boxA rfl S rfl ?_
 intro b2 w1 hb2 S B_
 refine alc T82 S rfl ?_
 intro b4 w2 hb4 S B_
 refine Ro.nil ?_
 refine Nrm.code ?_
 refine Run.seq ?_
 refine Run.region ?_
 refine mv1 rfl rfl ?_
 refine maxI rfl rfl rfl rfl rfl rfl ?_
 refine asg1 rfl rfl ?_
 refine Ro.nil ?_
 refine Nrm.code ?_
 refine Run.seq ?_
 refine Run.region ?_
 refine asg1 rfl rfl ?_
 have S := S.nilO
 refine Ro.nil ?_
 refine Nrm.code ?_
 refine Run.seq ?_
 refine Run.seq ?_
 refine Run.region ?_
 refine fld (o' := 7) rfl fo82_7 rfl rfl rfl rfl ?_
 refine ld1 rfl T25 S (i := 2) rfl rfl rfl rfl rfl ?_
 refine lenS rfl hOS Tryd.underlying25 rfl rfl rfl ?_
 refine mv1 rfl rfl ?_
 refine Ro.nil ?_
 refine Nrm.code ?_
 refine Run.block ?_
 refine Run.loop4 (fun (i : Nat) (u : Value) (acc : List Opt) (vs : List Value) w_ => i ≤ t.opts.length ∧ vs.length = acc.length ∧ acc = (t.opts.take i).map (clampO (clM m) t.flags) ∧ OSs (idsL [oO u acc vs, .var b4 82 [.int .i64 0, .int .i64 0, .int .i64 0, .int .i64 0, .int .i64 0, .int .i64 0, .int .i64 0, .slice none 0 0, .slice none 0 0], .var b2 82 (encTcp t o dv)] ++ List.range w.heap.size) w_ vs acc ∧ St [] w [oO u acc vs, .var b4 82 [.int .i64 0, .int .i64 0, .int .i64 0, .int .i64 0, .int .i64 0, .int .i64 0, .int .i64 0, .slice none 0 0, .slice none 0 0], .var b2 82 (encTcp t o dv)] w_) (fun (i : Nat) (u : Value) (acc : List Opt) (vs : List Value) => [(1, [], .int .i64 (clM m)), (2, [], .pointer (some ⟨b2, 0, none⟩)), (4, [], .pointer (some ⟨b4, 0, none⟩)), (5, [], u), (13, [], o), (14, [], .int .i64 t.opts.length), (15, [], .int .i64 i)]) (fun (i : Nat) (u : Value) (acc : List Opt) (vs : List Value) => t.opts.length - i) (0) (_) ([]) ([]) ⟨Nat.zero_le _, rfl, rfl, trivial, S⟩ ⟨rfl, rfl, rfl, rfl, rfl, rfl, rfl, trivial⟩ ?_
 rintro i u acc vs w3 ⟨hi, hvl, hacc, hvs, S⟩
 have hal : acc.length = i := by rw [hacc, List.length_map, List.length_take]; omega
 refine Run.seq ?_
 refine Run.region ?_
 refine lss1 rfl rfl rfl ?_
 refine Ro.nil ?_
 refine Nrm.code ?_
 refine Run.seq ?_
 refine Run.cond rfl (fun hc4 => ?_) (fun hc4 => ?_)
 ·
  try simp only [Bool.or_eq_true, Bool.and_eq_true, Bool.or_eq_false_iff, Bool.and_eq_false_iff, decide_eq_true_eq, decide_eq_false_iff_not, Bool.not_eq_true', Bool.not_eq_false', Bool.not_eq_true, Bool.not_eq_false] at hc4
  refine Run.skip ?_
  refine Nrm.code ?_
  refine Run.seq ?_
  refine Run.block ?_
  refine Run.seq ?_
  refine Run.region ?_
  obtain ⟨N1, hN1, S_1⟩ := S.reb
  have hO := hO.st S; rw [hN1] at hO
  have hd := hd.st S; rw [hN1] at hd
  have hOS := hOS.st S; rw [hN1] at hOS
  have hOB := hOB.st S; rw [hN1] at hOB
  rw [hN1] at hvs
  have SS := S
  have SL := S
  have S := S_1
  obtain ⟨p1, hp1, hb1⟩ := hOB.at (i := i) (by omega)
  refine ixa rfl rfl hOS e25 rfl rfl rfl rfl (fun _ => by first | omega | (simp only [List.length_cons, List.length_nil]; omega)) ?_
  refine ldEA rfl hOS S T93 rfl rfl rfl (by decide) rfl (fun _ => hOB.two (by omega) hp1) ?_
  refine alc T93 S rfl ?_
  intro b7 w4 hb7 S B_
  refine stW rfl rfl T93 rfl rfl (one_cons rfl (one_cons hb1.one one_nil)) S (i := 0) rfl rfl ?_
  intro w5 S
  refine Ro.nil ?_
  refine Nrm.code ?_
  refine Run.seq ?_
  refine Run.region ?_
  refine fld (o' := 1) rfl fo93_1 rfl rfl rfl rfl ?_
  refine ld1 rfl T26 S (i := 0) rfl rfl rfl rfl rfl ?_
  have S := S.nilB
  refine apB rfl rfl e26 (hb1.now S) S (i := 0) rfl rfl (fun _ => rfl) (by have := hoo _ (getD_mem' (d := o0) (show i < t.opts.length by omega)); simp only [List.length_nil]; omega) ?_
  intro q6 w6 S B_
  rw [List.nil_append] at S
  refine fld (o' := 1) rfl fo93_1 rfl rfl rfl rfl ?_
  refine st1 rfl rfl T26 (S.slI (i := 0) rfl).one S (i := 1) rfl rfl rfl ?_
  intro w7 S
  refine Ro.nil ?_
  refine Nrm.code ?_
  refine Run.cut (γ := Value) (fun g w_ => St N1 w3 [oB g (clampO (clM m) t.flags (t.opts.getD i o0)).data, .var b7 93 [i64 (t.opts.getD i o0).kind, g], oO u acc vs, .var b4 82 [.int .i64 0, .int .i64 0, .int .i64 0, .int .i64 0, .int .i64 0, .int .i64 0, .int .i64 0, .slice none 0 0, .slice none 0 0], .var b2 82 (encTcp t o dv)] w_) (fun g => [(1, [], .int .i64 (clM m)), (2, [], .pointer (some ⟨b2, 0, none⟩)), (4, [], .pointer (some ⟨b4, 0, none⟩)), (5, [], u), (7, [], .pointer (some ⟨b7, 0, none⟩)), (13, [], o), (14, [], .int .i64 t.opts.length), (15, [], .int .i64 i)]) ?_ ?_
  ·
   refine Run.seq ?_
   refine Run.region ?_
   refine ldW rfl T93 S (i := 1) rfl rfl rfl rfl rfl ?_
   refine calg (vs := [_]) rfl ⟨⟨_, _, rfl, rfl⟩, trivial⟩ k128 rfl (fun hG => c128 (t.opts.getD i o0) _ _ (S.bsI (i := 0) rfl hb1.1)) ?_
   intro w8 B_; have S := S.call B_
   refine mv1 rfl rfl ?_
   refine extr1 rfl rfl rfl ?_
   refine extr1 rfl rfl rfl ?_
   refine asg1 rfl rfl ?_
   refine asg1 rfl rfl ?_
   refine Ro.nil ?_
   refine Nrm.code ?_
   refine Run.seq ?_
   refine Run.region ?_
   refine mv1 rfl rfl ?_
   refine mv1 rfl rfl ?_
   refine mv rfl rfl rfl rfl ?_
   refine mv rfl rfl rfl rfl ?_
   refine gtr rfl rfl rfl rfl rfl rfl ?_
   refine pkA rfl rfl rfl rfl rfl rfl ?_
   refine mv1 rfl rfl ?_
   refine fld (o' := 4) rfl fo82_4 rfl rfl rfl rfl ?_
   refine ld1 rfl T3 S (i := 4) rfl rfl rfl rfl rfl ?_
   refine band rfl rfl rfl rfl rfl rfl (fun hG => by first | exact rfl | (simp [allT] at hG; exact rfl)) ?_
   refine neq rfl rfl rfl rfl rfl rfl ?_
   refine pkA rfl rfl rfl rfl rfl rfl ?_
   refine Ro.nil ?_
   refine Nrm.code ?_
   refine Run.cond rfl (fun hc8 => ?_) (fun hc8 => ?_)
   ·
    refine Run.region ?_
    have hcl := clB_parts (show clB (clM m) t.flags (t.opts.getD i o0) = true from hc8)
    have htb := told_bd hb1.1
    refine mv1 rfl rfl ?_
    refine shr rfl rfl rfl rfl rfl rfl (fun _ => by decide) (fun _ => sh8 _) ?_
    refine cvi1 rfl rfl Tryd.underlying3 Tryd.underlying5 (w8of (y := clM m / 256) rfl (by omega)) ?_
    refine mv1 rfl rfl ?_
    refine cvi1 rfl rfl Tryd.underlying3 Tryd.underlying5 (w8m (clM m)) ?_
    refine bsl e26 (qs := [(_, _), (_, _)]) ⟨⟨_, _, _, rfl, rfl, rfl, rfl, by first | (simp [Value.cells]; done) | simp [Value.cells, encIP]⟩, ⟨_, _, _, rfl, rfl, rfl, rfl, by first | (simp [Value.cells]; done) | simp [Value.cells, encIP]⟩, trivial⟩ rfl rfl rfl rfl S ?_
    intro u45 w9 S B_
    have S : St _ _ (oB u45 [clM m / 256, clM m % 256] :: _) w9 := S
    refine fld (o' := 1) rfl fo93_1 rfl rfl rfl rfl ?_
    refine st1 rfl rfl T26 (S.slI (i := 0) rfl).one S (i := 2) rfl rfl rfl ?_
    intro w10 S
    refine Ro.nil ?_
    exact Nrm.cut _ (by rw [clampO, if_pos (show clB (clM m) t.flags (t.opts.getD i o0) = true from hc8)]; exact S.pick [true, false, true, true, true, true] rfl) ⟨rfl, rfl, rfl, rfl, rfl, rfl, rfl, rfl, trivial⟩
   ·
    refine Run.skip ?_
    exact Nrm.cut _ (by rw [clampO, if_neg (show ¬ clB (clM m) t.flags (t.opts.getD i o0) = true from by rw [show clB (clM m) t.flags (t.opts.getD i o0) = false from hc8]; simp)]; exact S) ⟨rfl, rfl, rfl, rfl, rfl, rfl, rfl, rfl, trivial⟩
  ·
   rintro q2 w8 S
   refine Run.region ?_
   refine mv1 rfl rfl ?_
   refine ldW rfl T93 S (i := 1) rfl rfl rfl rfl rfl ?_
   refine apOF (dt := (clampO (clM m) t.flags (t.opts.getD i o0)).data) rfl e25 (qs := [(_, _)]) ⟨⟨_, _, _, rfl, rfl, rfl, rfl, by first | (simp [Value.cells]; done) | simp [Value.cells, encIP]⟩, trivial⟩ rfl (S.slI (i := 0) rfl).one hvl S (i := 2) rfl rfl rfl (fun t e => by cases e; rfl) (fun _ => rfl) (by first | omega | (simp only [List.length_nil, List.length_append, List.length_cons]; omega)) ?_
   intro u_ u2 w9 S B_
   refine asg1 rfl rfl ?_
   refine Ro.nil ?_
   refine Nrm.blk ?_
   refine Nrm.code ?_
   refine Run.region ?_
   refine add1 rfl rfl rfl (w64 (by omega)) ?_
   refine mv1 rfl rfl ?_
   refine Ro.nil ?_
   refine Nrm.loop4 (i + 1) (_) (_) (_) ⟨by omega, by simp [hvl], by rw [clampO_eta, take_succ_getD (show i < t.opts.length by omega) (d := o0), List.map_append, hacc]; rfl,
     OSs.snoc (BSs.weak tail_sub (OSs.reF hvs (S.pick [true, false, true, true, true] rfl))) (((SS.tran hN1 S).pick [true, false, true, true, true] rfl).layOld (i := 0) rfl rfl (clampO_byt (clM_bd m) hb1.1) _ rng_lt), (SS.tran hN1 S).pick [false, false, true, true, true] rfl⟩ (by omega) ⟨rfl, rfl, rfl, rfl, rfl, rfl, rfl, trivial⟩
 ·
  try simp only [Bool.or_eq_true, Bool.and_eq_true, Bool.or_eq_false_iff, Bool.and_eq_false_iff, decide_eq_true_eq, decide_eq_false_iff_not, Bool.not_eq_true', Bool.not_eq_false', Bool.not_eq_true, Bool.not_eq_false] at hc4
  refine Run.exit ?_
  refine Lv.code ?_
  refine Lv.back ?_
  refine Lv.hit ?_
  refine Nrm.code ?_
  refine Run.seq ?_
  refine Run.region ?_
  obtain ⟨N2, hN2, S_2⟩ := S.reb
  have hO := hO.st S; rw [hN2] at hO
  have hd := hd.st S; rw [hN2] at hd
  have hOS := hOS.st S; rw [hN2] at hOS
  have hOB := hOB.st S; rw [hN2] at hOB
  rw [hN2] at hvs
  have SS := S
  have S := S_2
  refine mv1 rfl rfl ?_
  refine fld (o' := 7) rfl fo82_7 rfl rfl rfl rfl ?_
  refine st1 rfl rfl T25 (S.slI (i := 0) rfl).one S (i := 2) rfl rfl rfl ?_
  intro w4 S
  refine Ro.nil ?_
  refine Nrm.code ?_
  refine Run.seq ?_
  refine Run.region ?_
  refine ldW rfl T82 S (i := 2) rfl rfl rfl rfl rfl ?_
  refine stW rfl rfl T82 rfl rfl (one_cons rfl (one_cons rfl (one_cons rfl (one_cons rfl (one_cons rfl (one_cons rfl (one_cons rfl (one_cons (S.slI (i := 0) rfl).one (one_cons hd.one one_nil))))))))) S (i := 1) rfl rfl ?_
  intro w5 S
  refine Ro.nil ?_
  refine Nrm.code ?_
  refine Run.ret ?_
  refine Rt.cell1 rfl rfl T82 S (i := 1) rfl rfl ?_
  have e : i = t.opts.length := by omega
  rw [e, List.take_length] at hacc
  subst hacc
  exact ⟨u, rfl, (SS.tran hN2 S).toFOS (i := 0) rfl (fun N hN => hvs.fin S hN)⟩
end Go.Proofs.YtkahmepenjhcpaaDoor.W
/- Contracts: the plain datagram. No statement of the seat is proved here. -/
namespace Go.Proofs.YtkahmepenjhcpaaDoor.W
open Go
set_option linter.unusedSimpArgs false
set_option linter.unusedVariables false
def plainH : Ip4 := ⟨0, 0, false, false, 0, 64, 17, ip4of 10 0 0 1, ip4of 10 0 0 2, [], [104, 105]⟩
def plainB : List Int := [69, 0, 0, 22, 0, 0, 0, 0, 64, 17, 102, 213, 10, 0, 0, 1, 10, 0, 0, 2, 104, 105]
theorem plain_chk : chkE plainH = 0 := by decide +kernel
theorem plain_ser : serL plainH = plainB := by decide +kernel
theorem plain_opt : optE (optB4 plainB) = 0 ∧ optL (optB4 plainB) = [] := by
  have e : optB4 plainB = [] := by decide +kernel
  rw [e]; simp [optE, optL, optsG]
theorem plain_par : parE plainB = 0 := by
  unfold parE
  rw [plain_opt.1]
  decide +kernel
theorem plain_same : sameH (parH plainB) plainH = true := by
  unfold parH
  rw [if_pos plain_par]
  unfold sameH parG
  rw [plain_opt.2]
  decide +kernel
theorem par_nil : parE [] = 60 := by decide +kernel
theorem plainH_ok : plainH.src.ok ∧ plainH.dst.ok := ⟨ip4of_ok (by omega) (by omega) (by omega) (by omega), ip4of_ok (by omega) (by omega) (by omega) (by omega)⟩
theorem hi_byt : byt [104, 105] := by intro x hx; revert x; decide +kernel
theorem plainB_byt : byt plainB := by intro x hx; revert x; decide +kernel
set_option maxHeartbeats 1000000 in
theorem c92 (w : World) :
  CallsV Tryd.prog 92 #[] w (fun r w' => ∃ d v, r = .tuple #[.agg (encIp4 plainH (.slice none 0 0) d).toArray, v] ∧ Bl w w' ∧ ∀ N, (∀ i ∈ N, i < w.heap.size) → BS N w' d [104, 105] ∧ BS N w' v plainB) := by
 refine enter Tryd.func92 rfl Tryd.ntmps92 (l := []) rfl rfl ?_
 have S := St.refl [] w
 refine Run.seq ?_
 refine Run.region ?_
 refine alc T28 S rfl ?_
 intro b0 w1 hb0 S B_
 refine asg1 rfl rfl ?_
 refine Ro.nil ?_
 refine Nrm.code ?_
 refine Run.seq ?_
 refine Run.region ?_
 refine bldA rfl (sz := 1) (E := 5) (m := 16) Tryd.underlying22 T22 T5 (qs := [(_, _), (_, _), (_, _), (_, _)]) ⟨⟨_, _, _, rfl, rfl, rfl, rfl, by simp [Value.cells]⟩, ⟨_, _, _, rfl, rfl, rfl, rfl, by simp [Value.cells]⟩, ⟨_, _, _, rfl, rfl, rfl, rfl, by simp [Value.cells]⟩, ⟨_, _, _, rfl, rfl, rfl, rfl, by simp [Value.cells]⟩, trivial⟩ rfl rfl ?_
 refine bld B24 (qs := [(_, _), (_, _)]) ⟨⟨_, _, _, rfl, rfl, rfl, rfl, by simp [Value.cells]⟩, ⟨_, _, _, rfl, rfl, rfl, rfl, by simp [Value.cells]⟩, trivial⟩ rfl rfl rfl ?_
 refine bldA rfl (sz := 1) (E := 5) (m := 16) Tryd.underlying22 T22 T5 (qs := [(_, _), (_, _), (_, _), (_, _)]) ⟨⟨_, _, _, rfl, rfl, rfl, rfl, by simp [Value.cells]⟩, ⟨_, _, _, rfl, rfl, rfl, rfl, by simp [Value.cells]⟩, ⟨_, _, _, rfl, rfl, rfl, rfl, by simp [Value.cells]⟩, ⟨_, _, _, rfl, rfl, rfl, rfl, by simp [Value.cells]⟩, trivial⟩ rfl rfl ?_
 refine bld B24 (qs := [(_, _), (_, _)]) ⟨⟨_, _, _, rfl, rfl, rfl, rfl, by simp [Value.cells]⟩, ⟨_, _, _, rfl, rfl, rfl, rfl, by simp [Value.cells]⟩, trivial⟩ rfl rfl rfl ?_
 refine bsk (b := [104, 105]) e26 Tryd.underlying5 hi_byt (qs := [(_, _), (_, _)]) ⟨⟨_, _, _, rfl, rfl, rfl, rfl, by simp [Value.cells]⟩, ⟨_, _, _, rfl, rfl, rfl, rfl, by simp [Value.cells]⟩, trivial⟩ rfl rfl rfl rfl rfl (by decide) S ?_
 have S0 := S
 intro u q w2 S B_ hq
 have hq1 := hq [] (by simp)
 have Sb := S
 have S := S.rebase
 refine bld B28 (qs := [(_, _), (_, _), (_, _), (_, _), (_, _)]) ⟨⟨_, _, _, rfl, rfl, rfl, rfl, by simp [Value.cells]⟩, ⟨_, _, _, rfl, rfl, rfl, rfl, by simp [Value.cells]⟩, ⟨_, _, _, rfl, rfl, rfl, rfl, by simp [Value.cells]⟩, ⟨_, _, _, rfl, rfl, rfl, rfl, by simp [Value.cells]⟩, ⟨_, _, _, rfl, rfl, cells1 hq1.one, rfl, List.cons_ne_nil _ _⟩, trivial⟩ rfl rfl rfl ?_
 refine alc T28 S rfl ?_
 intro b2 w3 hb2 S B_
 refine stW rfl rfl T28 rfl rfl (one_cons rfl (one_cons rfl (one_cons rfl (one_cons rfl (one_cons rfl (one_cons rfl (one_cons rfl (one_cons rfl (one_cons rfl (one_cons rfl (one_cons rfl (one_cons rfl (one_cons rfl (one_cons rfl (one_cons rfl (one_cons rfl (one_cons rfl (one_cons rfl (one_cons rfl (one_cons rfl (one_cons rfl (one_cons rfl (one_cons rfl (one_cons rfl (one_cons rfl (one_cons rfl (one_cons rfl (one_cons rfl (one_cons rfl (one_cons rfl (one_cons rfl (one_cons rfl (one_cons rfl (one_cons rfl (one_cons rfl (one_cons rfl (one_cons rfl (one_cons rfl (one_cons rfl (one_cons rfl (one_cons rfl (one_cons rfl (one_cons hq1.one one_nil))))))))))))))))))))))))))))))))))))))))))) S (i := 0) rfl rfl ?_
 intro w4 S
 refine Ro.nil ?_
 refine Nrm.code ?_
 refine Run.seq ?_
 refine Run.region ?_
 refine ldW rfl T28 S (i := 0) rfl rfl rfl rfl rfl ?_
 refine bsl e26 (qs := [(_, _), (_, _), (_, _), (_, _), (_, _), (_, _), (_, _), (_, _), (_, _), (_, _), (_, _), (_, _), (_, _), (_, _), (_, _), (_, _), (_, _), (_, _), (_, _), (_, _), (_, _), (_, _)]) ⟨⟨_, _, _, rfl, rfl, rfl, rfl, by simp [Value.cells]⟩, ⟨_, _, _, rfl, rfl, rfl, rfl, by simp [Value.cells]⟩, ⟨_, _, _, rfl, rfl, rfl, rfl, by simp [Value.cells]⟩, ⟨_, _, _, rfl, rfl, rfl, rfl, by simp [Value.cells]⟩, ⟨_, _, _, rfl, rfl, rfl, rfl, by simp [Value.cells]⟩, ⟨_, _, _, rfl, rfl, rfl, rfl, by simp [Value.cells]⟩, ⟨_, _, _, rfl, rfl, rfl, rfl, by simp [Value.cells]⟩, ⟨_, _, _, rfl, rfl, rfl, rfl, by simp [Value.cells]⟩, ⟨_, _, _, rfl, rfl, rfl, rfl, by simp [Value.cells]⟩, ⟨_, _, _, rfl, rfl, rfl, rfl, by simp [Value.cells]⟩, ⟨_, _, _, rfl, rfl, rfl, rfl, by simp [Value.cells]⟩, ⟨_, _, _, rfl, rfl, rfl, rfl, by simp [Value.cells]⟩, ⟨_, _, _, rfl, rfl, rfl, rfl, by simp [Value.cells]⟩, ⟨_, _, _, rfl, rfl, rfl, rfl, by simp [Value.cells]⟩, ⟨_, _, _, rfl, rfl, rfl, rfl, by simp [Value.cells]⟩, ⟨_, _, _, rfl, rfl, rfl, rfl, by simp [Value.cells]⟩, ⟨_, _, _, rfl, rfl, rfl, rfl, by simp [Value.cells]⟩, ⟨_, _, _, rfl, rfl, rfl, rfl, by simp [Value.cells]⟩, ⟨_, _, _, rfl, rfl, rfl, rfl, by simp [Value.cells]⟩, ⟨_, _, _, rfl, rfl, rfl, rfl, by simp [Value.cells]⟩, ⟨_, _, _, rfl, rfl, rfl, rfl, by simp [Value.cells]⟩, ⟨_, _, _, rfl, rfl, rfl, rfl, by simp [Value.cells]⟩, trivial⟩ rfl rfl rfl rfl S ?_
 intro u11 w5 S B_
 refine stW rfl rfl T28 rfl rfl (one_cons rfl (one_cons rfl (one_cons rfl (one_cons rfl (one_cons rfl (one_cons rfl (one_cons rfl (one_cons rfl (one_cons rfl (one_cons rfl (one_cons rfl (one_cons rfl (one_cons rfl (one_cons rfl (one_cons rfl (one_cons rfl (one_cons rfl (one_cons rfl (one_cons rfl (one_cons rfl (one_cons rfl (one_cons rfl (one_cons rfl (one_cons rfl (one_cons rfl (one_cons rfl (one_cons rfl (one_cons rfl (one_cons rfl (one_cons rfl (one_cons rfl (one_cons rfl (one_cons rfl (one_cons rfl (one_cons rfl (one_cons rfl (one_cons rfl (one_cons rfl (one_cons rfl (one_cons rfl (one_cons rfl (one_cons rfl (one_cons hq1.one one_nil))))))))))))))))))))))))))))))))))))))))))) S (i := 2) rfl rfl ?_
 intro w6 S
 refine asg1 rfl rfl ?_
 refine Ro.nil ?_
 refine Nrm.code ?_
 refine Run.ret ?_
 refine Rt.cell2 rfl rfl rfl T28 S (i := 2) rfl rfl ?_
 exact ⟨q, u11, rfl, (Sb.trans S).bl, fun N hN => ⟨((hq _ (below_app S0 hN)).stN (fun _ h => List.mem_append_left _ h) S).weak (fun j hj => List.mem_append_right _ (List.mem_append_right _ hj)), ((Sb.trans S).toFB (i := 0) (l := plainB) rfl).bs plainB_byt hN⟩⟩
set_option maxHeartbeats 1000000 in
theorem c28 (w : World) (hg : GV [] w 0 130 (W4.map i64)) :
  CallsD Tryd.prog 28 #[] w (.bool true) := by
 refine enter Tryd.func28 rfl Tryd.ntmps28 (l := []) rfl rfl ?_
 have S := St.refl [] w
 refine Run.seq ?_
 refine Run.region ?_
 refine asg1 rfl rfl ?_
 refine Ro.nil ?_
 refine Nrm.code ?_
 refine Run.seq ?_
 refine Run.region ?_
 refine call (vs := []) trivial k92 rfl (c92 _) ?_
 rintro _ w1 ⟨d1, v1, rfl, B1, hq⟩
 have Sb := S.call B1
 have hg := (hg.now Sb)
 have S := St.refl [] w1
 have hd1 := (hq [] (by simp)).1
 have hv1 := (hq [] (by simp)).2
 refine mv1 rfl rfl ?_
 refine extr1 rfl rfl rfl ?_
 refine extr1 rfl rfl rfl ?_
 refine alc T28 S rfl ?_
 intro b1 w2 hb1 S B_
 refine stW rfl rfl T28 rfl rfl (one_cons rfl (one_cons rfl (one_cons rfl (one_cons rfl (one_cons rfl (one_cons rfl (one_cons rfl (one_cons rfl (one_cons rfl (one_cons rfl (one_cons rfl (one_cons rfl (one_cons rfl (one_cons rfl (one_cons rfl (one_cons rfl (one_cons rfl (one_cons rfl (one_cons rfl (one_cons rfl (one_cons rfl (one_cons rfl (one_cons rfl (one_cons rfl (one_cons rfl (one_cons rfl (one_cons rfl (one_cons rfl (one_cons rfl (one_cons rfl (one_cons rfl (one_cons rfl (one_cons rfl (one_cons rfl (one_cons rfl (one_cons rfl (one_cons rfl (one_cons rfl (one_cons rfl (one_cons rfl (one_cons rfl (one_cons rfl (one_cons hd1.one one_nil))))))))))))))))))))))))))))))))))))))))))) S (i := 0) rfl rfl ?_
 intro w3 S
 refine asg1 rfl rfl ?_
 refine Ro.nil ?_
 refine Nrm.code ?_
 refine Run.seq ?_
 refine Run.region ?_
 refine ldW rfl T28 S (i := 0) rfl rfl rfl rfl rfl ?_
 refine call (vs := [_]) ⟨⟨_, _, rfl, rfl⟩, trivial⟩ k30 rfl (c30 _ _ _ _ (OS.nil _ _) (hd1.now S) (by decide) (by decide) plainH_ok.1 plainH_ok.2 (hg.now S)) ?_
 rintro _ w4 ⟨u3, rfl, hF⟩
 have S := S.fb hF
 refine mv1 rfl rfl ?_
 refine extr1 rfl rfl rfl ?_
 refine extr1 rfl rfl rfl ?_
 refine asg1 rfl rfl ?_
 refine asg1 rfl rfl ?_
 refine Ro.nil ?_
 refine Nrm.code ?_
 refine Run.seq ?_
 refine Run.region ?_
 refine mv1 rfl rfl ?_
 refine call (vs := [_]) ⟨⟨_, _, rfl, rfl⟩, trivial⟩ k33 rfl (c33 _ _ _ (hv1.now S) (hg.now S)) ?_
 rintro _ w5 ⟨o5, d5, vs5, rfl, hF, hw5⟩
 have S := S.fo hF
 have hd5 := (hw5 _ _ hv1).2
 have ho5 := (hw5 _ _ hv1).1
 refine mv1 rfl rfl ?_
 refine extr1 rfl rfl rfl ?_
 refine extr1 rfl rfl rfl ?_
 refine alc T28 S rfl ?_
 intro b5 w6 hb5 S B_
 refine stW rfl rfl T28 rfl rfl (one_cons rfl (one_cons rfl (one_cons rfl (one_cons rfl (one_cons rfl (one_cons rfl (one_cons rfl (one_cons rfl (one_cons rfl (one_cons rfl (one_cons rfl (one_cons rfl (one_cons rfl (one_cons rfl (one_cons rfl (one_cons rfl (one_cons rfl (one_cons rfl (one_cons rfl (one_cons rfl (one_cons rfl (one_cons rfl (one_cons rfl (one_cons rfl (one_cons rfl (one_cons rfl (one_cons rfl (one_cons rfl (one_cons rfl (one_cons rfl (one_cons rfl (one_cons rfl (one_cons rfl (one_cons rfl (one_cons rfl (one_cons rfl (one_cons rfl (one_cons rfl (one_cons rfl (one_cons rfl (one_cons rfl (one_cons (S.slI (i := 1) rfl).one (one_cons hd5.one one_nil))))))))))))))))))))))))))))))))))))))))))) S (i := 0) rfl rfl ?_
 intro w7 S
 refine asg1 rfl rfl ?_
 refine Ro.nil ?_
 refine Nrm.code ?_
 refine Run.seq ?_
 refine Run.region ?_
 refine call (vs := [_]) ⟨⟨_, _, rfl, rfl⟩, trivial⟩ k33 rfl (c33 _ _ _ (BS.nil _ _) (hg.now S)) ?_
 rintro _ w8 ⟨o7, d7, vs7, rfl, hF, hw7⟩
 have S := S.fo hF
 have hd7 := (hw7 _ _ (BS.nil [] w1)).2
 have ho7 := (hw7 _ _ (BS.nil [] w1)).1
 refine mv1 rfl rfl ?_
 refine extr1 rfl rfl rfl ?_
 refine extr1 rfl rfl rfl ?_
 refine alc T28 S rfl ?_
 intro b7 w9 hb7 S B_
 refine stW rfl rfl T28 rfl rfl (one_cons rfl (one_cons rfl (one_cons rfl (one_cons rfl (one_cons rfl (one_cons rfl (one_cons rfl (one_cons rfl (one_cons rfl (one_cons rfl (one_cons rfl (one_cons rfl (one_cons rfl (one_cons rfl (one_cons rfl (one_cons rfl (one_cons rfl (one_cons rfl (one_cons rfl (one_cons rfl (one_cons rfl (one_cons rfl (one_cons rfl (one_cons rfl (one_cons rfl (one_cons rfl (one_cons rfl (one_cons rfl (one_cons rfl (one_cons rfl (one_cons rfl (one_cons rfl (one_cons rfl (one_cons rfl (one_cons rfl (one_cons rfl (one_cons rfl (one_cons rfl (one_cons rfl (one_cons rfl (one_cons rfl (one_cons (S.slI (i := 1) rfl).one (one_cons hd7.one one_nil))))))))))))))))))))))))))))))))))))))))))) S (i := 0) rfl rfl ?_
 intro w10 S
 refine asg1 rfl rfl ?_
 refine Ro.nil ?_
 refine Nrm.code ?_
 refine Run.seq ?_
 refine Run.region ?_
 refine mv1 rfl rfl ?_
 refine calg (vs := [_]) rfl ⟨⟨_, _, rfl, rfl⟩, trivial⟩ k31 rfl (fun hG => c31 (chkE plainH) _ (by rw [plain_chk]; decide)) ?_
 intro w11 B_; have S := S.call B_
 refine eql1 rfl rfl rfl ?_
 refine mv1 rfl rfl ?_
 refine mv rfl rfl rfl rfl ?_
 refine calg (vs := [_]) rfl ⟨⟨_, _, rfl, rfl⟩, trivial⟩ k31 rfl (fun hG => c31 (parE plainB) _ (by rw [plain_par]; decide)) ?_
 intro w12 B_; have S := S.call B_
 refine eql rfl rfl rfl rfl rfl rfl ?_
 refine pkA rfl rfl rfl rfl rfl rfl ?_
 refine mv1 rfl rfl ?_
 refine mv rfl rfl rfl rfl ?_
 refine calg (vs := [_]) rfl ⟨⟨_, _, rfl, rfl⟩, trivial⟩ k31 rfl (fun hG => c31 (parE []) _ (by rw [par_nil]; decide)) ?_
 intro w13 B_; have S := S.call B_
 refine eql rfl rfl rfl rfl rfl rfl ?_
 refine pkA rfl rfl rfl rfl rfl rfl ?_
 refine mv1 rfl rfl ?_
 refine mv rfl rfl rfl rfl ?_
 refine mv rfl rfl rfl rfl ?_
 have hby_u3 : byt (serL plainH) := by rw [plain_ser]; exact plainB_byt
 refine calg (vs := [_, _]) rfl ⟨⟨_, _, rfl, rfl⟩, ⟨_, _, rfl, rfl⟩, trivial⟩ k37 rfl (fun hG => c37 _ _ _ _ _ (hv1.now S) (S.bsI (i := 4) rfl hby_u3)) ?_
 intro w14 B_; have S := S.call B_
 refine pkA rfl rfl rfl rfl rfl rfl ?_
 refine mv1 rfl rfl ?_
 refine ldW rfl T28 S (i := 2) rfl rfl rfl rfl rfl ?_
 refine ldW rfl T28 S (i := 5) rfl rfl rfl rfl rfl ?_
 refine calg (vs := [_, _]) rfl ⟨⟨_, _, rfl, rfl⟩, ⟨_, _, rfl, rfl⟩, trivial⟩ k34 rfl (fun hG => c34 _ _ _ _ _ _ _ (S.osI (i := 3) rfl (ho5.now S)) (hd5.now S) (OS.nil _ _) (hd1.now S) (by have := (parH_ok plainB_byt).2.2.1; omega)) ?_
 intro w15 B_; have S := S.call B_
 refine pkA rfl rfl rfl rfl rfl rfl ?_
 refine asg1 rfl rfl ?_
 refine Ro.nil ?_
 refine Nrm.code ?_
 refine Run.ret ?_
 refine Rt.one rfl rfl ?_
 exact ⟨by simp [plain_chk, plain_par, par_nil, plain_ser, plain_same], Sb.bl.trans S.bl⟩
end Go.Proofs.YtkahmepenjhcpaaDoor.W
/- Contracts: the endpoints, and what is started. No statement of the seat is proved here. -/
namespace Go.Proofs.YtkahmepenjhcpaaDoor.W
open Go
set_option linter.unusedSimpArgs false
set_option linter.unusedVariables false
section
variable {P : Program} {n : Nat} {l : Env} {k : List KI} {w w0 : World} {N0 : List Nat} {L : List Own}
theorem Rt.cells2 {fn : Func} {Rr : Value → World → Prop} {t u : Nat} {T U : TypeId} {sz sz' b b' i j : Nat} {T' U' : TypeId} {c c' zc zc' : List Value} (hr : fn.results = #[.cell t T, .cell u U]) (ht : lk l t = some ([], .pointer (some ⟨b, 0, none⟩))) (hu : lk l u = some ([], .pointer (some ⟨b', 0, none⟩)))
    (hT : TyI P T sz true zc) (hU : TyI P U sz' true zc') (S : St N0 w0 L w) (hk : getN L i = some (.var b T' c)) (hl : c.length = sz) (hk' : getN L j = some (.var b' U' c')) (hl' : c'.length = sz') (h : Rr (.tuple #[.agg c.toArray, .agg c'.toArray]) w) :
    Rt P (bodyPost P fn (RV Rr)) [] n l k w :=
  Rt.top (R := bodyPost P fn (RV Rr)) (fun a ha => show bodyPost P fn (RV Rr) .ret a w from bodyPost_ret (v := .tuple #[.agg c.toArray, .agg c'.toArray]) (by
    have h1 := ha.getD ht
    have h2 := ha.getD hu
    simp only [Array.getD_eq_getD_getElem?] at h1 h2
    simp [results, hr, h1, h2, asAddr, loadVarRun hT S hk hl, loadVarRun hU S hk' hl']) ha.defers h) k
end
def eS : IP := ip4of 10 0 0 1
def eD : IP := ip4of 10 0 0 2
theorem eS_ok : eS.ok := ip4of_ok (by omega) (by omega) (by omega) (by omega)
theorem eD_ok : eD.ok := ip4of_ok (by omega) (by omega) (by omega) (by omega)
def uA : Udp := ⟨1, 2, false, [104, 105]⟩
def uAB : List Int := [0, 1, 0, 2, 0, 10, 131, 107, 104, 105]
def uN : Udp := ⟨-1, 0, false, List.replicate 65528 0⟩
def tA : Tcp := ⟨1, 2, 0, 0, 0, 0, 0, [⟨3, [7]⟩], []⟩
def tM : Tcp := ⟨0, 0, 0, 0, 0, 0, 0, [⟨2, [5, 180]⟩], []⟩
theorem uAB_byt : byt uAB := by intro x hx; revert x; decide +kernel
theorem b7_byt : byt [7] := by intro x hx; revert x; decide +kernel
theorem b5_byt : byt [5, 180] := by intro x hx; revert x; decide +kernel
theorem uA_putE : putUE eS eD uA = 0 := by decide +kernel
theorem uA_putL : putUL eS eD uA = uAB := by decide +kernel
theorem uA_parE : udpE eS eD uAB = 0 := by decide +kernel
theorem uA_same : sameU uA (udpU eS eD uAB) = true := by decide +kernel
theorem uN_chk : chkU 4 uN = 98 := by
  have : badU 4 uN = true := rfl
  unfold chkU
  rw [if_neg (by decide), if_pos this]
theorem tA_putE : putTE eS eD tA = 0 := by decide +kernel
theorem tA_len : (putTL eS eD tA).length = 24 := by decide +kernel
theorem tA_opt : tcpO (putTL eS eD tA) = [3, 3, 7, 0] := by decide +kernel
theorem tA_optsG : optsG [3, 3, 7, 0] = some [⟨3, [7]⟩] := by simp [optsG]
theorem tA_tG : toptsG [3, 3, 7, 0] = some [⟨3, [7]⟩] := by
  unfold toptsG
  rw [tA_optsG]
  rfl
theorem tA_tE : tE (tcpO (putTL eS eD tA)) = 0 := by
  rw [tA_opt]
  unfold tE
  rw [tA_tG]
  rfl
theorem tA_tL : tL (tcpO (putTL eS eD tA)) = [⟨3, [7]⟩] := by
  rw [tA_opt]
  unfold tL
  rw [tA_tG]
  rfl
theorem tA_parE : tcpE eS eD (putTL eS eD tA) = 0 := by
  unfold tcpE
  rw [tA_tE]
  decide +kernel
theorem tA_same : sameT (tcpT eS eD (putTL eS eD tA)) tA = true := by
  unfold tcpT
  rw [if_pos tA_parE]
  unfold tcpG
  rw [tA_tL]
  decide +kernel
theorem t_nil : tcpE eS eD [] = 94 := by decide +kernel
theorem tM_mss : mssF tM.opts = (1460, true) := by decide +kernel
theorem tA_clamp : sameT (clampT tA 9) tA = true := by decide +kernel
theorem tA_byt : byt (putTL eS eD tA) := putTL_byt eS_ok eD_ok (by intro o ho; simp [tA] at ho; subst ho; exact b7_byt) byt_nil
set_option maxHeartbeats 1000000 in
theorem c122 (w : World) :
  CallsD Tryd.prog 122 #[] w (.tuple #[.agg (encIP eS).toArray, .agg (encIP eD).toArray]) := by
 refine enter Tryd.func122 rfl Tryd.ntmps122 (l := []) rfl rfl ?_
 have S := St.refl [] w
 refine Run.seq ?_
 refine Run.region ?_
 refine alc T24 S rfl ?_
 intro b0 w1 hb0 S B_
 refine alc T24 S rfl ?_
 intro b1 w2 hb1 S B_
 refine Ro.nil ?_
 refine Nrm.code ?_
 refine Run.seq ?_
 refine Run.region ?_
 refine bldA rfl (sz := 1) (E := 5) (m := 16) Tryd.underlying22 T22 T5 (qs := [(_, _), (_, _), (_, _), (_, _)]) ⟨⟨_, _, _, rfl, rfl, rfl, rfl, by first | (simp [Value.cells]; done) | simp [Value.cells, encIP]⟩, ⟨_, _, _, rfl, rfl, rfl, rfl, by first | (simp [Value.cells]; done) | simp [Value.cells, encIP]⟩, ⟨_, _, _, rfl, rfl, rfl, rfl, by first | (simp [Value.cells]; done) | simp [Value.cells, encIP]⟩, ⟨_, _, _, rfl, rfl, rfl, rfl, by first | (simp [Value.cells]; done) | simp [Value.cells, encIP]⟩, trivial⟩ rfl rfl ?_
 refine bld B24 (qs := [(_, _), (_, _)]) ⟨⟨_, _, _, rfl, rfl, rfl, rfl, by first | (simp [Value.cells]; done) | simp [Value.cells, encIP]⟩, ⟨_, _, _, rfl, rfl, rfl, rfl, by first | (simp [Value.cells]; done) | simp [Value.cells, encIP]⟩, trivial⟩ rfl rfl rfl ?_
 refine bldA rfl (sz := 1) (E := 5) (m := 16) Tryd.underlying22 T22 T5 (qs := [(_, _), (_, _), (_, _), (_, _)]) ⟨⟨_, _, _, rfl, rfl, rfl, rfl, by first | (simp [Value.cells]; done) | simp [Value.cells, encIP]⟩, ⟨_, _, _, rfl, rfl, rfl, rfl, by first | (simp [Value.cells]; done) | simp [Value.cells, encIP]⟩, ⟨_, _, _, rfl, rfl, rfl, rfl, by first | (simp [Value.cells]; done) | simp [Value.cells, encIP]⟩, ⟨_, _, _, rfl, rfl, rfl, rfl, by first | (simp [Value.cells]; done) | simp [Value.cells, encIP]⟩, trivial⟩ rfl rfl ?_
 refine bld B24 (qs := [(_, _), (_, _)]) ⟨⟨_, _, _, rfl, rfl, rfl, rfl, by first | (simp [Value.cells]; done) | simp [Value.cells, encIP]⟩, ⟨_, _, _, rfl, rfl, rfl, rfl, by first | (simp [Value.cells]; done) | simp [Value.cells, encIP]⟩, trivial⟩ rfl rfl rfl ?_
 refine stW rfl rfl T24 rfl rfl (by simp [Value.oneCell']) S (i := 1) rfl rfl ?_
 intro w3 S
 refine stW rfl rfl T24 rfl rfl (by simp [Value.oneCell']) S (i := 0) rfl rfl ?_
 intro w4 S
 refine Ro.nil ?_
 refine Nrm.code ?_
 refine Run.ret ?_
 refine Rt.cells2 rfl rfl rfl T24 T24 S (i := 1) (j := 0) rfl rfl rfl rfl ?_
 exact ⟨rfl, S.bl⟩
set_option maxHeartbeats 1000000 in
theorem c54 (w : World) (hg1 : GV [] w 1 163 (W16.map i64)) (hg2 : GV [] w 2 166 (W10.map i64)) (hg3 : GV [] w 3 183 (lenT.map u64)) :
  CallsD Tryd.prog 54 #[] w (.bool true) := by
 refine enter Tryd.func54 rfl Tryd.ntmps54 (l := []) rfl rfl ?_
 have S := St.refl [] w
 have hoA : ∀ p ∈ tA.opts, p.data.length ≤ 1099511627776 := by intro p hp; simp [tA] at hp; subst hp; decide
 have hoM : ∀ p ∈ tM.opts, p.data.length ≤ 1099511627776 := by intro p hp; simp [tM] at hp; subst hp; decide
 refine Run.seq ?_
 refine Run.region ?_
 refine asg1 rfl rfl ?_
 refine Ro.nil ?_
 refine Nrm.code ?_
 refine Run.seq ?_
 refine Run.region ?_
 refine calg (vs := []) rfl trivial k122 rfl (fun hG => c122 _) ?_
 intro w1 B_; have S := S.call B_
 refine mv1 rfl rfl ?_
 refine extr1 rfl rfl rfl ?_
 refine extr1 rfl rfl rfl ?_
 refine alc T24 S rfl ?_
 intro b1 w2 hb1 S B_
 refine alc T24 S rfl ?_
 intro b2 w3 hb2 S B_
 refine stW rfl rfl T24 rfl rfl (encIP_all1 _) S (i := 1) rfl rfl ?_
 intro w4 S
 refine stW rfl rfl T24 rfl rfl (encIP_all1 _) S (i := 0) rfl rfl ?_
 intro w5 S
 refine Ro.nil ?_
 refine Nrm.code ?_
 refine Run.seq ?_
 refine Run.region ?_
 refine bsk (b := [104, 105]) e26 Tryd.underlying5 hi_byt (qs := [(_, _), (_, _)]) ⟨⟨_, _, _, rfl, rfl, rfl, rfl, by simp [Value.cells]⟩, ⟨_, _, _, rfl, rfl, rfl, rfl, by simp [Value.cells]⟩, trivial⟩ rfl rfl rfl rfl rfl (by decide) S ?_
 have S0 := S
 intro u qh25 w6 S B_ hq_
 have h25 := hq_ _ S0.lt
 obtain ⟨N1, hN1, S_1⟩ := S.reb
 have hg1 := hg1.st S; rw [hN1] at hg1
 have hg2 := hg2.st S; rw [hN1] at hg2
 have hg3 := hg3.st S; rw [hN1] at hg3
 rw [hN1] at h25
 have SS := S
 have S := S_1
 refine bld B73 (qs := [(_, _), (_, _), (_, _)]) ⟨⟨_, _, _, rfl, rfl, rfl, rfl, by first | (simp [Value.cells]; done) | simp [Value.cells, encIP]⟩, ⟨_, _, _, rfl, rfl, rfl, rfl, by first | (simp [Value.cells]; done) | simp [Value.cells, encIP]⟩, ⟨_, _, _, rfl, rfl, cells1 h25.one, rfl, List.cons_ne_nil _ _⟩, trivial⟩ rfl rfl rfl ?_
 refine alc T73 S rfl ?_
 intro b3 w7 hb3 S B_
 refine stW rfl rfl T73 rfl rfl (one_cons rfl (one_cons rfl (one_cons rfl (one_cons h25.one one_nil)))) S (i := 0) rfl rfl ?_
 intro w8 S
 refine Ro.nil ?_
 refine Nrm.code ?_
 refine Run.seq ?_
 refine Run.region ?_
 refine ldW rfl T24 S (i := 2) rfl rfl rfl rfl rfl ?_
 refine ldW rfl T24 S (i := 1) rfl rfl rfl rfl rfl ?_
 refine ldW rfl T73 S (i := 0) rfl rfl rfl rfl rfl ?_
 refine call (vs := [_, _, _]) ⟨⟨_, _, rfl, rfl⟩, ⟨_, _, rfl, rfl⟩, ⟨_, _, rfl, rfl⟩, trivial⟩ k55 rfl (c55 eS eD uA _ _ eS_ok eD_ok (h25.now S) (by decide) (hg1.now S)) ?_
 rintro _ w9 ⟨u4, rfl, hF⟩
 have S := S.fb hF
 refine mv1 rfl rfl ?_
 refine extr1 rfl rfl rfl ?_
 refine extr1 rfl rfl rfl ?_
 refine asg1 rfl rfl ?_
 refine asg1 rfl rfl ?_
 refine Ro.nil ?_
 refine Nrm.code ?_
 refine Run.seq ?_
 refine Run.region ?_
 refine ldW rfl T24 S (i := 3) rfl rfl rfl rfl rfl ?_
 refine ldW rfl T24 S (i := 2) rfl rfl rfl rfl rfl ?_
 refine bsl e26 (qs := [(_, _), (_, _), (_, _), (_, _), (_, _), (_, _), (_, _), (_, _), (_, _), (_, _)]) ⟨⟨_, _, _, rfl, rfl, rfl, rfl, by first | (simp [Value.cells]; done) | simp [Value.cells, encIP]⟩, ⟨_, _, _, rfl, rfl, rfl, rfl, by first | (simp [Value.cells]; done) | simp [Value.cells, encIP]⟩, ⟨_, _, _, rfl, rfl, rfl, rfl, by first | (simp [Value.cells]; done) | simp [Value.cells, encIP]⟩, ⟨_, _, _, rfl, rfl, rfl, rfl, by first | (simp [Value.cells]; done) | simp [Value.cells, encIP]⟩, ⟨_, _, _, rfl, rfl, rfl, rfl, by first | (simp [Value.cells]; done) | simp [Value.cells, encIP]⟩, ⟨_, _, _, rfl, rfl, rfl, rfl, by first | (simp [Value.cells]; done) | simp [Value.cells, encIP]⟩, ⟨_, _, _, rfl, rfl, rfl, rfl, by first | (simp [Value.cells]; done) | simp [Value.cells, encIP]⟩, ⟨_, _, _, rfl, rfl, rfl, rfl, by first | (simp [Value.cells]; done) | simp [Value.cells, encIP]⟩, ⟨_, _, _, rfl, rfl, rfl, rfl, by first | (simp [Value.cells]; done) | simp [Value.cells, encIP]⟩, ⟨_, _, _, rfl, rfl, rfl, rfl, by first | (simp [Value.cells]; done) | simp [Value.cells, encIP]⟩, trivial⟩ rfl rfl rfl rfl S ?_
 intro u37 w10 S B_
 have S : St _ _ (oB u37 uAB :: _) w10 := S
 obtain ⟨h37, S⟩ := S.layBI (i := 0) rfl rfl uAB_byt
 obtain ⟨N2, hN2, S_2⟩ := S.reb
 have hg1 := hg1.st S; rw [hN2] at hg1
 have hg2 := hg2.st S; rw [hN2] at hg2
 have hg3 := hg3.st S; rw [hN2] at hg3
 have h25 := h25.st S; rw [hN2] at h25
 rw [hN2] at h37
 have SS := SS.tran hN1 S
 have S := S_2
 refine call (vs := [_, _, _]) ⟨⟨_, _, rfl, rfl⟩, ⟨_, _, rfl, rfl⟩, ⟨_, _, rfl, rfl⟩, trivial⟩ k57 rfl (c57 eS eD _ _ _ eS_ok eD_ok (h37.now S) (hg1.now S)) ?_
 rintro _ w11 ⟨d6, rfl, B1, hw_⟩
 have S := S.call B1
 have hd6 := hw_ _ _ h37
 refine mv1 rfl rfl ?_
 refine extr1 rfl rfl rfl ?_
 refine extr1 rfl rfl rfl ?_
 refine alc T73 S rfl ?_
 intro b6 w12 hb6 S B_
 refine stW rfl rfl T73 rfl rfl (one_cons rfl (one_cons rfl (one_cons rfl (one_cons hd6.one one_nil)))) S (i := 0) rfl rfl ?_
 intro w13 S
 refine asg1 rfl rfl ?_
 refine Ro.nil ?_
 refine Nrm.code ?_
 refine Run.seq ?_
 refine Run.region ?_
 refine bsl e26 (qs := [(_, _)]) ⟨⟨_, _, _, rfl, rfl, rfl, rfl, by first | (simp [Value.cells]; done) | simp [Value.cells, encIP]⟩, trivial⟩ rfl rfl rfl rfl S ?_
 intro u41 w14 S B_
 have S : St _ _ (oB u41 [7] :: _) w14 := S
 refine bld B93 (qs := [(_, _), (_, _)]) ⟨⟨_, _, _, rfl, rfl, rfl, rfl, by first | (simp [Value.cells]; done) | simp [Value.cells, encIP]⟩, ⟨_, _, _, rfl, rfl, cells1 (S.slI (i := 0) rfl).one, rfl, List.cons_ne_nil _ _⟩, trivial⟩ rfl rfl rfl ?_
 refine bsl e25 (qs := [(_, _)]) ⟨⟨_, _, _, rfl, rfl, rfl, rfl, by first | (simp [Value.cells]; done) | simp [Value.cells, encIP]⟩, trivial⟩ rfl rfl rfl rfl S ?_
 intro u43 w15 S B_
 have S : St _ _ (oO u43 tA.opts [u41] :: _) w15 := S
 obtain ⟨h41, S⟩ := S.layBI (i := 1) rfl rfl b7_byt
 obtain ⟨N3, hN3, S_3⟩ := S.reb
 have hg1 := hg1.st S; rw [hN3] at hg1
 have hg2 := hg2.st S; rw [hN3] at hg2
 have hg3 := hg3.st S; rw [hN3] at hg3
 have h25 := h25.st S; rw [hN3] at h25
 have h37 := h37.st S; rw [hN3] at h37
 have hd6 := hd6.st S; rw [hN3] at hd6
 rw [hN3] at h41
 have SS := SS.tran hN2 S
 have S := S_3
 obtain ⟨hOA, S⟩ := S.layOI (i := 0) (ds := [u41]) (os := tA.opts) rfl rfl ⟨h41, trivial⟩
 obtain ⟨N4, hN4, S_4⟩ := S.reb
 have hg1 := hg1.st S; rw [hN4] at hg1
 have hg2 := hg2.st S; rw [hN4] at hg2
 have hg3 := hg3.st S; rw [hN4] at hg3
 have h25 := h25.st S; rw [hN4] at h25
 have h37 := h37.st S; rw [hN4] at h37
 have hd6 := hd6.st S; rw [hN4] at hd6
 have h41 := h41.st S; rw [hN4] at h41
 rw [hN4] at hOA
 have SS := SS.tran hN3 S
 have S := S_4
 refine bld B82 (qs := [(_, _), (_, _), (_, _)]) ⟨⟨_, _, _, rfl, rfl, rfl, rfl, by first | (simp [Value.cells]; done) | simp [Value.cells, encIP]⟩, ⟨_, _, _, rfl, rfl, rfl, rfl, by first | (simp [Value.cells]; done) | simp [Value.cells, encIP]⟩, ⟨_, _, _, rfl, rfl, cells1 hOA.one, rfl, List.cons_ne_nil _ _⟩, trivial⟩ rfl rfl rfl ?_
 refine alc T82 S rfl ?_
 intro b8 w16 hb8 S B_
 refine stW rfl rfl T82 rfl rfl (one_cons rfl (one_cons rfl (one_cons rfl (one_cons rfl (one_cons rfl (one_cons rfl (one_cons rfl (one_cons hOA.one (one_cons rfl one_nil))))))))) S (i := 0) rfl rfl ?_
 intro w17 S
 refine Ro.nil ?_
 refine Nrm.code ?_
 refine Run.seq ?_
 refine Run.region ?_
 refine ldW rfl T24 S (i := 5) rfl rfl rfl rfl rfl ?_
 refine ldW rfl T24 S (i := 4) rfl rfl rfl rfl rfl ?_
 refine ldW rfl T82 S (i := 0) rfl rfl rfl rfl rfl ?_
 refine call (vs := [_, _, _]) ⟨⟨_, _, rfl, rfl⟩, ⟨_, _, rfl, rfl⟩, ⟨_, _, rfl, rfl⟩, trivial⟩ k61 rfl (c61 eS eD tA _ _ _ eS_ok eD_ok (hOA.now S) (BS.nil _ _) (by decide) (by exact hoA) (by decide) (hg2.now S) (hg3.now S)) ?_
 rintro _ w18 ⟨u9, rfl, hF⟩
 have S := S.fb hF
 refine mv1 rfl rfl ?_
 refine extr1 rfl rfl rfl ?_
 refine extr1 rfl rfl rfl ?_
 refine asg1 rfl rfl ?_
 refine asg1 rfl rfl ?_
 refine Ro.nil ?_
 refine Nrm.code ?_
 refine Run.seq ?_
 refine Run.region ?_
 refine ldW rfl T24 S (i := 6) rfl rfl rfl rfl rfl ?_
 refine ldW rfl T24 S (i := 5) rfl rfl rfl rfl rfl ?_
 obtain ⟨h9, S⟩ := S.layBI (i := 0) rfl rfl tA_byt
 obtain ⟨N5, hN5, S_5⟩ := S.reb
 have hg1 := hg1.st S; rw [hN5] at hg1
 have hg2 := hg2.st S; rw [hN5] at hg2
 have hg3 := hg3.st S; rw [hN5] at hg3
 have h25 := h25.st S; rw [hN5] at h25
 have h37 := h37.st S; rw [hN5] at h37
 have hd6 := hd6.st S; rw [hN5] at hd6
 have h41 := h41.st S; rw [hN5] at h41
 have hOA := hOA.st S; rw [hN5] at hOA
 rw [hN5] at h9
 have SS := SS.tran hN4 S
 have S := S_5
 refine mv1 rfl rfl ?_
 refine call (vs := [_, _, _]) ⟨⟨_, _, rfl, rfl⟩, ⟨_, _, rfl, rfl⟩, ⟨_, _, rfl, rfl⟩, trivial⟩ k62 rfl (c62 eS eD _ _ _ eS_ok eD_ok (h9.now S) (hg2.now S) (hg3.now S)) ?_
 rintro _ w19 ⟨o11, d11, vs11, rfl, hF, hw_⟩
 have S := S.fo hF
 have hd11 := (hw_ _ _ h9).2
 have ho_ := (hw_ _ _ h9).1
 obtain ⟨ho11, S⟩ := S.layOI (i := 0) rfl rfl ho_
 obtain ⟨N6, hN6, S_6⟩ := S.reb
 have hg1 := hg1.st S; rw [hN6] at hg1
 have hg2 := hg2.st S; rw [hN6] at hg2
 have hg3 := hg3.st S; rw [hN6] at hg3
 have h25 := h25.st S; rw [hN6] at h25
 have h37 := h37.st S; rw [hN6] at h37
 have hd6 := hd6.st S; rw [hN6] at hd6
 have h41 := h41.st S; rw [hN6] at h41
 have hOA := hOA.st S; rw [hN6] at hOA
 have h9 := h9.st S; rw [hN6] at h9
 have hd11 := hd11.st S; rw [hN6] at hd11
 rw [hN6] at ho11
 have SS := SS.tran hN5 S
 have S := S_6
 refine mv1 rfl rfl ?_
 refine extr1 rfl rfl rfl ?_
 refine extr1 rfl rfl rfl ?_
 refine alc T82 S rfl ?_
 intro b11 w20 hb11 S B_
 refine stW rfl rfl T82 rfl rfl (one_cons rfl (one_cons rfl (one_cons rfl (one_cons rfl (one_cons rfl (one_cons rfl (one_cons rfl (one_cons ho11.one (one_cons hd11.one one_nil))))))))) S (i := 0) rfl rfl ?_
 intro w21 S
 refine asg1 rfl rfl ?_
 refine Ro.nil ?_
 refine Nrm.code ?_
 refine Run.seq ?_
 refine Run.region ?_
 refine ldW rfl T24 S (i := 6) rfl rfl rfl rfl rfl ?_
 refine ldW rfl T24 S (i := 5) rfl rfl rfl rfl rfl ?_
 refine call (vs := [_, _, _]) ⟨⟨_, _, rfl, rfl⟩, ⟨_, _, rfl, rfl⟩, ⟨_, _, rfl, rfl⟩, trivial⟩ k62 rfl (c62 eS eD _ _ _ eS_ok eD_ok (BS.nil _ _) (hg2.now S) (hg3.now S)) ?_
 rintro _ w22 ⟨o13, d13, vs13, rfl, hF, hw_⟩
 have S := S.fo hF
 have hd13 := (hw_ _ _ (BS.nil N6 w19)).2
 have ho_ := (hw_ _ _ (BS.nil N6 w19)).1
 obtain ⟨ho13, S⟩ := S.layOI (i := 0) rfl rfl ho_
 obtain ⟨N7, hN7, S_7⟩ := S.reb
 have hg1 := hg1.st S; rw [hN7] at hg1
 have hg2 := hg2.st S; rw [hN7] at hg2
 have hg3 := hg3.st S; rw [hN7] at hg3
 have h25 := h25.st S; rw [hN7] at h25
 have h37 := h37.st S; rw [hN7] at h37
 have hd6 := hd6.st S; rw [hN7] at hd6
 have h41 := h41.st S; rw [hN7] at h41
 have hOA := hOA.st S; rw [hN7] at hOA
 have h9 := h9.st S; rw [hN7] at h9
 have hd11 := hd11.st S; rw [hN7] at hd11
 have ho11 := ho11.st S; rw [hN7] at ho11
 have hd13 := hd13.st S; rw [hN7] at hd13
 rw [hN7] at ho13
 have SS := SS.tran hN6 S
 have S := S_7
 refine mv1 rfl rfl ?_
 refine extr1 rfl rfl rfl ?_
 refine extr1 rfl rfl rfl ?_
 refine alc T82 S rfl ?_
 intro b13 w23 hb13 S B_
 refine stW rfl rfl T82 rfl rfl (one_cons rfl (one_cons rfl (one_cons rfl (one_cons rfl (one_cons rfl (one_cons rfl (one_cons rfl (one_cons ho13.one (one_cons hd13.one one_nil))))))))) S (i := 0) rfl rfl ?_
 intro w24 S
 refine asg1 rfl rfl ?_
 refine Ro.nil ?_
 refine Nrm.code ?_
 refine Run.seq ?_
 refine Run.region ?_
 refine bsl e26 (qs := [(_, _), (_, _)]) ⟨⟨_, _, _, rfl, rfl, rfl, rfl, by first | (simp [Value.cells]; done) | simp [Value.cells, encIP]⟩, ⟨_, _, _, rfl, rfl, rfl, rfl, by first | (simp [Value.cells]; done) | simp [Value.cells, encIP]⟩, trivial⟩ rfl rfl rfl rfl S ?_
 intro u66 w25 S B_
 have S : St _ _ (oB u66 [5, 180] :: _) w25 := S
 refine bld B93 (qs := [(_, _), (_, _)]) ⟨⟨_, _, _, rfl, rfl, rfl, rfl, by first | (simp [Value.cells]; done) | simp [Value.cells, encIP]⟩, ⟨_, _, _, rfl, rfl, cells1 (S.slI (i := 0) rfl).one, rfl, List.cons_ne_nil _ _⟩, trivial⟩ rfl rfl rfl ?_
 refine bsl e25 (qs := [(_, _)]) ⟨⟨_, _, _, rfl, rfl, rfl, rfl, by first | (simp [Value.cells]; done) | simp [Value.cells, encIP]⟩, trivial⟩ rfl rfl rfl rfl S ?_
 intro u68 w26 S B_
 have S : St _ _ (oO u68 tM.opts [u66] :: _) w26 := S
 refine bld B82 (qs := [(_, _)]) ⟨⟨_, _, _, rfl, rfl, cells1 (S.slI (i := 0) rfl).one, rfl, List.cons_ne_nil _ _⟩, trivial⟩ rfl rfl rfl ?_
 refine calg (vs := [_]) rfl ⟨⟨_, _, rfl, rfl⟩, trivial⟩ k70 rfl (fun hG => c70 tM _ _ _ (S.osI (i := 0) (os := tM.opts) (ds := [u66]) rfl ⟨S.bsI (i := 1) (l := [5, 180]) rfl b5_byt, trivial⟩) (BS.nil _ _) (by decide) hoM (by decide)) ?_
 intro w27 B_; have S := S.call B_
 refine mv1 rfl rfl ?_
 refine extr1 rfl rfl rfl ?_
 refine extr1 rfl rfl rfl ?_
 refine asg1 rfl rfl ?_
 refine asg1 rfl rfl ?_
 refine Ro.nil ?_
 refine Nrm.code ?_
 refine Run.seq ?_
 refine Run.region ?_
 refine ldW rfl T82 S (i := 4) rfl rfl rfl rfl rfl ?_
 have S0 := S
 refine call (vs := [_, _]) ⟨⟨_, _, rfl, rfl⟩, ⟨_, _, rfl, rfl⟩, trivial⟩ k69 rfl (c69 tA 9 _ _ _ (hOA.now S) (BS.nil _ _) (by decide) (by exact hoA)) ?_
 rintro _ w28 ⟨o17, rfl, hFO⟩
 have S := S.call hFO.1
 have ho17 := hFO.2 _ S0.lt
 obtain ⟨N8, hN8, S_8⟩ := S.reb
 have hg1 := hg1.st S; rw [hN8] at hg1
 have hg2 := hg2.st S; rw [hN8] at hg2
 have hg3 := hg3.st S; rw [hN8] at hg3
 have h25 := h25.st S; rw [hN8] at h25
 have h37 := h37.st S; rw [hN8] at h37
 have hd6 := hd6.st S; rw [hN8] at hd6
 have h41 := h41.st S; rw [hN8] at h41
 have hOA := hOA.st S; rw [hN8] at hOA
 have h9 := h9.st S; rw [hN8] at h9
 have hd11 := hd11.st S; rw [hN8] at hd11
 have ho11 := ho11.st S; rw [hN8] at ho11
 have hd13 := hd13.st S; rw [hN8] at hd13
 have ho13 := ho13.st S; rw [hN8] at ho13
 rw [hN8] at ho17
 have SS := SS.tran hN7 S
 have S := S_8
 refine alc T82 S rfl ?_
 intro b17 w29 hb17 S B_
 refine stW rfl rfl T82 rfl rfl (one_cons rfl (one_cons rfl (one_cons rfl (one_cons rfl (one_cons rfl (one_cons rfl (one_cons rfl (one_cons ho17.one (one_cons rfl one_nil))))))))) S (i := 0) rfl rfl ?_
 intro w30 S
 refine Ro.nil ?_
 refine Nrm.code ?_
 refine Run.seq ?_
 refine Run.region ?_
 refine mkB (m := 65528) rfl rfl S rfl (by omega) ?_
 intro u75 w31 S B_
 refine bld B73 (qs := [(_, _), (_, _)]) ⟨⟨_, _, _, rfl, rfl, rfl, rfl, by first | (simp [Value.cells]; done) | simp [Value.cells, encIP]⟩, ⟨_, _, _, rfl, rfl, cells1 (S.slI (i := 0) rfl).one, rfl, List.cons_ne_nil _ _⟩, trivial⟩ rfl rfl rfl ?_
 refine calg (vs := [_, _]) rfl ⟨⟨_, _, rfl, rfl⟩, ⟨_, _, rfl, rfl⟩, trivial⟩ k60 rfl (fun hG => c60 _ uN _ _ (S.bsI (i := 0) (l := List.replicate 65528 0) rfl (by intro x hx; rw [(List.mem_replicate.1 hx).2]; omega)) (by show (List.replicate 65528 (0 : Int)).length ≤ _; rw [List.length_replicate]; decide)) ?_
 intro w32 B_; have S := S.call B_
 refine asg1 rfl rfl ?_
 refine Ro.nil ?_
 refine Nrm.code ?_
 refine Run.seq ?_
 refine Run.region ?_
 refine mv1 rfl rfl ?_
 refine calg (vs := [_]) rfl ⟨⟨_, _, rfl, rfl⟩, trivial⟩ k56 rfl (fun hG => c56 (chkU 4 uN) _ (by rw [uN_chk]; decide)) ?_
 intro w33 B_; have S := S.call B_
 refine eql1 rfl rfl rfl ?_
 refine mv1 rfl rfl ?_
 refine mv rfl rfl rfl rfl ?_
 refine calg (vs := [_]) rfl ⟨⟨_, _, rfl, rfl⟩, trivial⟩ k56 rfl (fun hG => c56 (putUE eS eD uA) _ (by rw [uA_putE]; decide)) ?_
 intro w34 B_; have S := S.call B_
 refine eql rfl rfl rfl rfl rfl rfl ?_
 refine pkA rfl rfl rfl rfl rfl rfl ?_
 refine mv1 rfl rfl ?_
 refine mv rfl rfl rfl rfl ?_
 refine calg (vs := [_]) rfl ⟨⟨_, _, rfl, rfl⟩, trivial⟩ k56 rfl (fun hG => c56 (udpE eS eD uAB) _ (by rw [uA_parE]; decide)) ?_
 intro w35 B_; have S := S.call B_
 refine eql rfl rfl rfl rfl rfl rfl ?_
 refine pkA rfl rfl rfl rfl rfl rfl ?_
 refine mv1 rfl rfl ?_
 refine mv rfl rfl rfl rfl ?_
 refine calg (vs := [_]) rfl ⟨⟨_, _, rfl, rfl⟩, trivial⟩ k56 rfl (fun hG => c56 (putTE eS eD tA) _ (by rw [tA_putE]; decide)) ?_
 intro w36 B_; have S := S.call B_
 refine eql rfl rfl rfl rfl rfl rfl ?_
 refine pkA rfl rfl rfl rfl rfl rfl ?_
 refine mv1 rfl rfl ?_
 refine mv rfl rfl rfl rfl ?_
 refine calg (vs := [_]) rfl ⟨⟨_, _, rfl, rfl⟩, trivial⟩ k56 rfl (fun hG => c56 (tcpE eS eD (putTL eS eD tA)) _ (by rw [tA_parE]; decide)) ?_
 intro w37 B_; have S := S.call B_
 refine eql rfl rfl rfl rfl rfl rfl ?_
 refine pkA rfl rfl rfl rfl rfl rfl ?_
 refine mv1 rfl rfl ?_
 refine mv rfl rfl rfl rfl ?_
 refine calg (vs := [_]) rfl ⟨⟨_, _, rfl, rfl⟩, trivial⟩ k56 rfl (fun hG => c56 (tcpE eS eD []) _ (by rw [t_nil]; decide)) ?_
 intro w38 B_; have S := S.call B_
 refine eql rfl rfl rfl rfl rfl rfl ?_
 refine pkA rfl rfl rfl rfl rfl rfl ?_
 refine mv1 rfl rfl ?_
 refine mv rfl rfl rfl rfl ?_
 refine pkA rfl rfl rfl rfl rfl rfl ?_
 refine mv1 rfl rfl ?_
 refine mv rfl rfl rfl rfl ?_
 refine eql rfl rfl rfl rfl rfl rfl ?_
 refine pkA rfl rfl rfl rfl rfl rfl ?_
 refine mv1 rfl rfl ?_
 refine mv rfl rfl rfl rfl ?_
 refine lenS rfl h9.2 Tryd.underlying26 rfl rfl rfl ?_
 refine eql rfl rfl rfl rfl rfl rfl ?_
 refine pkA rfl rfl rfl rfl rfl rfl ?_
 refine asg1 rfl rfl ?_
 refine Ro.nil ?_
 refine Nrm.code ?_
 refine Run.seq ?_
 refine Run.region ?_
 refine mv1 rfl rfl ?_
 refine mv1 rfl rfl ?_
 refine Ro.gtrue rfl (by simp [allT, uN_chk, uA_putE, uA_parE, tA_putE, tA_parE, t_nil, tM_mss, tA_len, uA_putL, uA_same, tA_same, tA_clamp]) ?_
 refine mv1 rfl rfl ?_
 refine Ro.gtrue rfl (by simp [allT, uN_chk, uA_putE, uA_parE, tA_putE, tA_parE, t_nil, tM_mss, tA_len, uA_putL, uA_same, tA_same, tA_clamp]) ?_
 refine bsl e26 (qs := [(_, _), (_, _), (_, _), (_, _), (_, _), (_, _), (_, _), (_, _), (_, _), (_, _)]) ⟨⟨_, _, _, rfl, rfl, rfl, rfl, by first | (simp [Value.cells]; done) | simp [Value.cells, encIP]⟩, ⟨_, _, _, rfl, rfl, rfl, rfl, by first | (simp [Value.cells]; done) | simp [Value.cells, encIP]⟩, ⟨_, _, _, rfl, rfl, rfl, rfl, by first | (simp [Value.cells]; done) | simp [Value.cells, encIP]⟩, ⟨_, _, _, rfl, rfl, rfl, rfl, by first | (simp [Value.cells]; done) | simp [Value.cells, encIP]⟩, ⟨_, _, _, rfl, rfl, rfl, rfl, by first | (simp [Value.cells]; done) | simp [Value.cells, encIP]⟩, ⟨_, _, _, rfl, rfl, rfl, rfl, by first | (simp [Value.cells]; done) | simp [Value.cells, encIP]⟩, ⟨_, _, _, rfl, rfl, rfl, rfl, by first | (simp [Value.cells]; done) | simp [Value.cells, encIP]⟩, ⟨_, _, _, rfl, rfl, rfl, rfl, by first | (simp [Value.cells]; done) | simp [Value.cells, encIP]⟩, ⟨_, _, _, rfl, rfl, rfl, rfl, by first | (simp [Value.cells]; done) | simp [Value.cells, encIP]⟩, ⟨_, _, _, rfl, rfl, rfl, rfl, by first | (simp [Value.cells]; done) | simp [Value.cells, encIP]⟩, trivial⟩ rfl rfl rfl rfl S ?_
 intro u121 w39 S B_
 refine Ro.gtrue rfl (by simp [allT, uN_chk, uA_putE, uA_parE, tA_putE, tA_parE, t_nil, tM_mss, tA_len, uA_putL, uA_same, tA_same, tA_clamp]) ?_
 refine calg (vs := [_, _]) rfl ⟨⟨_, _, rfl, rfl⟩, ⟨_, _, rfl, rfl⟩, trivial⟩ k37 rfl (fun hG => c37 _ _ (putUL eS eD uA) uAB _ (S.bsI (i := 9) rfl (by rw [uA_putL]; exact uAB_byt)) (S.bsI (i := 0) (l := uAB) rfl uAB_byt)) ?_
 intro w40 B_; have S := S.call B_
 refine pkA rfl rfl rfl rfl rfl rfl ?_
 refine mv1 rfl rfl ?_
 refine ldW rfl T73 S (i := 10) rfl rfl rfl rfl rfl ?_
 refine ldW rfl T73 S (i := 8) rfl rfl rfl rfl rfl ?_
 refine calg (vs := [_, _]) rfl ⟨⟨_, _, rfl, rfl⟩, ⟨_, _, rfl, rfl⟩, trivial⟩ k59 rfl (fun hG => c59 uA (udpU eS eD uAB) _ _ _ (h25.now S) (hd6.now S)) ?_
 intro w41 B_; have S := S.call B_
 refine pkA rfl rfl rfl rfl rfl rfl ?_
 refine mv1 rfl rfl ?_
 refine ldW rfl T82 S (i := 6) rfl rfl rfl rfl rfl ?_
 refine ldW rfl T82 S (i := 7) rfl rfl rfl rfl rfl ?_
 refine calg (vs := [_, _]) rfl ⟨⟨_, _, rfl, rfl⟩, ⟨_, _, rfl, rfl⟩, trivial⟩ k63 rfl (fun hG => c63 (tcpT eS eD (putTL eS eD tA)) tA _ _ _ _ _ (ho11.now S) (hd11.now S) (hOA.now S) (BS.nil _ _) (by rw [tcpT, if_pos tA_parE]; unfold tcpG; rw [tA_tL]; decide)) ?_
 intro w42 B_; have S := S.call B_
 refine pkA rfl rfl rfl rfl rfl rfl ?_
 refine mv1 rfl rfl ?_
 refine ldW rfl T82 S (i := 2) rfl rfl rfl rfl rfl ?_
 refine ldW rfl T82 S (i := 7) rfl rfl rfl rfl rfl ?_
 refine calg (vs := [_, _]) rfl ⟨⟨_, _, rfl, rfl⟩, ⟨_, _, rfl, rfl⟩, trivial⟩ k63 rfl (fun hG => c63 (clampT tA 9) tA _ _ _ _ _ (ho17.now S) (BS.nil _ _) (hOA.now S) (BS.nil _ _) (by decide)) ?_
 intro w43 B_; have S := S.call B_
 refine pkA rfl rfl rfl rfl rfl rfl ?_
 refine asg1 rfl rfl ?_
 refine Ro.nil ?_
 refine Nrm.code ?_
 refine Run.ret ?_
 refine Rt.one rfl rfl ?_
 exact ⟨by simp [uN_chk, uA_putE, uA_parE, tA_putE, tA_parE, t_nil, tM_mss, tA_len, uA_putL, uA_same, tA_same, tA_clamp], (SS.tran hN8 S).bl⟩
end Go.Proofs.YtkahmepenjhcpaaDoor.W
/- Plain laws of datagrams: what is written is read as it was. No program walked here; no statement of the seat is proved here. -/
namespace Go.Proofs.YtkahmepenjhcpaaDoor.W
open Go
set_option linter.unusedVariables false
set_option linter.unusedSimpArgs false
/-- a datagram's first twenty bytes, the sum in its place -/
def hd20 (h : Ip4) : List Int :=
  [4 * 16 + (20 + ((putL h.opts).length : Int)) / 4, h.tos, (20 + ((putL h.opts).length : Int) + (h.data.length : Int)) / 256, (20 + ((putL h.opts).length : Int) + (h.data.length : Int)) % 256, h.id / 256, h.id % 256,
   bI h.df * 64 + bI h.mf * 32 + h.off / 8 / 256, h.off / 8 % 256, h.ttl, h.proto, sumC h / 256, sumC h % 256, h.src.a 0, h.src.a 1, h.src.a 2, h.src.a 3, h.dst.a 0, h.dst.a 1, h.dst.a 2, h.dst.a 3]
/-- a datagram that may be one, its addresses' last twelve places told -/
def norm4 (x : IP) : IP := ip4of (x.a 0) (x.a 1) (x.a 2) (x.a 3)
def normH (h : Ip4) : Ip4 := { h with src := norm4 h.src, dst := norm4 h.dst }
end Go.Proofs.YtkahmepenjhcpaaDoor.W
/- Contracts: the reference reads. No statement of the seat is proved here. -/
namespace Go.Proofs.YtkahmepenjhcpaaDoor.W
open Go
set_option linter.unusedSimpArgs false
set_option linter.unusedVariables false
set_option maxHeartbeats 1000000 in
theorem c42 (v : Value) (b : List Int) (w : World) (hb : BS [] w v b) :
  CallsV Tryd.prog 42 #[v] w (fun r w' => ∃ o d, r = .tuple #[.agg (encIp4 (parH b) o d).toArray, .int .i64 (parE b)] ∧ FH w w' o d (parH b)) := by
 refine enter Tryd.func42 rfl Tryd.ntmps42 (l := [(0, [], _)]) rfl rfl ?_
 have S := St.refl [] w
 have hB := byt_at hb.1
 have hfl := fields_ip4 hB
 have g0 := hB 0
 have g2 := hB 2
 have g3 := hB 3
 have g6 := hB 6
 have g7 := hB 7
 have hH : 4 * (b.getD 0 0 % 16) = (hdN b : Int) := by unfold hdN; omega
 have hT : totI b = (totN b : Int) := by unfold totN totI; omega
 have hTb : totN b < 65536 := by unfold totN totI; omega
 have hHb : hdN b ≤ 60 := by omega
 rw [hT] at hfl
 have hwb : 0 ≤ offW b ∧ offW b < 8192 := by unfold offW; omega
 have hoe := optE_le (optB4 b)
 have ho4 : optE (optB4 b) = optE ((b.drop 20).take (hdN b - 20)) := rfl
 have hT2 : 256 * b.getD 2 0 + b.getD (2 + 1) 0 = (totN b : Int) := (show 256 * b.getD 2 0 + b.getD 3 0 = (totN b : Int) from by unfold totN totI; omega)
 have h45 : 256 * b.getD 4 0 + b.getD (4 + 1) 0 = b.getD 4 0 * 256 + b.getD 5 0 := (show 256 * b.getD 4 0 + b.getD 5 0 = b.getD 4 0 * 256 + b.getD 5 0 from by omega)
 have h67 : 256 * b.getD 6 0 + b.getD (6 + 1) 0 = 256 * b.getD 6 0 + b.getD 7 0 := rfl
 have hR0 : ∀ i ∈ List.range w.heap.size, i < w.heap.size := fun i hi => List.mem_range.1 hi
 refine Run.seq ?_
 refine Run.region ?_
 refine alc T28 S rfl ?_
 intro b2 w1 hb2 S B_
 refine asg1 rfl rfl ?_
 refine Ro.nil ?_
 refine Nrm.code ?_
 refine Run.seq ?_
 refine Run.region ?_
 refine bld B28 (qs := []) trivial rfl rfl rfl ?_
 refine alc T28 S rfl ?_
 intro b4 w2 hb4 S B_
 refine stW rfl rfl T28 rfl rfl (by simp [Value.oneCell']) S (i := 0) rfl rfl ?_
 intro w3 S
 refine Ro.nil ?_
 refine Nrm.code ?_
 refine Run.seq ?_
 refine Run.seq ?_
 refine Run.region ?_
 refine mv1 rfl rfl ?_
 refine lenS rfl hb.2 Tryd.underlying26 rfl rfl rfl ?_
 refine gtr1 rfl rfl rfl ?_
 refine Ro.nil ?_
 refine Nrm.code ?_
 refine Run.cond rfl (fun hc2 => ?_) (fun hc2 => ?_)
 ·
  try simp only [Bool.or_eq_true, Bool.and_eq_true, Bool.or_eq_false_iff, Bool.and_eq_false_iff, decide_eq_true_eq, decide_eq_false_iff_not, Bool.not_eq_true', Bool.not_eq_false', Bool.not_eq_true, Bool.not_eq_false] at hc2
  refine Run.seq ?_
  refine Run.region ?_
  refine ldW rfl T28 S (i := 0) rfl rfl rfl rfl rfl ?_
  refine stW rfl rfl T28 rfl rfl (by simp [Value.oneCell']) S (i := 1) rfl rfl ?_
  intro w4 S
  refine asg1 rfl rfl ?_
  refine Ro.nil ?_
  refine Nrm.code ?_
  refine Run.ret ?_
  refine Rt.cell2 rfl rfl rfl T28 S (i := 1) rfl rfl ?_
  have he : parE b = 2 := by
   unfold parE
   rw [if_pos (by omega)]
  exact ⟨.slice none 0 0, .slice none 0 0, by rw [parH_err he (by omega), he]; rfl, S.bl, fun _ _ => by rw [parH_err he (by omega)]; exact ⟨OS.nil _ _, BS.nil _ _⟩⟩
 ·
  try simp only [Bool.or_eq_true, Bool.and_eq_true, Bool.or_eq_false_iff, Bool.and_eq_false_iff, decide_eq_true_eq, decide_eq_false_iff_not, Bool.not_eq_true', Bool.not_eq_false', Bool.not_eq_true, Bool.not_eq_false] at hc2
  refine Run.skip ?_
  refine Nrm.code ?_
  refine Run.seq ?_
  refine Run.seq ?_
  refine Run.region ?_
  refine mv1 rfl rfl ?_
  refine lenS rfl hb.2 Tryd.underlying26 rfl rfl rfl ?_
  refine lss1 rfl rfl rfl ?_
  refine Ro.nil ?_
  refine Nrm.code ?_
  refine Run.cond rfl (fun hc4 => ?_) (fun hc4 => ?_)
  ·
   try simp only [Bool.or_eq_true, Bool.and_eq_true, Bool.or_eq_false_iff, Bool.and_eq_false_iff, decide_eq_true_eq, decide_eq_false_iff_not, Bool.not_eq_true', Bool.not_eq_false', Bool.not_eq_true, Bool.not_eq_false] at hc4
   refine Run.seq ?_
   refine Run.region ?_
   refine ldW rfl T28 S (i := 0) rfl rfl rfl rfl rfl ?_
   refine stW rfl rfl T28 rfl rfl (by simp [Value.oneCell']) S (i := 1) rfl rfl ?_
   intro w4 S
   refine asg1 rfl rfl ?_
   refine Ro.nil ?_
   refine Nrm.code ?_
   refine Run.ret ?_
   refine Rt.cell2 rfl rfl rfl T28 S (i := 1) rfl rfl ?_
   have he : parE b = 60 := by
    unfold parE
    rw [if_neg (by omega), if_pos (by omega)]
   exact ⟨.slice none 0 0, .slice none 0 0, by rw [parH_err he (by omega), he]; rfl, S.bl, fun _ _ => by rw [parH_err he (by omega)]; exact ⟨OS.nil _ _, BS.nil _ _⟩⟩
  ·
   try simp only [Bool.or_eq_true, Bool.and_eq_true, Bool.or_eq_false_iff, Bool.and_eq_false_iff, decide_eq_true_eq, decide_eq_false_iff_not, Bool.not_eq_true', Bool.not_eq_false', Bool.not_eq_true, Bool.not_eq_false] at hc4
   refine Run.skip ?_
   refine Nrm.code ?_
   refine Run.seq ?_
   refine Run.region ?_
   refine mv1 rfl rfl ?_
   refine ixa rfl rfl hb.2 e26 rfl rfl rfl rfl (fun _ => by first | omega | (simp only [List.length_cons, List.length_nil]; omega)) ?_
   refine ldB rfl hb S T5 rfl rfl rfl (fun _ => by omega) ?_
   intro q23 hq23 hbq23
   try simp only [Int.toNat_natCast, Nat.mul_one, Int.reduceToNat] at hq23
   refine rem1 rfl rfl rfl (by decide) (r64 (by omega)) ?_
   refine cvi1 rfl rfl Tryd.underlying5 Tryd.underlying3 (w64 (by omega)) ?_
   refine mul1 rfl rfl rfl ((show IntKind.i64.wrap (_ * 4) = (hdN b : Int) from by rw [w64 (by omega)]; omega)) ?_
   refine asg1 rfl rfl ?_
   refine Ro.nil ?_
   refine Nrm.code ?_
   refine Run.seq ?_
   refine Run.region ?_
   refine mv1 rfl rfl ?_
   refine calg (vs := [_, _]) rfl ⟨⟨_, _, rfl, rfl⟩, ⟨_, _, rfl, rfl⟩, trivial⟩ k111 rfl (fun hG => (by have := c111 _ _ 2 _ (hb.now S) (by omega) (by omega); rw [hT2] at this; exact this)) ?_
   intro w4 B_; have S := S.call B_
   refine asg1 rfl rfl ?_
   refine Ro.nil ?_
   refine Nrm.code ?_
   refine Run.seq ?_
   refine Run.block ?_
   refine Run.seq ?_
   refine Run.region ?_
   refine mv1 rfl rfl ?_
   refine ixa rfl rfl hb.2 e26 rfl rfl rfl rfl (fun _ => by first | omega | (simp only [List.length_cons, List.length_nil]; omega)) ?_
   refine ldB rfl hb S T5 rfl rfl rfl (fun _ => by omega) ?_
   intro q32 hq32 hbq32
   try simp only [Int.toNat_natCast, Nat.mul_one, Int.reduceToNat] at hq32
   refine quo1 rfl rfl rfl (by decide) ((show IntKind.u8.wrap (Int.tdiv q32 16) = b.getD 0 0 / 16 from by rw [Int.tdiv_eq_ediv_of_nonneg (by omega), hq32]; exact w8of rfl (by omega))) ?_
   refine neq1 rfl rfl rfl ?_
   refine asg1 rfl rfl ?_
   refine Ro.nil ?_
   refine Nrm.code ?_
   refine Run.cond rfl (fun hc8 => ?_) (fun hc8 => ?_)
   ·
    try simp only [Bool.or_eq_true, Bool.and_eq_true, Bool.or_eq_false_iff, Bool.and_eq_false_iff, decide_eq_true_eq, decide_eq_false_iff_not, Bool.not_eq_true', Bool.not_eq_false', Bool.not_eq_true, Bool.not_eq_false] at hc8
    refine Run.seq ?_
    refine Run.region ?_
    refine ldW rfl T28 S (i := 0) rfl rfl rfl rfl rfl ?_
    refine stW rfl rfl T28 rfl rfl (by simp [Value.oneCell']) S (i := 1) rfl rfl ?_
    intro w5 S
    refine asg1 rfl rfl ?_
    refine Ro.nil ?_
    refine Nrm.code ?_
    refine Run.ret ?_
    refine Rt.cell2 rfl rfl rfl T28 S (i := 1) rfl rfl ?_
    have he : parE b = 61 := by
     unfold parE
     rw [if_neg (by omega), if_neg (by omega), if_pos (by omega)]
    exact ⟨.slice none 0 0, .slice none 0 0, by rw [parH_err he (by omega), he]; rfl, S.bl, fun _ _ => by rw [parH_err he (by omega)]; exact ⟨OS.nil _ _, BS.nil _ _⟩⟩
   ·
    try simp only [Bool.or_eq_true, Bool.and_eq_true, Bool.or_eq_false_iff, Bool.and_eq_false_iff, decide_eq_true_eq, decide_eq_false_iff_not, Bool.not_eq_true', Bool.not_eq_false', Bool.not_eq_true, Bool.not_eq_false] at hc8
    refine Run.seq ?_
    refine Run.region ?_
    refine mv1 rfl rfl ?_
    refine lss1 rfl rfl rfl ?_
    refine mv1 rfl rfl ?_
    refine mv rfl rfl rfl rfl ?_
    refine mv rfl rfl rfl rfl ?_
    refine lenS rfl hb.2 Tryd.underlying26 rfl rfl rfl ?_
    refine gtr rfl rfl rfl rfl rfl rfl ?_
    refine pkO rfl rfl rfl rfl rfl rfl ?_
    refine asg1 rfl rfl ?_
    refine Ro.nil ?_
    refine Nrm.code ?_
    refine Run.cond rfl (fun hc10 => ?_) (fun hc10 => ?_)
    ·
     try simp only [Bool.or_eq_true, Bool.and_eq_true, Bool.or_eq_false_iff, Bool.and_eq_false_iff, decide_eq_true_eq, decide_eq_false_iff_not, Bool.not_eq_true', Bool.not_eq_false', Bool.not_eq_true, Bool.not_eq_false] at hc10
     refine Run.seq ?_
     refine Run.region ?_
     refine ldW rfl T28 S (i := 0) rfl rfl rfl rfl rfl ?_
     refine stW rfl rfl T28 rfl rfl (by simp [Value.oneCell']) S (i := 1) rfl rfl ?_
     intro w5 S
     refine asg1 rfl rfl ?_
     refine Ro.nil ?_
     refine Nrm.code ?_
     refine Run.ret ?_
     refine Rt.cell2 rfl rfl rfl T28 S (i := 1) rfl rfl ?_
     have he : parE b = 62 := by
      unfold parE
      rw [if_neg (by omega), if_neg (by omega), if_neg (by omega), if_pos (by omega)]
     exact ⟨.slice none 0 0, .slice none 0 0, by rw [parH_err he (by omega), he]; rfl, S.bl, fun _ _ => by rw [parH_err he (by omega)]; exact ⟨OS.nil _ _, BS.nil _ _⟩⟩
    ·
     try simp only [Bool.or_eq_true, Bool.and_eq_true, Bool.or_eq_false_iff, Bool.and_eq_false_iff, decide_eq_true_eq, decide_eq_false_iff_not, Bool.not_eq_true', Bool.not_eq_false', Bool.not_eq_true, Bool.not_eq_false] at hc10
     refine Run.seq ?_
     refine Run.region ?_
     refine mv1 rfl rfl ?_
     refine mv1 rfl rfl ?_
     refine lss1 rfl rfl rfl ?_
     refine mv1 rfl rfl ?_
     refine mv rfl rfl rfl rfl ?_
     refine mv rfl rfl rfl rfl ?_
     refine lenS rfl hb.2 Tryd.underlying26 rfl rfl rfl ?_
     refine gtr rfl rfl rfl rfl rfl rfl ?_
     refine pkO rfl rfl rfl rfl rfl rfl ?_
     refine asg1 rfl rfl ?_
     refine Ro.nil ?_
     refine Nrm.code ?_
     refine Run.cond rfl (fun hc12 => ?_) (fun hc12 => ?_)
     ·
      try simp only [Bool.or_eq_true, Bool.and_eq_true, Bool.or_eq_false_iff, Bool.and_eq_false_iff, decide_eq_true_eq, decide_eq_false_iff_not, Bool.not_eq_true', Bool.not_eq_false', Bool.not_eq_true, Bool.not_eq_false] at hc12
      refine Run.seq ?_
      refine Run.region ?_
      refine ldW rfl T28 S (i := 0) rfl rfl rfl rfl rfl ?_
      refine stW rfl rfl T28 rfl rfl (by simp [Value.oneCell']) S (i := 1) rfl rfl ?_
      intro w5 S
      refine asg1 rfl rfl ?_
      refine Ro.nil ?_
      refine Nrm.code ?_
      refine Run.ret ?_
      refine Rt.cell2 rfl rfl rfl T28 S (i := 1) rfl rfl ?_
      have he : parE b = 63 := by
       unfold parE
       rw [if_neg (by omega), if_neg (by omega), if_neg (by omega), if_neg (by omega), if_pos (by omega)]
      exact ⟨.slice none 0 0, .slice none 0 0, by rw [parH_err he (by omega), he]; rfl, S.bl, fun _ _ => by rw [parH_err he (by omega)]; exact ⟨OS.nil _ _, BS.nil _ _⟩⟩
     ·
      try simp only [Bool.or_eq_true, Bool.and_eq_true, Bool.or_eq_false_iff, Bool.and_eq_false_iff, decide_eq_true_eq, decide_eq_false_iff_not, Bool.not_eq_true', Bool.not_eq_false', Bool.not_eq_true, Bool.not_eq_false] at hc12
      refine Run.skip ?_
      refine Nrm.blk ?_
      refine Nrm.code ?_
      refine Run.seq ?_
      refine Run.region ?_
      refine mv1 rfl rfl ?_
      refine mv1 rfl rfl ?_
      refine slC (lo := 0) (hi := hdN b) (mx := capV v) rfl hb e26 rfl rfl rfl (i1 := none) (i2 := some (hdN b)) (i3 := none) trivial ⟨_, _, _, rfl, rfl⟩ trivial rfl rfl rfl (fun h => by first | rfl | cases h) (fun hG => by (try simp [allT] at hG); have hcap := hb.cap; omega) ?_
      have hv59 := hb.cut (lo := 0) (hi := hdN b) (mx := capV v) (by have hcap := hb.cap; omega)
      refine bsl e102 (qs := [(_, _)]) ⟨⟨_, _, _, rfl, rfl, cells1 hv59.one, rfl, List.cons_ne_nil _ _⟩, trivial⟩ rfl rfl rfl rfl S ?_
      intro u60 w5 S B_
      have hgd : CallsD Tryd.prog 112 #[u60] w5 (.bool (decide (sumS (b.take (hdN b)) = 65535))) := by
       have := c112 u60 [b.take (hdN b)] w5 ⟨[_], S.slI (i := 0) rfl, hv59.now S, trivial⟩ (by rw [flat1, List.length_take]; omega) (by simp)
       rw [flat1] at this
       exact this
      refine calg (vs := [_]) rfl ⟨⟨_, _, rfl, rfl⟩, trivial⟩ k112 rfl (fun hG => hgd) ?_
      intro w6 B_; have S := S.call B_
      refine asg1 rfl rfl ?_
      refine Ro.nil ?_
      refine Nrm.code ?_
      refine Run.seq ?_
      refine Run.seq ?_
      refine Run.region ?_
      refine mv1 rfl rfl ?_
      refine nt1 rfl rfl ?_
      refine Ro.nil ?_
      refine Nrm.code ?_
      refine Run.cond rfl (fun hc15 => ?_) (fun hc15 => ?_)
      ·
       try simp only [Bool.or_eq_true, Bool.and_eq_true, Bool.or_eq_false_iff, Bool.and_eq_false_iff, decide_eq_true_eq, decide_eq_false_iff_not, Bool.not_eq_true', Bool.not_eq_false', Bool.not_eq_true, Bool.not_eq_false] at hc15
       refine Run.seq ?_
       refine Run.region ?_
       refine ldW rfl T28 S (i := 1) rfl rfl rfl rfl rfl ?_
       refine stW rfl rfl T28 rfl rfl (by simp [Value.oneCell']) S (i := 2) rfl rfl ?_
       intro w7 S
       refine asg1 rfl rfl ?_
       refine Ro.nil ?_
       refine Nrm.code ?_
       refine Run.ret ?_
       refine Rt.cell2 rfl rfl rfl T28 S (i := 2) rfl rfl ?_
       have he : parE b = 64 := by
        unfold parE
        rw [if_neg (by omega), if_neg (by omega), if_neg (by omega), if_neg (by omega), if_neg (by omega), if_pos (show sumS (b.take (hdN b)) ≠ 65535 from by simpa using hc15)]
       exact ⟨.slice none 0 0, .slice none 0 0, by rw [parH_err he (by omega), he]; rfl, S.bl, fun _ _ => by rw [parH_err he (by omega)]; exact ⟨OS.nil _ _, BS.nil _ _⟩⟩
      ·
       try simp only [Bool.or_eq_true, Bool.and_eq_true, Bool.or_eq_false_iff, Bool.and_eq_false_iff, decide_eq_true_eq, decide_eq_false_iff_not, Bool.not_eq_true', Bool.not_eq_false', Bool.not_eq_true, Bool.not_eq_false] at hc15
       refine Run.skip ?_
       refine Nrm.code ?_
       refine Run.seq ?_
       refine Run.region ?_
       refine mv1 rfl rfl ?_
       refine mv1 rfl rfl ?_
       refine slC (lo := 20) (hi := hdN b) (mx := capV v) rfl hb e26 rfl rfl rfl (i1 := some 20) (i2 := some (hdN b)) (i3 := none) ⟨_, _, _, rfl, rfl⟩ ⟨_, _, _, rfl, rfl⟩ trivial rfl rfl rfl (fun h => by first | rfl | cases h) (fun hG => by (try simp [allT] at hG); have hcap := hb.cap; omega) ?_
       have hv68 := hb.cut (lo := 20) (hi := hdN b) (mx := capV v) (by have hcap := hb.cap; omega)
       have S0 := S
       have SS0 := S
       refine call (vs := [_]) ⟨⟨_, _, rfl, rfl⟩, trivial⟩ k45 rfl (c45 _ _ _ (hv68.now S)) ?_
       rintro _ w7 ⟨o8, rfl, hFO⟩
       have S := S.call hFO.1
       have ho8 := hFO.2 _ S0.lt
       have ho8F := hFO.2 _ SS0.ltR
       obtain ⟨N1, hN1, S_1⟩ := S.reb
       have hb := hb.st S; rw [hN1] at hb
       rw [hN1] at ho8
       rw [hN1] at ho8F
       have SS := S
       have S := S_1
       refine mv1 rfl rfl ?_
       refine extr1 rfl rfl rfl ?_
       refine extr1 rfl rfl rfl ?_
       refine asg1 rfl rfl ?_
       refine asg1 rfl rfl ?_
       refine Ro.nil ?_
       refine Nrm.code ?_
       refine Run.seq ?_
       refine Run.seq ?_
       refine Run.region ?_
       refine mv1 rfl rfl ?_
       refine neq1 rfl rfl rfl ?_
       refine Ro.nil ?_
       refine Nrm.code ?_
       refine Run.cond rfl (fun hc18 => ?_) (fun hc18 => ?_)
       ·
        try simp only [Bool.or_eq_true, Bool.and_eq_true, Bool.or_eq_false_iff, Bool.and_eq_false_iff, decide_eq_true_eq, decide_eq_false_iff_not, Bool.not_eq_true', Bool.not_eq_false', Bool.not_eq_true, Bool.not_eq_false] at hc18
        refine Run.seq ?_
        refine Run.region ?_
        refine ldW rfl T28 S (i := 1) rfl rfl rfl rfl rfl ?_
        refine mv1 rfl rfl ?_
        refine stW rfl rfl T28 rfl rfl (by simp [Value.oneCell']) S (i := 2) rfl rfl ?_
        intro w8 S
        refine asg1 rfl rfl ?_
        refine Ro.nil ?_
        refine Nrm.code ?_
        refine Run.ret ?_
        refine Rt.cell2 rfl rfl rfl T28 S (i := 2) rfl rfl ?_
        have he : parE b = optE (optB4 b) := by
         unfold parE
         rw [if_neg (by omega), if_neg (by omega), if_neg (by omega), if_neg (by omega), if_neg (by omega), if_neg (by omega), if_pos (show optE (optB4 b) ≠ 0 from hc18)]
        exact ⟨.slice none 0 0, .slice none 0 0, by rw [parH_err he (by omega), he]; rfl, (SS.tran hN1 S).bl, fun _ _ => by rw [parH_err he (by omega)]; exact ⟨OS.nil _ _, BS.nil _ _⟩⟩
       ·
        try simp only [Bool.or_eq_true, Bool.and_eq_true, Bool.or_eq_false_iff, Bool.and_eq_false_iff, decide_eq_true_eq, decide_eq_false_iff_not, Bool.not_eq_true', Bool.not_eq_false', Bool.not_eq_true, Bool.not_eq_false] at hc18
        refine Run.skip ?_
        refine Nrm.code ?_
        refine Run.seq ?_
        refine Run.region ?_
        refine mv1 rfl rfl ?_
        refine calg (vs := [_, _]) rfl ⟨⟨_, _, rfl, rfl⟩, ⟨_, _, rfl, rfl⟩, trivial⟩ k111 rfl (fun hG => (by have := c111 _ _ 6 _ (hb.now S) (by omega) (by omega); rw [h67] at this; exact this)) ?_
        intro w8 B_; have S := S.call B_
        refine asg1 rfl rfl ?_
        refine Ro.nil ?_
        refine Nrm.code ?_
        refine Run.seq ?_
        refine Run.heldB (by kernel_rfl) S [true, true, true] rfl rfl rfl ?_
        intro w9 BD S SC
        refine Hb.take (i := 0) SC (fun _ _ S B => S.call B) Pp.body rfl (by kernel_rfl) (by kernel_rfl) (by kernel_rfl) rfl rfl ?_
        refine qmv rfl rfl rfl rfl ?_
        refine Hb.back ?_
        refine Hb.take (i := 1) SC (fun _ _ S B => S.call B) Pp.body rfl (by kernel_rfl) (by kernel_rfl) (by kernel_rfl) rfl rfl ?_
        refine qixa rfl rfl hb.2 e26 rfl rfl rfl rfl (fun _ => by first | omega | (simp only [List.length_cons, List.length_nil]; omega)) ?_
        refine Hb.back ?_
        refine Hb.take (i := 2) SC (fun _ _ S B => S.call B) Pp.body rfl (by kernel_rfl) (by kernel_rfl) (by kernel_rfl) rfl rfl ?_
        refine qldB rfl hb (fun _ S => S) T5 rfl rfl rfl (fun _ => by omega) ?_
        intro q80 hq80 hbq80
        try simp only [Int.toNat_natCast, Nat.mul_one, Int.reduceToNat] at hq80
        refine Hb.back ?_
        refine Hb.take (i := 3) SC (fun _ _ S B => S.call B) Pp.body rfl (by kernel_rfl) (by kernel_rfl) (by kernel_rfl) rfl rfl ?_
        refine qcvi rfl rfl rfl rfl Tryd.underlying5 Tryd.underlying3 (fun _ => w64 (by omega)) ?_
        refine Hb.back ?_
        refine Hb.take (i := 4) SC (fun _ _ S B => S.call B) Pp.body rfl (by kernel_rfl) (by kernel_rfl) (by kernel_rfl) rfl rfl ?_
        refine qmv rfl rfl rfl rfl ?_
        refine Hb.back ?_
        refine Hb.take (i := 6) SC (fun _ _ S B => S.call B) Pp.body rfl (by kernel_rfl) (by kernel_rfl) (by kernel_rfl) rfl rfl ?_
        refine qmv rfl rfl rfl rfl ?_
        refine Hb.back ?_
        refine Hb.take (i := 7) SC (fun _ _ S B => S.call B) Pp.body rfl (by kernel_rfl) (by kernel_rfl) (by kernel_rfl) rfl rfl ?_
        refine qquo rfl rfl rfl rfl rfl rfl (fun _ => by decide) (fun _ => (show IntKind.i64.wrap (Int.tdiv (256 * b.getD 6 0 + b.getD 7 0) 16384) = b.getD 6 0 / 64 from by rw [Int.tdiv_eq_ediv_of_nonneg (by omega), w64 (by omega)]; omega)) ?_
        refine Hb.back ?_
        refine Hb.take (i := 8) SC (fun _ _ S B => S.call B) Pp.body rfl (by kernel_rfl) (by kernel_rfl) (by kernel_rfl) rfl rfl ?_
        refine qrem rfl rfl rfl rfl rfl rfl (fun _ => by decide) (fun _ => r64 (by omega)) ?_
        refine Hb.back ?_
        refine Hb.take (i := 9) SC (fun _ _ S B => S.call B) Pp.body rfl (by kernel_rfl) (by kernel_rfl) (by kernel_rfl) rfl rfl ?_
        refine qeql rfl rfl rfl rfl rfl rfl ?_
        refine Hb.back ?_
        refine Hb.take (i := 10) SC (fun _ _ S B => S.call B) Pp.body rfl (by kernel_rfl) (by kernel_rfl) (by kernel_rfl) rfl rfl ?_
        refine qmv rfl rfl rfl rfl ?_
        refine Hb.back ?_
        refine Hb.take (i := 11) SC (fun _ _ S B => S.call B) Pp.body rfl (by kernel_rfl) (by kernel_rfl) (by kernel_rfl) rfl rfl ?_
        refine qquo rfl rfl rfl rfl rfl rfl (fun _ => by decide) (fun _ => (show IntKind.i64.wrap (Int.tdiv (256 * b.getD 6 0 + b.getD 7 0) 8192) = b.getD 6 0 / 32 from by rw [Int.tdiv_eq_ediv_of_nonneg (by omega), w64 (by omega)]; omega)) ?_
        refine Hb.back ?_
        refine Hb.take (i := 12) SC (fun _ _ S B => S.call B) Pp.body rfl (by kernel_rfl) (by kernel_rfl) (by kernel_rfl) rfl rfl ?_
        refine qrem rfl rfl rfl rfl rfl rfl (fun _ => by decide) (fun _ => r64 (by omega)) ?_
        refine Hb.back ?_
        refine Hb.take (i := 13) SC (fun _ _ S B => S.call B) Pp.body rfl (by kernel_rfl) (by kernel_rfl) (by kernel_rfl) rfl rfl ?_
        refine qeql rfl rfl rfl rfl rfl rfl ?_
        refine Hb.back ?_
        refine Hb.take (i := 14) SC (fun _ _ S B => S.call B) Pp.body rfl (by kernel_rfl) (by kernel_rfl) (by kernel_rfl) rfl rfl ?_
        refine qmv rfl rfl rfl rfl ?_
        refine Hb.back ?_
        refine Hb.take (i := 15) SC (fun _ _ S B => S.call B) Pp.body rfl (by kernel_rfl) (by kernel_rfl) (by kernel_rfl) rfl rfl ?_
        refine qrem rfl rfl rfl rfl rfl rfl (fun _ => by decide) (fun _ => (show Int.tmod (256 * b.getD 6 0 + b.getD 7 0) 8192 = offW b from by rw [Int.tmod_eq_emod_of_nonneg (by omega)]; unfold offW; omega)) ?_
        refine Hb.back ?_
        refine Hb.take (i := 16) SC (fun _ _ S B => S.call B) Pp.body rfl (by kernel_rfl) (by kernel_rfl) (by kernel_rfl) rfl rfl ?_
        refine qmul rfl rfl rfl rfl rfl rfl (fun _ => (show IntKind.i64.wrap (offW b * 8) = 8 * offW b from by rw [w64 (by omega)]; omega)) ?_
        refine Hb.back ?_
        refine Hb.take (i := 17) SC (fun _ _ S B => S.call B) Pp.body rfl (by kernel_rfl) (by kernel_rfl) (by kernel_rfl) rfl rfl ?_
        refine qmv rfl rfl rfl rfl ?_
        refine Hb.back ?_
        refine Hb.take (i := 18) SC (fun _ _ S B => S.call B) Pp.body rfl (by kernel_rfl) (by kernel_rfl) (by kernel_rfl) rfl rfl ?_
        refine qixa rfl rfl hb.2 e26 rfl rfl rfl rfl (fun _ => by first | omega | (simp only [List.length_cons, List.length_nil]; omega)) ?_
        refine Hb.back ?_
        refine Hb.take (i := 19) SC (fun _ _ S B => S.call B) Pp.body rfl (by kernel_rfl) (by kernel_rfl) (by kernel_rfl) rfl rfl ?_
        refine qldB rfl hb (fun _ S => S) T5 rfl rfl rfl (fun _ => by omega) ?_
        intro q97 hq97 hbq97
        try simp only [Int.toNat_natCast, Nat.mul_one, Int.reduceToNat] at hq97
        refine Hb.back ?_
        refine Hb.take (i := 20) SC (fun _ _ S B => S.call B) Pp.body rfl (by kernel_rfl) (by kernel_rfl) (by kernel_rfl) rfl rfl ?_
        refine qcvi rfl rfl rfl rfl Tryd.underlying5 Tryd.underlying3 (fun _ => w64 (by omega)) ?_
        refine Hb.back ?_
        refine Hb.take (i := 21) SC (fun _ _ S B => S.call B) Pp.body rfl (by kernel_rfl) (by kernel_rfl) (by kernel_rfl) rfl rfl ?_
        refine qmv rfl rfl rfl rfl ?_
        refine Hb.back ?_
        refine Hb.take (i := 22) SC (fun _ _ S B => S.call B) Pp.body rfl (by kernel_rfl) (by kernel_rfl) (by kernel_rfl) rfl rfl ?_
        refine qixa rfl rfl hb.2 e26 rfl rfl rfl rfl (fun _ => by first | omega | (simp only [List.length_cons, List.length_nil]; omega)) ?_
        refine Hb.back ?_
        refine Hb.take (i := 23) SC (fun _ _ S B => S.call B) Pp.body rfl (by kernel_rfl) (by kernel_rfl) (by kernel_rfl) rfl rfl ?_
        refine qldB rfl hb (fun _ S => S) T5 rfl rfl rfl (fun _ => by omega) ?_
        intro q101 hq101 hbq101
        try simp only [Int.toNat_natCast, Nat.mul_one, Int.reduceToNat] at hq101
        refine Hb.back ?_
        refine Hb.take (i := 24) SC (fun _ _ S B => S.call B) Pp.body rfl (by kernel_rfl) (by kernel_rfl) (by kernel_rfl) rfl rfl ?_
        refine qcvi rfl rfl rfl rfl Tryd.underlying5 Tryd.underlying3 (fun _ => w64 (by omega)) ?_
        refine Hb.back ?_
        refine Hb.take (i := 25) SC (fun _ _ S B => S.call B) Pp.body rfl (by kernel_rfl) (by kernel_rfl) (by kernel_rfl) rfl rfl ?_
        refine qmv rfl rfl rfl rfl ?_
        refine Hb.back ?_
        refine Hb.take (i := 27) SC (fun _ _ S B => S.call B) Pp.body rfl (by kernel_rfl) (by kernel_rfl) (by kernel_rfl) rfl rfl ?_
        refine qmv rfl rfl rfl rfl ?_
        refine Hb.back ?_
        refine Hb.take (i := 29) SC (fun _ _ S B => S.call B) Pp.body rfl (by kernel_rfl) (by kernel_rfl) (by kernel_rfl) rfl rfl ?_
        refine qmv rfl rfl rfl rfl ?_
        refine Hb.back ?_
        refine Hb.take (i := 30) SC (fun _ _ S B => S.call B) Pp.body rfl (by kernel_rfl) (by kernel_rfl) (by kernel_rfl) rfl rfl ?_
        refine qmv rfl rfl rfl rfl ?_
        refine Hb.back ?_
        refine Hb.take (i := 31) SC (fun _ _ S B => S.call B) Pp.body rfl (by kernel_rfl) (by kernel_rfl) (by kernel_rfl) rfl rfl ?_
        refine qmv rfl rfl rfl rfl ?_
        refine Hb.back ?_
        refine Hb.take (i := 32) SC (fun _ _ S B => S.call B) Pp.body rfl (by kernel_rfl) (by kernel_rfl) (by kernel_rfl) rfl rfl ?_
        refine qmv rfl rfl rfl rfl ?_
        refine Hb.back ?_
        refine Hb.take (i := 33) SC (fun _ _ S B => S.call B) Pp.body rfl (by kernel_rfl) (by kernel_rfl) (by kernel_rfl) rfl rfl ?_
        have hv111 := hb.cut (lo := hdN b) (hi := totN b) (mx := capV v) (by have hcap := hb.cap; omega)
        refine qslC (lo := hdN b) (hi := totN b) (mx := capV v) rfl hb e26 rfl rfl rfl (i1 := some (hdN b)) (i2 := some (totN b)) (i3 := none) ⟨_, _, _, rfl, rfl⟩ ⟨_, _, _, rfl, rfl⟩ trivial rfl rfl rfl (fun h => by first | rfl | cases h) (fun hG => by (try simp [allT] at hG); have hcap := hb.cap; omega) ?_
        refine Hb.back ?_
        refine Hb.call (i := 5) SC (fun _ _ S B => S.call B) Pp.body rfl (by kernel_rfl) (by kernel_rfl) (by kernel_rfl) rfl (vs := [_, _]) rfl ⟨⟨_, _, rfl, rfl⟩, ⟨_, _, rfl, rfl⟩, trivial⟩ k111 rfl (fun hG w_ S => (by have := c111 _ _ 4 _ (hb.now S) (by omega) (by omega); rw [h45] at this; exact this)) ?_
        refine Hb.call (i := 26) SC (fun _ _ S B => S.call B) Pp.body rfl (by kernel_rfl) (by kernel_rfl) (by kernel_rfl) rfl (vs := [_, _]) rfl ⟨⟨_, _, rfl, rfl⟩, ⟨_, _, rfl, rfl⟩, trivial⟩ k113 rfl (fun hG w_ S => c113 _ _ 12 _ (hb.now S) (by omega) (by omega)) ?_
        refine Hb.call (i := 28) SC (fun _ _ S B => S.call B) Pp.body rfl (by kernel_rfl) (by kernel_rfl) (by kernel_rfl) rfl (vs := [_, _]) rfl ⟨⟨_, _, rfl, rfl⟩, ⟨_, _, rfl, rfl⟩, trivial⟩ k113 rfl (fun hG w_ S => c113 _ _ 16 _ (hb.now S) (by omega) (by omega)) ?_
        refine Hb.two (i := 34) (i' := 36) (by kernel_rfl) rfl rfl rfl rfl ?_ ?_
        ·
         intro w10 BD; have S := S.call BD
         have S0 := S
         have SS0 := (SS.tran hN1 S)
         refine call (vs := [_]) ⟨⟨_, _, rfl, rfl⟩, trivial⟩ k39 rfl (c39 _ _ _ (hv111.now S) (by rw [List.length_take, List.length_drop]; omega)) ?_
         rintro d12 w11 hFd12
         have S := S.call hFd12.1
         have hd12 := hFd12.bs hv111.1 S0.lt
         have hd12F := hFd12.bs hv111.1 SS0.ltR
         obtain ⟨N2, hN2, S_2⟩ := S.reb
         have hb := hb.st S; rw [hN2] at hb
         have ho8 := ho8.st S; rw [hN2] at ho8
         have ho8F := ho8F.reF S; rw [hN2] at ho8F
         rw [hN2] at hd12
         rw [hN2] at hd12F
         have SS := SS.tran hN1 S
         have SH := S
         have S := S_2
         have SC := (SH.tran hN2 S).pick [true, true, true] rfl
         refine Hb.on SC ?_
         refine Hb.take (i := 35) SC (fun _ _ S B => S.call B) Pp.body rfl (by kernel_rfl) (by kernel_rfl) (by kernel_rfl) rfl rfl ?_
         refine qbld B28 (qs := [(_, _), (_, _), (_, _), (_, _), (_, _), (_, _), (_, _), (_, _), (_, _), (_, _), (_, _)]) ⟨⟨_, _, _, rfl, rfl, rfl, rfl, by first | (simp [Value.cells]; done) | simp [Value.cells, encIP]⟩, ⟨_, _, _, rfl, rfl, rfl, rfl, by first | (simp [Value.cells]; done) | simp [Value.cells, encIP]⟩, ⟨_, _, _, rfl, rfl, rfl, rfl, by first | (simp [Value.cells]; done) | simp [Value.cells, encIP]⟩, ⟨_, _, _, rfl, rfl, rfl, rfl, by first | (simp [Value.cells]; done) | simp [Value.cells, encIP]⟩, ⟨_, _, _, rfl, rfl, rfl, rfl, by first | (simp [Value.cells]; done) | simp [Value.cells, encIP]⟩, ⟨_, _, _, rfl, rfl, rfl, rfl, by first | (simp [Value.cells]; done) | simp [Value.cells, encIP]⟩, ⟨_, _, _, rfl, rfl, rfl, rfl, by first | (simp [Value.cells]; done) | simp [Value.cells, encIP]⟩, ⟨_, _, _, rfl, rfl, rfl, rfl, by first | (simp [Value.cells]; done) | simp [Value.cells, encIP]⟩, ⟨_, _, _, rfl, rfl, rfl, rfl, by first | (simp [Value.cells]; done) | simp [Value.cells, encIP]⟩, ⟨_, _, _, rfl, rfl, cells1 ho8.one, rfl, List.cons_ne_nil _ _⟩, ⟨_, _, _, rfl, rfl, cells1 hd12.one, rfl, List.cons_ne_nil _ _⟩, trivial⟩ rfl rfl rfl ?_
         refine Hb.back ?_
         refine Hb.one (i := 36) (by kernel_rfl) rfl rfl ?_
         intro w12 BD; have S := S.call BD
         refine alc T28 S rfl ?_
         intro b11 w13 hb11 S B_
         have SC := (SH.tran hN2 S).pick [false, true, true, true] rfl
         refine Hb.on SC ?_
         refine Hb.one (i := 37) (by kernel_rfl) rfl rfl ?_
         intro w14 BD; have S := S.call BD
         refine stW rfl rfl T28 rfl rfl (one_cons rfl (one_cons rfl (one_cons rfl (one_cons rfl (one_cons rfl (one_cons rfl (one_cons rfl (one_cons rfl (one_cons rfl (one_cons rfl (one_cons rfl (one_cons rfl (one_cons rfl (one_cons rfl (one_cons rfl (one_cons rfl (one_cons rfl (one_cons rfl (one_cons rfl (one_cons rfl (one_cons rfl (one_cons rfl (one_cons rfl (one_cons rfl (one_cons rfl (one_cons rfl (one_cons rfl (one_cons rfl (one_cons rfl (one_cons rfl (one_cons rfl (one_cons rfl (one_cons rfl (one_cons rfl (one_cons rfl (one_cons rfl (one_cons rfl (one_cons rfl (one_cons rfl (one_cons rfl (one_cons rfl (one_cons ho8.one (one_cons hd12.one one_nil))))))))))))))))))))))))))))))))))))))))))) S (i := 0) rfl rfl ?_
         intro w15 S
         have SC := (SH.tran hN2 S).pick [false, true, true, true] rfl
         refine Hb.on SC ?_
         refine Hb.done (by kernel_rfl) ?_
         intro w16 BD; have S := S.call BD
         refine Nrm.code ?_
         refine Run.seq ?_
         refine Run.seq ?_
         refine Run.region ?_
         have hln : ((((b.drop (hdN b)).take (totN b - hdN b)).length : Nat) : Int) = (totN b : Int) - hdN b := by rw [List.length_take, List.length_drop]; omega
         refine fld (o' := 3) rfl fo28_3 rfl rfl rfl rfl ?_
         refine ld1 rfl T4 S (i := 0) rfl rfl rfl rfl rfl ?_
         refine fld (o' := 4) rfl fo28_4 rfl rfl rfl rfl ?_
         refine ld1 rfl T3 S (i := 0) rfl rfl rfl rfl rfl ?_
         refine fld (o' := 42) rfl fo28_10 rfl rfl rfl rfl ?_
         refine ld1 rfl T26 S (i := 0) rfl rfl rfl rfl rfl ?_
         refine lenS rfl hd12.2 Tryd.underlying26 rfl rfl rfl ?_
         refine calg (vs := [_, _, _]) rfl ⟨⟨_, _, rfl, rfl⟩, ⟨_, _, rfl, rfl⟩, ⟨_, _, rfl, rfl⟩, trivial⟩ k114 rfl (fun hG => c114 _ _ _ _ (by omega)) ?_
         intro w17 B_; have S := S.call B_
         refine Ro.nil ?_
         refine Nrm.code ?_
         refine Run.cond rfl (fun hc22 => ?_) (fun hc22 => ?_)
         ·
          try simp only [Bool.or_eq_true, Bool.and_eq_true, Bool.or_eq_false_iff, Bool.and_eq_false_iff, decide_eq_true_eq, decide_eq_false_iff_not, Bool.not_eq_true', Bool.not_eq_false', Bool.not_eq_true, Bool.not_eq_false] at hc22
          refine Run.seq ?_
          refine Run.region ?_
          refine ldW rfl T28 S (i := 2) rfl rfl rfl rfl rfl ?_
          refine stW rfl rfl T28 rfl rfl (by simp [Value.oneCell']) S (i := 3) rfl rfl ?_
          intro w18 S
          refine asg1 rfl rfl ?_
          refine Ro.nil ?_
          refine Nrm.code ?_
          refine Run.ret ?_
          refine Rt.cell2 rfl rfl rfl T28 S (i := 3) rfl rfl ?_
          have hfr := fragE_or (decide (b.getD 6 0 / 32 % 2 = 1)) (8 * offW b) ((totN b : Int) - hdN b)
          rw [hln] at hc22
          have he : parE b = 66 := by
           unfold parE
           rw [if_neg (by omega), if_neg (by omega), if_neg (by omega), if_neg (by omega), if_neg (by omega), if_neg (by omega), if_neg (by omega)]
           omega
          exact ⟨.slice none 0 0, .slice none 0 0, by rw [parH_err he (by omega), he]; rfl, (SS.tran hN2 S).bl, fun _ _ => by rw [parH_err he (by omega)]; exact ⟨OS.nil _ _, BS.nil _ _⟩⟩
         ·
          try simp only [Bool.or_eq_true, Bool.and_eq_true, Bool.or_eq_false_iff, Bool.and_eq_false_iff, decide_eq_true_eq, decide_eq_false_iff_not, Bool.not_eq_true', Bool.not_eq_false', Bool.not_eq_true, Bool.not_eq_false] at hc22
          refine Run.skip ?_
          refine Nrm.code ?_
          refine Run.seq ?_
          refine Run.region ?_
          refine ldW rfl T28 S (i := 0) rfl rfl rfl rfl rfl ?_
          refine stW rfl rfl T28 rfl rfl (one_cons rfl (one_cons rfl (one_cons rfl (one_cons rfl (one_cons rfl (one_cons rfl (one_cons rfl (one_cons rfl (one_cons rfl (one_cons rfl (one_cons rfl (one_cons rfl (one_cons rfl (one_cons rfl (one_cons rfl (one_cons rfl (one_cons rfl (one_cons rfl (one_cons rfl (one_cons rfl (one_cons rfl (one_cons rfl (one_cons rfl (one_cons rfl (one_cons rfl (one_cons rfl (one_cons rfl (one_cons rfl (one_cons rfl (one_cons rfl (one_cons rfl (one_cons rfl (one_cons rfl (one_cons rfl (one_cons rfl (one_cons rfl (one_cons rfl (one_cons rfl (one_cons rfl (one_cons rfl (one_cons rfl (one_cons ho8.one (one_cons hd12.one one_nil))))))))))))))))))))))))))))))))))))))))))) S (i := 3) rfl rfl ?_
          intro w18 S
          refine asg1 rfl rfl ?_
          refine Ro.nil ?_
          refine Nrm.code ?_
          refine Run.ret ?_
          refine Rt.cell2 rfl rfl rfl T28 S (i := 3) rfl rfl ?_
          rw [hln] at hc22
          have he : parE b = 0 := by
           unfold parE
           rw [if_neg (by omega), if_neg (by omega), if_neg (by omega), if_neg (by omega), if_neg (by omega), if_neg (by omega), if_neg (by omega)]
           omega
          exact ⟨o8, d12, by rw [parH, if_pos he, he, hq80, hq97, hq101]; rfl, (SS.tran hN2 S).bl, fun N hN => by rw [parH, if_pos he]; exact ⟨ho8F.fin S hN, hd12F.fin S hN⟩⟩
        ·
         intro w10 BD; have S := S.call BD
         refine alc T28 S rfl ?_
         intro b11 w11 hb11 S B_
         have SC := S.pick [false, true, true, true] rfl
         refine Hb.on SC ?_
         refine Hb.one (i := 34) (by kernel_rfl) rfl rfl ?_
         intro w12 BD; have S := S.call BD
         have S0 := S
         have SS0 := (SS.tran hN1 S)
         refine call (vs := [_]) ⟨⟨_, _, rfl, rfl⟩, trivial⟩ k39 rfl (c39 _ _ _ (hv111.now S) (by rw [List.length_take, List.length_drop]; omega)) ?_
         rintro d12 w13 hFd12
         have S := S.call hFd12.1
         have hd12 := hFd12.bs hv111.1 S0.lt
         have hd12F := hFd12.bs hv111.1 SS0.ltR
         obtain ⟨N3, hN3, S_3⟩ := S.reb
         have hb := hb.st S; rw [hN3] at hb
         have ho8 := ho8.st S; rw [hN3] at ho8
         have ho8F := ho8F.reF S; rw [hN3] at ho8F
         rw [hN3] at hd12
         rw [hN3] at hd12F
         have SS := SS.tran hN1 S
         have SH := S
         have S := S_3
         have SC := (SH.tran hN3 S).pick [false, true, true, true] rfl
         refine Hb.on SC ?_
         refine Hb.take (i := 35) SC (fun _ _ S B => S.call B) Pp.body rfl (by kernel_rfl) (by kernel_rfl) (by kernel_rfl) rfl rfl ?_
         refine qbld B28 (qs := [(_, _), (_, _), (_, _), (_, _), (_, _), (_, _), (_, _), (_, _), (_, _), (_, _), (_, _)]) ⟨⟨_, _, _, rfl, rfl, rfl, rfl, by first | (simp [Value.cells]; done) | simp [Value.cells, encIP]⟩, ⟨_, _, _, rfl, rfl, rfl, rfl, by first | (simp [Value.cells]; done) | simp [Value.cells, encIP]⟩, ⟨_, _, _, rfl, rfl, rfl, rfl, by first | (simp [Value.cells]; done) | simp [Value.cells, encIP]⟩, ⟨_, _, _, rfl, rfl, rfl, rfl, by first | (simp [Value.cells]; done) | simp [Value.cells, encIP]⟩, ⟨_, _, _, rfl, rfl, rfl, rfl, by first | (simp [Value.cells]; done) | simp [Value.cells, encIP]⟩, ⟨_, _, _, rfl, rfl, rfl, rfl, by first | (simp [Value.cells]; done) | simp [Value.cells, encIP]⟩, ⟨_, _, _, rfl, rfl, rfl, rfl, by first | (simp [Value.cells]; done) | simp [Value.cells, encIP]⟩, ⟨_, _, _, rfl, rfl, rfl, rfl, by first | (simp [Value.cells]; done) | simp [Value.cells, encIP]⟩, ⟨_, _, _, rfl, rfl, rfl, rfl, by first | (simp [Value.cells]; done) | simp [Value.cells, encIP]⟩, ⟨_, _, _, rfl, rfl, cells1 ho8.one, rfl, List.cons_ne_nil _ _⟩, ⟨_, _, _, rfl, rfl, cells1 hd12.one, rfl, List.cons_ne_nil _ _⟩, trivial⟩ rfl rfl rfl ?_
         refine Hb.back ?_
         refine Hb.one (i := 37) (by kernel_rfl) rfl rfl ?_
         intro w14 BD; have S := S.call BD
         refine stW rfl rfl T28 rfl rfl (one_cons rfl (one_cons rfl (one_cons rfl (one_cons rfl (one_cons rfl (one_cons rfl (one_cons rfl (one_cons rfl (one_cons rfl (one_cons rfl (one_cons rfl (one_cons rfl (one_cons rfl (one_cons rfl (one_cons rfl (one_cons rfl (one_cons rfl (one_cons rfl (one_cons rfl (one_cons rfl (one_cons rfl (one_cons rfl (one_cons rfl (one_cons rfl (one_cons rfl (one_cons rfl (one_cons rfl (one_cons rfl (one_cons rfl (one_cons rfl (one_cons rfl (one_cons rfl (one_cons rfl (one_cons rfl (one_cons rfl (one_cons rfl (one_cons rfl (one_cons rfl (one_cons rfl (one_cons rfl (one_cons rfl (one_cons ho8.one (one_cons hd12.one one_nil))))))))))))))))))))))))))))))))))))))))))) S (i := 0) rfl rfl ?_
         intro w15 S
         have SC := (SH.tran hN3 S).pick [false, true, true, true] rfl
         refine Hb.on SC ?_
         refine Hb.done (by kernel_rfl) ?_
         intro w16 BD; have S := S.call BD
         refine Nrm.code ?_
         refine Run.seq ?_
         refine Run.seq ?_
         refine Run.region ?_
         have hln : ((((b.drop (hdN b)).take (totN b - hdN b)).length : Nat) : Int) = (totN b : Int) - hdN b := by rw [List.length_take, List.length_drop]; omega
         refine fld (o' := 3) rfl fo28_3 rfl rfl rfl rfl ?_
         refine ld1 rfl T4 S (i := 0) rfl rfl rfl rfl rfl ?_
         refine fld (o' := 4) rfl fo28_4 rfl rfl rfl rfl ?_
         refine ld1 rfl T3 S (i := 0) rfl rfl rfl rfl rfl ?_
         refine fld (o' := 42) rfl fo28_10 rfl rfl rfl rfl ?_
         refine ld1 rfl T26 S (i := 0) rfl rfl rfl rfl rfl ?_
         refine lenS rfl hd12.2 Tryd.underlying26 rfl rfl rfl ?_
         refine calg (vs := [_, _, _]) rfl ⟨⟨_, _, rfl, rfl⟩, ⟨_, _, rfl, rfl⟩, ⟨_, _, rfl, rfl⟩, trivial⟩ k114 rfl (fun hG => c114 _ _ _ _ (by omega)) ?_
         intro w17 B_; have S := S.call B_
         refine Ro.nil ?_
         refine Nrm.code ?_
         refine Run.cond rfl (fun hc22 => ?_) (fun hc22 => ?_)
         ·
          try simp only [Bool.or_eq_true, Bool.and_eq_true, Bool.or_eq_false_iff, Bool.and_eq_false_iff, decide_eq_true_eq, decide_eq_false_iff_not, Bool.not_eq_true', Bool.not_eq_false', Bool.not_eq_true, Bool.not_eq_false] at hc22
          refine Run.seq ?_
          refine Run.region ?_
          refine ldW rfl T28 S (i := 2) rfl rfl rfl rfl rfl ?_
          refine stW rfl rfl T28 rfl rfl (by simp [Value.oneCell']) S (i := 3) rfl rfl ?_
          intro w18 S
          refine asg1 rfl rfl ?_
          refine Ro.nil ?_
          refine Nrm.code ?_
          refine Run.ret ?_
          refine Rt.cell2 rfl rfl rfl T28 S (i := 3) rfl rfl ?_
          have hfr := fragE_or (decide (b.getD 6 0 / 32 % 2 = 1)) (8 * offW b) ((totN b : Int) - hdN b)
          rw [hln] at hc22
          have he : parE b = 66 := by
           unfold parE
           rw [if_neg (by omega), if_neg (by omega), if_neg (by omega), if_neg (by omega), if_neg (by omega), if_neg (by omega), if_neg (by omega)]
           omega
          exact ⟨.slice none 0 0, .slice none 0 0, by rw [parH_err he (by omega), he]; rfl, (SS.tran hN3 S).bl, fun _ _ => by rw [parH_err he (by omega)]; exact ⟨OS.nil _ _, BS.nil _ _⟩⟩
         ·
          try simp only [Bool.or_eq_true, Bool.and_eq_true, Bool.or_eq_false_iff, Bool.and_eq_false_iff, decide_eq_true_eq, decide_eq_false_iff_not, Bool.not_eq_true', Bool.not_eq_false', Bool.not_eq_true, Bool.not_eq_false] at hc22
          refine Run.skip ?_
          refine Nrm.code ?_
          refine Run.seq ?_
          refine Run.region ?_
          refine ldW rfl T28 S (i := 0) rfl rfl rfl rfl rfl ?_
          refine stW rfl rfl T28 rfl rfl (one_cons rfl (one_cons rfl (one_cons rfl (one_cons rfl (one_cons rfl (one_cons rfl (one_cons rfl (one_cons rfl (one_cons rfl (one_cons rfl (one_cons rfl (one_cons rfl (one_cons rfl (one_cons rfl (one_cons rfl (one_cons rfl (one_cons rfl (one_cons rfl (one_cons rfl (one_cons rfl (one_cons rfl (one_cons rfl (one_cons rfl (one_cons rfl (one_cons rfl (one_cons rfl (one_cons rfl (one_cons rfl (one_cons rfl (one_cons rfl (one_cons rfl (one_cons rfl (one_cons rfl (one_cons rfl (one_cons rfl (one_cons rfl (one_cons rfl (one_cons rfl (one_cons rfl (one_cons rfl (one_cons rfl (one_cons ho8.one (one_cons hd12.one one_nil))))))))))))))))))))))))))))))))))))))))))) S (i := 3) rfl rfl ?_
          intro w18 S
          refine asg1 rfl rfl ?_
          refine Ro.nil ?_
          refine Nrm.code ?_
          refine Run.ret ?_
          refine Rt.cell2 rfl rfl rfl T28 S (i := 3) rfl rfl ?_
          rw [hln] at hc22
          have he : parE b = 0 := by
           unfold parE
           rw [if_neg (by omega), if_neg (by omega), if_neg (by omega), if_neg (by omega), if_neg (by omega), if_neg (by omega), if_neg (by omega)]
           omega
          exact ⟨o8, d12, by rw [parH, if_pos he, he, hq80, hq97, hq101]; rfl, (SS.tran hN3 S).bl, fun N hN => by rw [parH, if_pos he]; exact ⟨ho8F.fin S hN, hd12F.fin S hN⟩⟩
end Go.Proofs.YtkahmepenjhcpaaDoor.W
/- Contracts: the reference writes. No statement of the seat is proved here. -/
namespace Go.Proofs.YtkahmepenjhcpaaDoor.W
open Go
set_option linter.unusedSimpArgs false
set_option linter.unusedVariables false
theorem getN_src (h : Ip4) (o d : Value) : ∀ i, i < 16 → getN (encIp4 h o d) (8 + i) = some (u8 (h.src.a i))
  | 0, _ => rfl | 1, _ => rfl | 2, _ => rfl | 3, _ => rfl | 4, _ => rfl | 5, _ => rfl | 6, _ => rfl | 7, _ => rfl
  | 8, _ => rfl | 9, _ => rfl | 10, _ => rfl | 11, _ => rfl | 12, _ => rfl | 13, _ => rfl | 14, _ => rfl | 15, _ => rfl
  | n + 16, h => by omega
theorem getN_dst (h : Ip4) (o d : Value) : ∀ i, i < 16 → getN (encIp4 h o d) (25 + i) = some (u8 (h.dst.a i))
  | 0, _ => rfl | 1, _ => rfl | 2, _ => rfl | 3, _ => rfl | 4, _ => rfl | 5, _ => rfl | 6, _ => rfl | 7, _ => rfl
  | 8, _ => rfl | 9, _ => rfl | 10, _ => rfl | 11, _ => rfl | 12, _ => rfl | 13, _ => rfl | 14, _ => rfl | 15, _ => rfl
  | n + 16, h => by omega
theorem four4_take (x : IP) : ∀ i, i < 4 → (four4 x).take i ++ [x.a i] = (four4 x).take (i + 1)
  | 0, _ => rfl | 1, _ => rfl | 2, _ => rfl | 3, _ => rfl
  | n + 4, h => by omega
theorem sum_skip {a b : List Int} (ha : a.length % 2 = 0) : sumS (a ++ [0, 0] ++ b) = sumS (a ++ b) := by
  unfold sumS
  rw [wsum_app, wsum_app, wsum_app]
  have e : par true (a ++ [0, 0]).length = true := by unfold par; simp; omega
  have e2 : par true a.length = true := by unfold par; rw [if_pos ha]
  rw [e, e2]
  simp [wsum]
def refHD (h : Ip4) (g : Int) : List Int := [64 + (20 + ((putL h.opts).length : Int)) / 4, h.tos] ++ [(20 + ((putL h.opts).length : Int) + (h.data.length : Int)) / 256, (20 + ((putL h.opts).length : Int) + (h.data.length : Int)) % 256] ++ [h.id / 256, h.id % 256] ++ [g / 256, g % 256] ++ [h.ttl, h.proto]
theorem refHD_top {h : Ip4} {g : Int} (hc : chkE h = 0) (hg : g = h.off / 8 + (if h.df = true then 16384 else 0) + (if h.mf = true then 8192 else 0)) : refHD h g ++ [0, 0] = top10 h := by
  have hb := badF_off (chkE_zero hc).1
  have h1 : g / 256 = bI h.df * 64 + bI h.mf * 32 + h.off / 8 / 256 := by subst hg; unfold bI; (repeat' split) <;> omega
  have h2 : g % 256 = h.off / 8 % 256 := by subst hg; (repeat' split) <;> omega
  simp only [refHD, top10, hdr12, h1, h2, List.cons_append, List.nil_append]
  rfl
theorem refHD_byt {h : Ip4} {g : Int} (hc : chkE h = 0) (hg : g = h.off / 8 + (if h.df = true then 16384 else 0) + (if h.mf = true then 8192 else 0)) : byt (refHD h g) := by
  have h1 := top10_byt hc
  rw [← refHD_top hc hg] at h1
  exact fun x hx => h1 x (List.mem_append_left _ hx)
theorem ser_ref {h : Ip4} {g : Int} (hc : chkE h = 0) (hg : g = h.off / 8 + (if h.df = true then 16384 else 0) + (if h.mf = true then 8192 else 0)) :
    refHD h g ++ [(65535 - sumS (refHD h g ++ (four4 h.src ++ four4 h.dst ++ putL h.opts))) / 256, (65535 - sumS (refHD h g ++ (four4 h.src ++ four4 h.dst ++ putL h.opts))) % 256] ++ (four4 h.src ++ four4 h.dst ++ putL h.opts) ++ h.data = serL h := by
  have e1 := refHD_top hc hg
  have e2 : sumS (refHD h g ++ (four4 h.src ++ four4 h.dst ++ putL h.opts)) = sumS (headB h) := by
    rw [← sum_skip (by simp [refHD]), e1]
    simp [headB, List.append_assoc]
  rw [e2]
  unfold serL serB headB
  rw [if_pos hc, ← e1]
  simp [sumC, headB, ← e1, refHD, List.append_assoc]
set_option maxHeartbeats 1000000 in
theorem c115 (h : Ip4) (o d : Value) (w : World) (hO : OS [] w o h.opts) (hd : BS [] w d h.data) (hol : h.opts.length ≤ 1099511627776) (hdl : h.data.length ≤ 1099511627776) (hs : h.src.ok) (ht : h.dst.ok) :
  CallsV Tryd.prog 115 #[.agg (encIp4 h o d).toArray] w (fun r w' => ∃ u, r = .tuple #[u, .int .i64 (chkE h)] ∧ FB w w' u (serL h)) := by
 refine enter Tryd.func115 rfl Tryd.ntmps115 (l := [(0, [], _)]) rfl rfl ?_
 have S := St.refl [] w
 have hpl := putL_len h.opts
 have hodt := hO.byt
 refine Run.seq ?_
 refine Run.region ?_
 refine boxA rfl S rfl ?_
 intro b1 w1 hb1 S B_
 refine asg1 rfl rfl ?_
 refine asg1 rfl rfl ?_
 refine Ro.nil ?_
 refine Nrm.code ?_
 refine Run.seq ?_
 refine Run.region ?_
 refine ldW rfl T28 S (i := 0) rfl rfl rfl rfl rfl ?_
 refine calg (vs := [_]) rfl ⟨⟨_, _, rfl, rfl⟩, trivial⟩ k147 rfl (fun hG => c147 _ _ _ _ (hO.now S) (hd.now S) hol hdl) ?_
 intro w2 B_; have S := S.call B_
 refine asg1 rfl rfl ?_
 refine Ro.nil ?_
 refine Nrm.code ?_
 refine Run.seq ?_
 refine Run.seq ?_
 refine Run.region ?_
 refine mv1 rfl rfl ?_
 refine neq1 rfl rfl rfl ?_
 refine Ro.nil ?_
 refine Nrm.code ?_
 refine Run.cond rfl (fun hc2 => ?_) (fun hc2 => ?_)
 ·
  try simp only [Bool.or_eq_true, Bool.and_eq_true, Bool.or_eq_false_iff, Bool.and_eq_false_iff, decide_eq_true_eq, decide_eq_false_iff_not, Bool.not_eq_true', Bool.not_eq_false', Bool.not_eq_true, Bool.not_eq_false] at hc2
  refine Run.seq ?_
  refine Run.region ?_
  refine mv1 rfl rfl ?_
  refine asg1 rfl rfl ?_
  refine asg1 rfl rfl ?_
  refine Ro.nil ?_
  refine Nrm.code ?_
  refine Run.ret ?_
  refine Rt.two rfl rfl rfl ?_
  exact ⟨.slice none 0 0, rfl, by rw [show serL h = [] from by unfold serL; rw [if_neg hc2]]; exact (S.nilB).toFB (i := 0) rfl⟩
 ·
  try simp only [Bool.or_eq_true, Bool.and_eq_true, Bool.or_eq_false_iff, Bool.and_eq_false_iff, decide_eq_true_eq, decide_eq_false_iff_not, Bool.not_eq_true', Bool.not_eq_false', Bool.not_eq_true, Bool.not_eq_false] at hc2
  refine Run.skip ?_
  refine Nrm.code ?_
  refine Run.seq ?_
  refine Run.region ?_
  refine fld (o' := 41) rfl fo28_9 rfl rfl rfl rfl ?_
  refine ld1 rfl T25 S (i := 0) rfl rfl rfl rfl rfl ?_
  replace hc2 : chkE h = 0 := by omega
  have hz := chkE_zero hc2
  have hbo := badF_off hz.1
  refine call (vs := [_]) ⟨⟨_, _, rfl, rfl⟩, trivial⟩ k136 rfl (c136 _ _ _ (hO.now S) (by omega)) ?_
  rintro _ w3 ⟨u5, rfl, hF⟩
  have S := S.fb hF
  refine mv1 rfl rfl ?_
  refine extr1 rfl rfl rfl ?_
  refine extr1 rfl rfl rfl ?_
  refine asg1 rfl rfl ?_
  refine asg1 rfl rfl ?_
  refine Ro.nil ?_
  refine Nrm.code ?_
  refine Run.seq ?_
  refine Run.region ?_
  refine mv1 rfl rfl ?_
  refine lenS rfl (S.slI (i := 0) rfl) Tryd.underlying26 rfl rfl rfl ?_
  refine add1 rfl rfl rfl (w64 (by omega)) ?_
  refine asg1 rfl rfl ?_
  refine Ro.nil ?_
  refine Nrm.code ?_
  refine Run.seq ?_
  refine Run.region ?_
  refine fld (o' := 4) rfl fo28_4 rfl rfl rfl rfl ?_
  refine ld1 rfl T3 S (i := 1) rfl rfl rfl rfl rfl ?_
  refine quo1 rfl rfl rfl (by decide) (q64 (by omega)) ?_
  refine asg1 rfl rfl ?_
  refine Ro.nil ?_
  refine Nrm.code ?_
  refine Run.cut (γ := Int) (fun g w_ => g = h.off / 8 + (if h.df = true then 16384 else 0) ∧ St [] w [oB u5 (putL h.opts), .var b1 28 (encIp4 h o d)] w_) (fun g => [(1, [], .pointer (some ⟨b1, 0, none⟩)), (5, [], u5), (7, [], .int .i64 (20 + ((putL h.opts).length : Int))), (8, [], .int .i64 g)]) ?_ ?_
  ·
   refine Run.seq ?_
   refine Run.region ?_
   refine fld (o' := 2) rfl fo28_2 rfl rfl rfl rfl ?_
   refine ld1 rfl T4 S (i := 1) rfl rfl rfl rfl rfl ?_
   refine Ro.nil ?_
   refine Nrm.code ?_
   refine Run.cond rfl (fun hc7 => ?_) (fun hc7 => ?_)
   ·
    try simp only [Bool.or_eq_true, Bool.and_eq_true, Bool.or_eq_false_iff, Bool.and_eq_false_iff, decide_eq_true_eq, decide_eq_false_iff_not, Bool.not_eq_true', Bool.not_eq_false', Bool.not_eq_true, Bool.not_eq_false] at hc7
    refine Run.region ?_
    refine mv1 rfl rfl ?_
    refine add1 rfl rfl rfl (w64 (by omega)) ?_
    refine asg1 rfl rfl ?_
    refine Ro.nil ?_
    exact Nrm.cut _ ⟨by simp [hc7], S⟩ ⟨rfl, rfl, rfl, rfl, trivial⟩
   ·
    try simp only [Bool.or_eq_true, Bool.and_eq_true, Bool.or_eq_false_iff, Bool.and_eq_false_iff, decide_eq_true_eq, decide_eq_false_iff_not, Bool.not_eq_true', Bool.not_eq_false', Bool.not_eq_true, Bool.not_eq_false] at hc7
    refine Run.skip ?_
    exact Nrm.cut _ ⟨by simp [hc7], S⟩ ⟨rfl, rfl, rfl, rfl, trivial⟩
  ·
   rintro g9 w4 ⟨hg9, S⟩
   refine Run.cut (γ := Int) (fun g w_ => g = h.off / 8 + (if h.df = true then 16384 else 0) + (if h.mf = true then 8192 else 0) ∧ St [] w [oB u5 (putL h.opts), .var b1 28 (encIp4 h o d)] w_) (fun g => [(1, [], .pointer (some ⟨b1, 0, none⟩)), (5, [], u5), (7, [], .int .i64 (20 + ((putL h.opts).length : Int))), (8, [], .int .i64 g)]) ?_ ?_
   ·
    refine Run.seq ?_
    refine Run.region ?_
    refine fld (o' := 3) rfl fo28_3 rfl rfl rfl rfl ?_
    refine ld1 rfl T4 S (i := 1) rfl rfl rfl rfl rfl ?_
    refine Ro.nil ?_
    refine Nrm.code ?_
    refine Run.cond rfl (fun hc9 => ?_) (fun hc9 => ?_)
    ·
     try simp only [Bool.or_eq_true, Bool.and_eq_true, Bool.or_eq_false_iff, Bool.and_eq_false_iff, decide_eq_true_eq, decide_eq_false_iff_not, Bool.not_eq_true', Bool.not_eq_false', Bool.not_eq_true, Bool.not_eq_false] at hc9
     refine Run.region ?_
     refine mv1 rfl rfl ?_
     refine add1 rfl rfl rfl (w64 (by omega)) ?_
     refine asg1 rfl rfl ?_
     refine Ro.nil ?_
     exact Nrm.cut _ ⟨by simp [hc9, hg9], S⟩ ⟨rfl, rfl, rfl, rfl, trivial⟩
    ·
     try simp only [Bool.or_eq_true, Bool.and_eq_true, Bool.or_eq_false_iff, Bool.and_eq_false_iff, decide_eq_true_eq, decide_eq_false_iff_not, Bool.not_eq_true', Bool.not_eq_false', Bool.not_eq_true, Bool.not_eq_false] at hc9
     refine Run.skip ?_
     exact Nrm.cut _ ⟨by simp [hc9, hg9], S⟩ ⟨rfl, rfl, rfl, rfl, trivial⟩
   ·
    rintro g11 w5 ⟨hg11, S⟩
    refine Run.seq ?_
    refine Run.region ?_
    refine mv1 rfl rfl ?_
    refine quo1 rfl rfl rfl (by decide) (q64 (by omega)) ?_
    refine add1 rfl rfl rfl (w64 (by omega)) ?_
    refine cvi1 rfl rfl Tryd.underlying3 Tryd.underlying5 (w8of rfl (by omega)) ?_
    refine fld (o' := 0) rfl fo28_0 rfl rfl rfl rfl ?_
    refine ld1 rfl T3 S (i := 1) rfl rfl rfl rfl rfl ?_
    refine cvi1 rfl rfl Tryd.underlying3 Tryd.underlying5 (w8of rfl (by omega)) ?_
    refine bsl e26 (qs := [(_, _), (_, _)]) ⟨⟨_, _, _, rfl, rfl, rfl, rfl, by first | (simp [Value.cells]; done) | simp [Value.cells, encIP]⟩, ⟨_, _, _, rfl, rfl, rfl, rfl, by first | (simp [Value.cells]; done) | simp [Value.cells, encIP]⟩, trivial⟩ rfl rfl rfl rfl S ?_
    intro u46 w6 S B_
    have S : St [] w (oB u46 [64 + (20 + ((putL h.opts).length : Int)) / 4, h.tos] :: _) w6 := S
    refine asg1 rfl rfl ?_
    refine Ro.nil ?_
    refine Nrm.code ?_
    refine Run.seq ?_
    refine Run.region ?_
    refine mv1 rfl rfl ?_
    refine mv1 rfl rfl ?_
    refine fld (o' := 42) rfl fo28_10 rfl rfl rfl rfl ?_
    refine ld1 rfl T26 S (i := 2) rfl rfl rfl rfl rfl ?_
    refine lenS rfl hd.2 Tryd.underlying26 rfl rfl rfl ?_
    refine add1 rfl rfl rfl (w64 (by omega)) ?_
    refine call (vs := [_, _]) ⟨⟨_, _, rfl, rfl⟩, ⟨_, _, rfl, rfl⟩, trivial⟩ k151 rfl (c151 _ _ _ _ (S.hold_at (i := 0) rfl) (by omega) (by first | omega | (simp only [List.length_append, List.length_cons, List.length_nil]; omega))) ?_
    rintro a12 w7 hT
    have S := S.tn (i := 0) rfl rfl hT
    refine asg1 rfl rfl ?_
    refine Ro.nil ?_
    refine Nrm.code ?_
    refine Run.seq ?_
    refine Run.region ?_
    refine mv1 rfl rfl ?_
    refine fld (o' := 1) rfl fo28_1 rfl rfl rfl rfl ?_
    refine ld1 rfl T3 S (i := 2) rfl rfl rfl rfl rfl ?_
    refine call (vs := [_, _]) ⟨⟨_, _, rfl, rfl⟩, ⟨_, _, rfl, rfl⟩, trivial⟩ k151 rfl (c151 _ _ _ _ (S.hold_at (i := 0) rfl) (by omega) (by first | omega | (simp only [List.length_append, List.length_cons, List.length_nil]; omega))) ?_
    rintro a13 w8 hT
    have S := S.tn (i := 0) rfl rfl hT
    refine asg1 rfl rfl ?_
    refine Ro.nil ?_
    refine Nrm.code ?_
    refine Run.seq ?_
    refine Run.region ?_
    refine mv1 rfl rfl ?_
    refine mv1 rfl rfl ?_
    refine call (vs := [_, _]) ⟨⟨_, _, rfl, rfl⟩, ⟨_, _, rfl, rfl⟩, trivial⟩ k151 rfl (c151 _ _ _ _ (S.hold_at (i := 0) rfl) (by (repeat' split at hg11) <;> omega) (by first | omega | (simp only [List.length_append, List.length_cons, List.length_nil]; omega))) ?_
    rintro a14 w9 hT
    have S := S.tn (i := 0) rfl rfl hT
    refine asg1 rfl rfl ?_
    refine Ro.nil ?_
    refine Nrm.code ?_
    refine Run.seq ?_
    refine Run.region ?_
    refine mv1 rfl rfl ?_
    refine fld (o' := 5) rfl fo28_5 rfl rfl rfl rfl ?_
    refine ld1 rfl T3 S (i := 2) rfl rfl rfl rfl rfl ?_
    refine cvi1 rfl rfl Tryd.underlying3 Tryd.underlying5 (w8of rfl (by omega)) ?_
    refine fld (o' := 6) rfl fo28_6 rfl rfl rfl rfl ?_
    refine ld1 rfl T3 S (i := 2) rfl rfl rfl rfl rfl ?_
    refine cvi1 rfl rfl Tryd.underlying3 Tryd.underlying5 (w8of rfl (by omega)) ?_
    refine apBF (b := [_, _]) rfl e26 (qs := [(_, _), (_, _)]) ⟨⟨_, _, _, rfl, rfl, rfl, rfl, by first | (simp [Value.cells]; done) | simp [Value.cells, encIP]⟩, ⟨_, _, _, rfl, rfl, rfl, rfl, by first | (simp [Value.cells]; done) | simp [Value.cells, encIP]⟩, trivial⟩ (by decide) rfl rfl S (i := 0) rfl rfl rfl (fun t e => by cases e; rfl) (fun _ => rfl) (by first | omega | (simp only [List.length_nil, List.length_append, List.length_cons]; omega)) ?_
    intro u_ a15 w10 S B_
    obtain ⟨HD, hHD, S⟩ : ∃ HD, HD = refHD h g11 ∧ St [] w (oB a15 HD :: [oB u5 (putL h.opts), .var b1 28 (encIp4 h o d)]) w10 := ⟨_, rfl, S⟩
    have hHl : HD.length = 10 := by rw [hHD]; rfl
    have hHb : byt HD := by rw [hHD]; exact refHD_byt hc2 hg11
    refine asg1 rfl rfl ?_
    refine Ro.nil ?_
    refine Nrm.code ?_
    refine Run.seq ?_
    refine Run.region ?_
    refine asg1 rfl rfl ?_
    have S := S.nilB
    refine Ro.nil ?_
    refine Nrm.code ?_
    refine Run.seq ?_
    refine Run.seq ?_
    refine Run.region ?_
    refine asg1 rfl rfl ?_
    refine Ro.nil ?_
    refine Nrm.code ?_
    refine Run.block ?_
    refine Run.loop2 (fun (i : Nat) (u : Value) w_ => i ≤ 4 ∧ St [] w [oB u ((four4 h.src).take i), oB a15 HD, oB u5 (putL h.opts), .var b1 28 (encIp4 h o d)] w_) (fun (i : Nat) (u : Value) => [(1, [], .pointer (some ⟨b1, 0, none⟩)), (5, [], u5), (9, [], a15), (10, [], u), (11, [], .int .i64 i)]) (fun (i : Nat) (u : Value) => 4 - i) (0) (_) ⟨Nat.zero_le _, by simpa using S⟩ ⟨rfl, rfl, rfl, rfl, rfl, trivial⟩ ?_
    rintro i u w11 ⟨hi, S⟩
    refine Run.seq ?_
    refine Run.seq ?_
    refine Run.region ?_
    refine mv1 rfl rfl ?_
    refine lss1 rfl rfl rfl ?_
    refine Ro.nil ?_
    refine Nrm.code ?_
    refine Run.cond rfl (fun hc18 => ?_) (fun hc18 => ?_)
    ·
     try simp only [Bool.or_eq_true, Bool.and_eq_true, Bool.or_eq_false_iff, Bool.and_eq_false_iff, decide_eq_true_eq, decide_eq_false_iff_not, Bool.not_eq_true', Bool.not_eq_false', Bool.not_eq_true, Bool.not_eq_false] at hc18
     refine Run.skip ?_
     refine Nrm.code ?_
     refine Run.seq ?_
     refine Run.block ?_
     refine Run.region ?_
     refine mv1 rfl rfl ?_
     refine mv1 rfl rfl ?_
     refine fld (o' := 7) rfl fo28_7 rfl rfl rfl rfl ?_
     refine fld (o' := 8) rfl fo24_1 rfl rfl rfl rfl ?_
     refine ixP rfl rfl Tryd.underlying22 T5 rfl rfl rfl rfl (fun _ => by omega) rfl ?_
     refine ld1 rfl T5 S (i := 3) rfl (v := u8 (h.src.a i)) (by rw [show 8 + (i : Int).toNat * 1 = 8 + i from by omega]; exact getN_src h o d i (by omega)) rfl rfl rfl ?_
     refine apBF (b := [_]) rfl e26 (qs := [(_, _)]) ⟨⟨_, _, _, rfl, rfl, rfl, rfl, by first | (simp [Value.cells]; done) | simp [Value.cells, encIP]⟩, trivial⟩ (by decide) rfl rfl S (i := 0) rfl rfl rfl (fun t e => by cases e; rfl) (fun _ => rfl) (by simp [four4]; omega) ?_
     intro u_ v81 w12 S B_
     refine asg1 rfl rfl ?_
     refine Ro.nil ?_
     refine Nrm.blk ?_
     refine Nrm.code ?_
     refine Run.region ?_
     refine mv1 rfl rfl ?_
     refine add1 rfl rfl rfl (w64 (by omega)) ?_
     refine asg1 rfl rfl ?_
     refine Ro.nil ?_
     refine Nrm.loop2 (i + 1) (_) ⟨by omega, by have S2 := S; rw [four4_take h.src i (by omega)] at S2; exact S2⟩ (by omega) ⟨rfl, rfl, rfl, rfl, rfl, trivial⟩
    ·
     try simp only [Bool.or_eq_true, Bool.and_eq_true, Bool.or_eq_false_iff, Bool.and_eq_false_iff, decide_eq_true_eq, decide_eq_false_iff_not, Bool.not_eq_true', Bool.not_eq_false', Bool.not_eq_true, Bool.not_eq_false] at hc18
     refine Run.exit ?_
     refine Lv.code ?_
     refine Lv.back ?_
     refine Lv.hit ?_
     refine Nrm.code ?_
     refine Run.seq ?_
     refine Run.seq ?_
     refine Run.region ?_
     refine asg1 rfl rfl ?_
     refine Ro.nil ?_
     refine Nrm.code ?_
     refine Run.block ?_
     have hi4 : i = 4 := by omega
     subst hi4
     rw [show (four4 h.src).take 4 = four4 h.src from rfl] at S
     refine Run.loop2 (fun (i : Nat) (u : Value) w_ => i ≤ 4 ∧ St [] w [oB u (four4 h.src ++ (four4 h.dst).take i), oB a15 HD, oB u5 (putL h.opts), .var b1 28 (encIp4 h o d)] w_) (fun (i : Nat) (u : Value) => [(1, [], .pointer (some ⟨b1, 0, none⟩)), (5, [], u5), (9, [], a15), (10, [], u), (12, [], .int .i64 i)]) (fun (i : Nat) (u : Value) => 4 - i) (0) (_) ⟨Nat.zero_le _, by simpa using S⟩ ⟨rfl, rfl, rfl, rfl, rfl, trivial⟩ ?_
     rintro i u w12 ⟨hi, S⟩
     refine Run.seq ?_
     refine Run.seq ?_
     refine Run.region ?_
     refine mv1 rfl rfl ?_
     refine lss1 rfl rfl rfl ?_
     refine Ro.nil ?_
     refine Nrm.code ?_
     refine Run.cond rfl (fun hc22 => ?_) (fun hc22 => ?_)
     ·
      try simp only [Bool.or_eq_true, Bool.and_eq_true, Bool.or_eq_false_iff, Bool.and_eq_false_iff, decide_eq_true_eq, decide_eq_false_iff_not, Bool.not_eq_true', Bool.not_eq_false', Bool.not_eq_true, Bool.not_eq_false] at hc22
      refine Run.skip ?_
      refine Nrm.code ?_
      refine Run.seq ?_
      refine Run.block ?_
      refine Run.region ?_
      refine mv1 rfl rfl ?_
      refine mv1 rfl rfl ?_
      refine fld (o' := 24) rfl fo28_8 rfl rfl rfl rfl ?_
      refine fld (o' := 25) rfl fo24_1 rfl rfl rfl rfl ?_
      refine ixP rfl rfl Tryd.underlying22 T5 rfl rfl rfl rfl (fun _ => by omega) rfl ?_
      refine ld1 rfl T5 S (i := 3) rfl (v := u8 (h.dst.a i)) (by rw [show 25 + (i : Int).toNat * 1 = 25 + i from by omega]; exact getN_dst h o d i (by omega)) rfl rfl rfl ?_
      refine apBF (b := [_]) rfl e26 (qs := [(_, _)]) ⟨⟨_, _, _, rfl, rfl, rfl, rfl, by first | (simp [Value.cells]; done) | simp [Value.cells, encIP]⟩, trivial⟩ (by decide) rfl rfl S (i := 0) rfl rfl rfl (fun t e => by cases e; rfl) (fun _ => rfl) (by simp [four4]; omega) ?_
      intro u_ v93 w13 S B_
      refine asg1 rfl rfl ?_
      refine Ro.nil ?_
      refine Nrm.blk ?_
      refine Nrm.code ?_
      refine Run.region ?_
      refine mv1 rfl rfl ?_
      refine add1 rfl rfl rfl (w64 (by omega)) ?_
      refine asg1 rfl rfl ?_
      refine Ro.nil ?_
      refine Nrm.loop2 (i + 1) (_) ⟨by omega, by have S2 := S; rw [List.append_assoc, four4_take h.dst i (by omega)] at S2; exact S2⟩ (by omega) ⟨rfl, rfl, rfl, rfl, rfl, trivial⟩
     ·
      try simp only [Bool.or_eq_true, Bool.and_eq_true, Bool.or_eq_false_iff, Bool.and_eq_false_iff, decide_eq_true_eq, decide_eq_false_iff_not, Bool.not_eq_true', Bool.not_eq_false', Bool.not_eq_true, Bool.not_eq_false] at hc22
      refine Run.exit ?_
      refine Lv.code ?_
      refine Lv.back ?_
      refine Lv.hit ?_
      refine Nrm.code ?_
      refine Run.seq ?_
      refine Run.region ?_
      refine mv1 rfl rfl ?_
      refine mv1 rfl rfl ?_
      have hi4' : i = 4 := by omega
      subst hi4'
      have hTb : byt (four4 h.src ++ four4 h.dst ++ putL h.opts) := byt_app (byt_app (four4_byt hs) (four4_byt ht)) (putL_byt hodt)
      refine apB rfl rfl e26 (S.bsI (i := 2) rfl (putL_byt hodt)) S (i := 0) rfl rfl (fun _ => rfl) (by simp [four4]; omega) ?_
      intro t25 w13 S B_
      refine asg1 rfl rfl ?_
      refine Ro.nil ?_
      refine Nrm.code ?_
      refine Run.seq ?_
      refine Run.region ?_
      refine mv1 rfl rfl ?_
      refine mv1 rfl rfl ?_
      refine bsl e102 (qs := [(_, _), (_, _)]) ⟨⟨_, _, _, rfl, rfl, cells1 (S.slI (i := 1) rfl).one, rfl, List.cons_ne_nil _ _⟩, ⟨_, _, _, rfl, rfl, cells1 (S.slI (i := 0) rfl).one, rfl, List.cons_ne_nil _ _⟩, trivial⟩ rfl rfl rfl rfl S ?_
      intro u99 w14 S B_
      have hck : CallsD Tryd.prog 117 #[u99] w14 (.int .i64 (65535 - sumS (HD ++ (four4 h.src ++ four4 h.dst ++ putL h.opts)))) := by
       have := c117 u99 [HD, four4 h.src ++ four4 h.dst ++ putL h.opts] w14 ⟨[_, _], S.slI (i := 0) rfl, S.bsI (i := 2) rfl hHb, S.bsI (i := 1) rfl hTb, trivial⟩ (by simp [four4]; omega) (by simp)
       rw [show [HD, four4 h.src ++ four4 h.dst ++ putL h.opts].flatten = HD ++ (four4 h.src ++ four4 h.dst ++ putL h.opts) from by simp] at this
       exact this
      refine calg (vs := [_]) rfl ⟨⟨_, _, rfl, rfl⟩, trivial⟩ k117 rfl (fun hG => hck) ?_
      intro w15 B_; have S := S.call B_
      refine asg1 rfl rfl ?_
      refine Ro.nil ?_
      refine Nrm.code ?_
      refine Run.seq ?_
      refine Run.region ?_
      refine mv1 rfl rfl ?_
      refine mv1 rfl rfl ?_
      refine call (vs := [_, _]) ⟨⟨_, _, rfl, rfl⟩, ⟨_, _, rfl, rfl⟩, trivial⟩ k151 rfl (c151 _ _ _ _ (S.hold_at (i := 2) rfl) (by have hwS := wsum_bd (HD ++ (four4 h.src ++ four4 h.dst ++ putL h.opts)) true (byt_app hHb hTb); have hfS := foldS_bd hwS.1; unfold sumS; omega) (by first | omega | (simp only [List.length_append, List.length_cons, List.length_nil]; omega))) ?_
      rintro a27 w16 hT
      have S := S.tn (i := 2) rfl rfl hT
      refine asg1 rfl rfl ?_
      refine Ro.nil ?_
      refine Nrm.code ?_
      refine Run.seq ?_
      refine Run.region ?_
      refine mv1 rfl rfl ?_
      refine mv1 rfl rfl ?_
      refine apB rfl rfl e26 (S.bsI (i := 1) rfl hTb) S (i := 2) rfl rfl (fun _ => rfl) (by simp [four4]; omega) ?_
      intro a28 w17 S B_
      refine asg1 rfl rfl ?_
      refine Ro.nil ?_
      refine Nrm.code ?_
      refine Run.seq ?_
      refine Run.region ?_
      refine mv1 rfl rfl ?_
      refine fld (o' := 42) rfl fo28_10 rfl rfl rfl rfl ?_
      refine ld1 rfl T26 S (i := 4) rfl rfl rfl rfl rfl ?_
      refine apB rfl rfl e26 (hd.now S) S (i := 2) rfl rfl (fun _ => rfl) (by simp [four4]; omega) ?_
      intro a29 w18 S B_
      refine asg1 rfl rfl ?_
      refine asg1 rfl rfl ?_
      refine Ro.nil ?_
      refine Nrm.code ?_
      refine Run.ret ?_
      refine Rt.two rfl rfl rfl ?_
      have hfin := ser_ref hc2 hg11
      rw [← hHD] at hfin
      rw [show (four4 h.dst).take 4 = four4 h.dst from rfl] at S
      exact ⟨_, by rw [hc2], by rw [← hfin]; exact S.toFB (i := 2) rfl⟩
end Go.Proofs.YtkahmepenjhcpaaDoor.W
/- Contracts: the reference: canonical bytes, hops. No statement of the seat is proved here. -/
namespace Go.Proofs.YtkahmepenjhcpaaDoor.W
open Go
set_option linter.unusedSimpArgs false
set_option linter.unusedVariables false
theorem par_facts {b : List Int} (h : parE b = 0) : 20 ≤ b.length ∧ b.length ≤ 65535 ∧ b.getD 0 0 / 16 = 4 ∧ 20 ≤ hdN b ∧ hdN b ≤ b.length ∧ hdN b ≤ totN b ∧ totN b ≤ b.length ∧ sumS (b.take (hdN b)) = 65535 ∧ optE (optB4 b) = 0 ∧ fragE (decide (b.getD 6 0 / 32 % 2 = 1)) (8 * offW b) ((totN b : Int) - hdN b) = 0 := by
  have ho := optE_le (optB4 b)
  unfold parE at h
  by_cases h1 : 65535 < b.length
  · rw [if_pos h1] at h; omega
  rw [if_neg h1] at h
  by_cases h2 : b.length < 20
  · rw [if_pos h2] at h; omega
  rw [if_neg h2] at h
  by_cases h3 : b.getD 0 0 / 16 ≠ 4
  · rw [if_pos h3] at h; omega
  rw [if_neg h3] at h
  by_cases h4 : hdN b < 20 ∨ b.length < hdN b
  · rw [if_pos h4] at h; omega
  rw [if_neg h4] at h
  by_cases h5 : totN b < hdN b ∨ b.length < totN b
  · rw [if_pos h5] at h; omega
  rw [if_neg h5] at h
  by_cases h6 : sumS (b.take (hdN b)) ≠ 65535
  · rw [if_pos h6] at h; omega
  rw [if_neg h6] at h
  by_cases h7 : optE (optB4 b) ≠ 0
  · rw [if_pos h7] at h; omega
  rw [if_neg h7] at h
  refine ⟨by omega, by omega, by omega, by omega, by omega, by omega, by omega, by omega, by omega, ?_⟩
  omega
def hopM (b : List Int) : List Int := b.set 8 (b.getD 8 0 - 1)
def hopC (b : List Int) : Int := 65535 - sumS ((hopM b).take 10 ++ ((hopM b).drop 12).take (hdN b - 12))
def hopW (b : List Int) : List Int := ((hopM b).set 10 (hopC b / 256)).set 11 (hopC b % 256)
def hopE (b : List Int) : Int := if parE b ≠ 0 then parE b else if b.getD 8 0 < 2 then 67 else 0
def hopB (b : List Int) : List Int := if hopE b = 0 then hopW b else b
theorem hopM_byt {b : List Int} (h : byt b) (h2 : 2 ≤ b.getD 8 0) : byt (hopM b) := byt_set h _ (by have := byt_getD h 8; omega)
theorem hopC_bd {b : List Int} (h : byt (hopM b)) : 0 ≤ hopC b ∧ hopC b ≤ 65535 := by
  have hw := wsum_bd ((hopM b).take 10 ++ ((hopM b).drop 12).take (hdN b - 12)) true (byt_app (byt_take h _) (byt_take (byt_drop h _) _))
  have hf := foldS_bd hw.1
  unfold hopC sumS; omega
theorem parH_ttl {b : List Int} (h : parE b = 0) : (parH b).ttl = b.getD 8 0 := by unfold parH; rw [if_pos h]; rfl
set_option maxHeartbeats 1000000 in
theorem c43 (v : Value) (b : List Int) (w : World) (hb : BS [] w v b) :
  CallsD Tryd.prog 43 #[v] w (.bool (canB b)) := by
 refine enter Tryd.func43 rfl Tryd.ntmps43 (l := [(0, [], _)]) rfl rfl ?_
 have S := St.refl [] w
 have hpk := parH_ok hb.1
 refine Run.seq ?_
 refine Run.region ?_
 refine asg1 rfl rfl ?_
 refine Ro.nil ?_
 refine Nrm.code ?_
 refine Run.seq ?_
 refine Run.region ?_
 refine mv1 rfl rfl ?_
 have S0 := S
 refine call (vs := [_]) ⟨⟨_, _, rfl, rfl⟩, trivial⟩ k42 rfl (c42 _ _ _ (hb.now S)) ?_
 rintro _ w1 ⟨o3, d3, rfl, hFH⟩
 have S := S.call hFH.1
 have ho3 := (hFH.2 _ S0.lt).1
 have hd3 := (hFH.2 _ S0.lt).2
 obtain ⟨N1, hN1, S_1⟩ := S.reb
 have hb := hb.st S; rw [hN1] at hb
 rw [hN1] at ho3
 rw [hN1] at hd3
 have SS := S
 have S := S_1
 refine mv1 rfl rfl ?_
 refine extr1 rfl rfl rfl ?_
 refine extr1 rfl rfl rfl ?_
 refine alc T28 S rfl ?_
 intro b3 w2 hb3 S B_
 refine stW rfl rfl T28 rfl rfl (one_cons rfl (one_cons rfl (one_cons rfl (one_cons rfl (one_cons rfl (one_cons rfl (one_cons rfl (one_cons rfl (one_cons rfl (one_cons rfl (one_cons rfl (one_cons rfl (one_cons rfl (one_cons rfl (one_cons rfl (one_cons rfl (one_cons rfl (one_cons rfl (one_cons rfl (one_cons rfl (one_cons rfl (one_cons rfl (one_cons rfl (one_cons rfl (one_cons rfl (one_cons rfl (one_cons rfl (one_cons rfl (one_cons rfl (one_cons rfl (one_cons rfl (one_cons rfl (one_cons rfl (one_cons rfl (one_cons rfl (one_cons rfl (one_cons rfl (one_cons rfl (one_cons rfl (one_cons rfl (one_cons rfl (one_cons ho3.one (one_cons hd3.one one_nil))))))))))))))))))))))))))))))))))))))))))) S (i := 0) rfl rfl ?_
 intro w3 S
 refine asg1 rfl rfl ?_
 refine Ro.nil ?_
 refine Nrm.code ?_
 refine Run.seq ?_
 refine Run.seq ?_
 refine Run.region ?_
 refine mv1 rfl rfl ?_
 refine neq1 rfl rfl rfl ?_
 refine Ro.nil ?_
 refine Nrm.code ?_
 refine Run.cond rfl (fun hc2 => ?_) (fun hc2 => ?_)
 ·
  try simp only [Bool.or_eq_true, Bool.and_eq_true, Bool.or_eq_false_iff, Bool.and_eq_false_iff, decide_eq_true_eq, decide_eq_false_iff_not, Bool.not_eq_true', Bool.not_eq_false', Bool.not_eq_true, Bool.not_eq_false] at hc2
  refine Run.seq ?_
  refine Run.region ?_
  refine asg1 rfl rfl ?_
  refine Ro.nil ?_
  refine Nrm.code ?_
  refine Run.ret ?_
  refine Rt.one rfl rfl ?_
  exact ⟨by rw [canB, decide_eq_false hc2]; rfl, (SS.tran hN1 S).bl⟩
 ·
  try simp only [Bool.or_eq_true, Bool.and_eq_true, Bool.or_eq_false_iff, Bool.and_eq_false_iff, decide_eq_true_eq, decide_eq_false_iff_not, Bool.not_eq_true', Bool.not_eq_false', Bool.not_eq_true, Bool.not_eq_false] at hc2
  replace hc2 : parE b = 0 := by omega
  have hbl := par_facts hc2
  refine Run.skip ?_
  refine Nrm.code ?_
  refine Run.seq ?_
  refine Run.region ?_
  refine ldW rfl T28 S (i := 0) rfl rfl rfl rfl rfl ?_
  refine call (vs := [_]) ⟨⟨_, _, rfl, rfl⟩, trivial⟩ k115 rfl (c115 _ _ _ _ (ho3.now S) (hd3.now S) (by omega) (by omega) hpk.1 hpk.2.1) ?_
  rintro _ w4 ⟨u5, rfl, hF⟩
  have S := S.fb hF
  have hby_u5 := serL_byt hpk.1 hpk.2.1 ho3.byt hd3.1
  refine mv1 rfl rfl ?_
  refine extr1 rfl rfl rfl ?_
  refine extr1 rfl rfl rfl ?_
  refine asg1 rfl rfl ?_
  refine asg1 rfl rfl ?_
  refine Ro.nil ?_
  refine Nrm.code ?_
  refine Run.seq ?_
  refine Run.region ?_
  refine mv1 rfl rfl ?_
  refine eql1 rfl rfl rfl ?_
  refine mv1 rfl rfl ?_
  refine mv rfl rfl rfl rfl ?_
  refine mv rfl rfl rfl rfl ?_
  refine calg (vs := [_, _]) rfl ⟨⟨_, _, rfl, rfl⟩, ⟨_, _, rfl, rfl⟩, trivial⟩ k37 rfl (fun hG => c37 _ _ _ _ _ (hb.now S) (S.bsI (i := 0) rfl hby_u5)) ?_
  intro w5 B_; have S := S.call B_
  refine pkA rfl rfl rfl rfl rfl rfl ?_
  refine asg1 rfl rfl ?_
  refine Ro.nil ?_
  refine Nrm.code ?_
  refine Run.ret ?_
  refine Rt.one rfl rfl ?_
  exact ⟨by rw [canB, hc2]; rfl, (SS.tran hN1 S).bl⟩
set_option maxHeartbeats 1000000 in
theorem c49 (v : Value) (b : List Int) (w : World) (hb : BS [] w v b) (hl : b.length ≤ 1099511627776) :
  CallsV Tryd.prog 49 #[v] w (fun r w' => ∃ u, r = .tuple #[u, .int .i64 (hopE b)] ∧ FB w w' u (hopB b)) := by
 refine enter Tryd.func49 rfl Tryd.ntmps49 (l := [(0, [], _)]) rfl rfl ?_
 have S := St.refl [] w
 have hB := byt_getD hb.1
 refine Run.seq ?_
 refine Run.region ?_
 refine asg1 rfl rfl ?_
 refine asg1 rfl rfl ?_
 refine Ro.nil ?_
 refine Nrm.code ?_
 refine Run.seq ?_
 refine Run.region ?_
 refine mv1 rfl rfl ?_
 have S0 := S
 refine call (vs := [_]) ⟨⟨_, _, rfl, rfl⟩, trivial⟩ k42 rfl (c42 _ _ _ (hb.now S)) ?_
 rintro _ w1 ⟨o4, d4, rfl, hFH⟩
 have S := S.call hFH.1
 have ho4 := (hFH.2 _ S0.lt).1
 have hd4 := (hFH.2 _ S0.lt).2
 obtain ⟨N1, hN1, S_1⟩ := S.reb
 have hb := hb.st S; rw [hN1] at hb
 rw [hN1] at ho4
 rw [hN1] at hd4
 have SS := S
 have S := S_1
 refine mv1 rfl rfl ?_
 refine extr1 rfl rfl rfl ?_
 refine extr1 rfl rfl rfl ?_
 refine alc T28 S rfl ?_
 intro b4 w2 hb4 S B_
 refine stW rfl rfl T28 rfl rfl (one_cons rfl (one_cons rfl (one_cons rfl (one_cons rfl (one_cons rfl (one_cons rfl (one_cons rfl (one_cons rfl (one_cons rfl (one_cons rfl (one_cons rfl (one_cons rfl (one_cons rfl (one_cons rfl (one_cons rfl (one_cons rfl (one_cons rfl (one_cons rfl (one_cons rfl (one_cons rfl (one_cons rfl (one_cons rfl (one_cons rfl (one_cons rfl (one_cons rfl (one_cons rfl (one_cons rfl (one_cons rfl (one_cons rfl (one_cons rfl (one_cons rfl (one_cons rfl (one_cons rfl (one_cons rfl (one_cons rfl (one_cons rfl (one_cons rfl (one_cons rfl (one_cons rfl (one_cons rfl (one_cons rfl (one_cons ho4.one (one_cons hd4.one one_nil))))))))))))))))))))))))))))))))))))))))))) S (i := 0) rfl rfl ?_
 intro w3 S
 refine asg1 rfl rfl ?_
 refine Ro.nil ?_
 refine Nrm.code ?_
 refine Run.seq ?_
 refine Run.seq ?_
 refine Run.region ?_
 refine mv1 rfl rfl ?_
 refine neq1 rfl rfl rfl ?_
 refine Ro.nil ?_
 refine Nrm.code ?_
 refine Run.cond rfl (fun hc2 => ?_) (fun hc2 => ?_)
 ·
  try simp only [Bool.or_eq_true, Bool.and_eq_true, Bool.or_eq_false_iff, Bool.and_eq_false_iff, decide_eq_true_eq, decide_eq_false_iff_not, Bool.not_eq_true', Bool.not_eq_false', Bool.not_eq_true, Bool.not_eq_false] at hc2
  refine Run.seq ?_
  refine Run.region ?_
  refine mv1 rfl rfl ?_
  refine call (vs := [_]) ⟨⟨_, _, rfl, rfl⟩, trivial⟩ k39 rfl (c39 _ _ _ (hb.now S) (by omega)) ?_
  rintro u17 w4 hF
  have S := S.fb hF
  refine mv1 rfl rfl ?_
  refine asg1 rfl rfl ?_
  refine asg1 rfl rfl ?_
  refine Ro.nil ?_
  refine Nrm.code ?_
  refine Run.ret ?_
  refine Rt.two rfl rfl rfl ?_
  have he : hopE b = parE b := by unfold hopE; rw [if_pos hc2]
  exact ⟨u17, by first | (rw [he]; done) | (rw [he]; rfl), by rw [show hopB b = b from by unfold hopB; rw [if_neg (by omega)]]; exact (SS.tran hN1 S).toFB (i := 0) rfl⟩
 ·
  try simp only [Bool.or_eq_true, Bool.and_eq_true, Bool.or_eq_false_iff, Bool.and_eq_false_iff, decide_eq_true_eq, decide_eq_false_iff_not, Bool.not_eq_true', Bool.not_eq_false', Bool.not_eq_true, Bool.not_eq_false] at hc2
  replace hc2 : parE b = 0 := by omega
  have hpf := par_facts hc2
  have htl := parH_ttl hc2
  refine Run.skip ?_
  refine Nrm.code ?_
  refine Run.seq ?_
  refine Run.seq ?_
  refine Run.region ?_
  refine fld (o' := 5) rfl fo28_5 rfl rfl rfl rfl ?_
  refine ld1 rfl T3 S (i := 0) rfl rfl rfl rfl rfl ?_
  refine lss1 rfl rfl rfl ?_
  refine Ro.nil ?_
  refine Nrm.code ?_
  refine Run.cond rfl (fun hc4 => ?_) (fun hc4 => ?_)
  ·
   try simp only [Bool.or_eq_true, Bool.and_eq_true, Bool.or_eq_false_iff, Bool.and_eq_false_iff, decide_eq_true_eq, decide_eq_false_iff_not, Bool.not_eq_true', Bool.not_eq_false', Bool.not_eq_true, Bool.not_eq_false] at hc4
   refine Run.seq ?_
   refine Run.region ?_
   refine mv1 rfl rfl ?_
   refine call (vs := [_]) ⟨⟨_, _, rfl, rfl⟩, trivial⟩ k39 rfl (c39 _ _ _ (hb.now S) (by omega)) ?_
   rintro u23 w4 hF
   have S := S.fb hF
   refine asg1 rfl rfl ?_
   refine asg1 rfl rfl ?_
   refine Ro.nil ?_
   refine Nrm.code ?_
   refine Run.ret ?_
   refine Rt.two rfl rfl rfl ?_
   have he : hopE b = 67 := by unfold hopE; rw [if_neg (by omega), if_pos (by omega)]
   exact ⟨u23, by first | (rw [he]; done) | (rw [he]; rfl), by rw [show hopB b = b from by unfold hopB; rw [if_neg (by omega)]]; exact (SS.tran hN1 S).toFB (i := 0) rfl⟩
  ·
   try simp only [Bool.or_eq_true, Bool.and_eq_true, Bool.or_eq_false_iff, Bool.and_eq_false_iff, decide_eq_true_eq, decide_eq_false_iff_not, Bool.not_eq_true', Bool.not_eq_false', Bool.not_eq_true, Bool.not_eq_false] at hc4
   have hb8 : 2 ≤ b.getD 8 0 := by omega
   refine Run.skip ?_
   refine Nrm.code ?_
   refine Run.seq ?_
   refine Run.region ?_
   refine mv1 rfl rfl ?_
   refine call (vs := [_]) ⟨⟨_, _, rfl, rfl⟩, trivial⟩ k39 rfl (c39 _ _ _ (hb.now S) (by omega)) ?_
   rintro u25 w4 hF
   have S := S.fb hF
   refine asg1 rfl rfl ?_
   refine Ro.nil ?_
   refine Nrm.code ?_
   refine Run.seq ?_
   refine Run.region ?_
   refine mv1 rfl rfl ?_
   refine ixa rfl rfl (S.slI (i := 0) rfl) e26 rfl rfl rfl rfl (fun _ => by first | omega | (simp only [List.length_cons, List.length_nil]; omega)) ?_
   refine ldB rfl (S.bsI (i := 0) rfl hb.1) (St.refl [] _) T5 rfl rfl rfl (fun _ => by omega) ?_
   intro q28 hq28 hbq28
   try simp only [Int.toNat_natCast, Nat.mul_one, Int.reduceToNat] at hq28
   refine rem1 rfl rfl rfl (by decide) (r64 (by omega)) ?_
   refine cvi1 rfl rfl Tryd.underlying5 Tryd.underlying3 (w64 (by omega)) ?_
   refine mul1 rfl rfl rfl ((show IntKind.i64.wrap (_ * 4) = (hdN b : Int) from by rw [w64 (by omega)]; have hH : 4 * (b.getD 0 0 % 16) = (hdN b : Int) := (by unfold hdN; omega); omega)) ?_
   refine asg1 rfl rfl ?_
   refine Ro.nil ?_
   refine Nrm.code ?_
   refine Run.seq ?_
   refine Run.region ?_
   refine mv1 rfl rfl ?_
   refine mv1 rfl rfl ?_
   refine ixa rfl rfl (S.slI (i := 0) rfl) e26 rfl rfl rfl rfl (fun _ => by first | omega | (simp only [List.length_cons, List.length_nil]; omega)) ?_
   refine ldB rfl (S.bsI (i := 0) rfl hb.1) (St.refl [] _) T5 rfl rfl rfl (fun _ => by omega) ?_
   intro q35 hq35 hbq35
   try simp only [Int.toNat_natCast, Nat.mul_one, Int.reduceToNat] at hq35
   refine sub1 rfl rfl rfl (w8of rfl (by omega)) ?_
   subst hq35
   have hMb : byt (b.set 8 (b.getD 8 0 - 1)) := byt_set hb.1 _ (by omega)
   have hCb := hopC_bd (b := b) hMb
   refine ixa rfl rfl (S.slI (i := 0) rfl) e26 rfl rfl rfl rfl (fun _ => by omega) ?_
   refine stB rfl rfl T5 S (i := 0) rfl (by omega) rfl ?_
   intro w5 S
   refine Ro.nil ?_
   refine Nrm.code ?_
   refine Run.seq ?_
   refine Run.heldB (by kernel_rfl) S [true, true] rfl rfl rfl ?_
   intro w6 BD S SC
   refine Hb.take (i := 0) SC (fun _ _ S B => S.call B) Pp.body rfl (by kernel_rfl) (by kernel_rfl) (by kernel_rfl) rfl rfl ?_
   have hr25 := S.bsI (i := 0) (l := b.set 8 (b.getD 8 0 - 1)) rfl hMb
   refine qmv rfl rfl rfl rfl ?_
   refine Hb.back ?_
   refine Hb.take (i := 1) SC (fun _ _ S B => S.call B) Pp.body rfl (by kernel_rfl) (by kernel_rfl) (by kernel_rfl) rfl rfl ?_
   refine qslC (lo := 0) (hi := 10) (mx := capV u25) rfl hr25 e26 rfl rfl rfl (i1 := none) (i2 := some 10) (i3 := none) trivial ⟨_, _, _, rfl, rfl⟩ trivial rfl rfl rfl (fun h => by first | rfl | cases h) (fun _ => by have := hr25.cap; rw [List.length_set] at *; omega) ?_
   refine Hb.back ?_
   refine Hb.take (i := 2) SC (fun _ _ S B => S.call B) Pp.body rfl (by kernel_rfl) (by kernel_rfl) (by kernel_rfl) rfl rfl ?_
   refine qmv rfl rfl rfl rfl ?_
   refine Hb.back ?_
   refine Hb.take (i := 3) SC (fun _ _ S B => S.call B) Pp.body rfl (by kernel_rfl) (by kernel_rfl) (by kernel_rfl) rfl rfl ?_
   refine qmv rfl rfl rfl rfl ?_
   refine Hb.back ?_
   refine Hb.take (i := 4) SC (fun _ _ S B => S.call B) Pp.body rfl (by kernel_rfl) (by kernel_rfl) (by kernel_rfl) rfl rfl ?_
   refine qslC (lo := 12) (hi := hdN b) (mx := capV u25) rfl hr25 e26 rfl rfl rfl (i1 := some 12) (i2 := some (hdN b)) (i3 := none) ⟨_, _, _, rfl, rfl⟩ ⟨_, _, _, rfl, rfl⟩ trivial rfl rfl rfl (fun h => by first | rfl | cases h) (fun _ => by have := hr25.cap; rw [List.length_set] at *; omega) ?_
   refine Hb.back ?_
   refine Hb.one (i := 5) (by kernel_rfl) rfl rfl ?_
   intro w7 BD; have S := S.call BD
   refine bsl e102 (qs := [(_, _), (_, _)]) ⟨⟨_, _, _, rfl, rfl, cells1 hr25.cutOne, rfl, List.cons_ne_nil _ _⟩, ⟨_, _, _, rfl, rfl, cells1 hr25.cutOne, rfl, List.cons_ne_nil _ _⟩, trivial⟩ rfl rfl rfl rfl S ?_
   intro u43 w8 S B_
   have SC := S.pick [false, true, true] rfl
   refine Hb.on SC ?_
   refine Hb.one (i := 6) (by kernel_rfl) rfl rfl ?_
   intro w9 BD; have S := S.call BD
   have hr := S.bsI (i := 1) (l := (b.set 8 (b.getD 8 0 - 1))) rfl hMb
   have hck : CallsD Tryd.prog 117 #[u43] w9 (.int .i64 (hopC b)) := by
    have := c117 u43 [((hopM b).drop 0).take (10 - 0), ((hopM b).drop 12).take (hdN b - 12)] w9 ⟨[_, _], S.slI (i := 0) rfl, hr.cut (lo := 0) (hi := 10) (mx := capV u25) (by have := hr.cap; rw [List.length_set] at *; omega), hr.cut (lo := 12) (hi := hdN b) (mx := capV u25) (by have := hr.cap; rw [List.length_set] at *; omega), trivial⟩ (by simp [hopM]; omega) (by simp)
    rw [show [((hopM b).drop 0).take (10 - 0), ((hopM b).drop 12).take (hdN b - 12)].flatten = (hopM b).take 10 ++ ((hopM b).drop 12).take (hdN b - 12) from by simp] at this
    exact this
   refine calg (vs := [_]) rfl ⟨⟨_, _, rfl, rfl⟩, trivial⟩ k117 rfl (fun hG => hck) ?_
   intro w10 B_; have S := S.call B_
   have SC := S.pick [false, true, true] rfl
   refine Hb.on SC ?_
   refine Hb.take (i := 7) SC (fun _ _ S B => S.call B) Pp.body rfl (by kernel_rfl) (by kernel_rfl) (by kernel_rfl) rfl rfl ?_
   refine qasg rfl rfl rfl rfl ?_
   refine Hb.back ?_
   refine Hb.done (by kernel_rfl) ?_
   intro w11 BD; have S := S.call BD
   refine Nrm.code ?_
   refine Run.seq ?_
   refine Run.region ?_
   refine mv1 rfl rfl ?_
   refine mv1 rfl rfl ?_
   refine quo1 rfl rfl rfl (by decide) (q64 (by omega)) ?_
   refine cvi1 rfl rfl Tryd.underlying3 Tryd.underlying5 (w8of rfl (by omega)) ?_
   refine ixa rfl rfl (S.slI (i := 1) rfl) e26 rfl rfl rfl rfl (by simp; omega) ?_
   refine stB rfl rfl T5 S (i := 1) rfl (by simp; omega) rfl ?_
   intro w12 S
   refine Ro.nil ?_
   refine Nrm.code ?_
   refine Run.seq ?_
   refine Run.region ?_
   refine mv1 rfl rfl ?_
   refine mv1 rfl rfl ?_
   refine rem1 rfl rfl rfl (by decide) (r64 (by omega)) ?_
   refine cvi1 rfl rfl Tryd.underlying3 Tryd.underlying5 (w8of rfl (by omega)) ?_
   refine ixa rfl rfl (S.slI (i := 1) rfl) e26 rfl rfl rfl rfl (by simp; omega) ?_
   refine stB rfl rfl T5 S (i := 1) rfl (by simp; omega) rfl ?_
   intro w13 S
   refine Ro.nil ?_
   refine Nrm.code ?_
   refine Run.seq ?_
   refine Run.region ?_
   refine mv1 rfl rfl ?_
   refine asg1 rfl rfl ?_
   refine asg1 rfl rfl ?_
   refine Ro.nil ?_
   refine Nrm.code ?_
   refine Run.ret ?_
   refine Rt.two rfl rfl rfl ?_
   have he : hopE b = 0 := by unfold hopE; rw [if_neg (by omega), if_neg (by omega)]
   exact ⟨u25, by first | (rw [he]; done) | (rw [he]; rfl), by rw [show hopB b = hopW b from by unfold hopB; rw [if_pos he]]; exact (SS.tran hN1 S).toFB (i := 1) rfl⟩
end Go.Proofs.YtkahmepenjhcpaaDoor.W
/- The walk of weirlaw6.Ip4Back. No statement of the seat is proved here. -/
namespace Go.Proofs.YtkahmepenjhcpaaDoor.W
open Go
set_option linter.unusedSimpArgs false
set_option linter.unusedVariables false
theorem chkE_bd (h : Ip4) : 0 ≤ chkE h ∧ chkE h ≤ 68 := by
  have := fragE_or h.mf h.off h.data.length
  have : putE h.opts = 0 ∨ putE h.opts = 65 := by unfold putE; split <;> simp
  unfold chkE
  (repeat' split) <;> omega
theorem parE_bd (b : List Int) : 0 ≤ parE b ∧ parE b ≤ 66 := by
  have := optE_le (optB4 b)
  have := fragE_or (decide (b.getD 6 0 / 32 % 2 = 1)) (8 * offW b) ((totN b : Int) - hdN b)
  unfold parE
  (repeat' split) <;> omega
end Go.Proofs.YtkahmepenjhcpaaDoor.W
/- Plain facts: what is read may be written. No statement of the seat is proved here. -/
namespace Go.Proofs.YtkahmepenjhcpaaDoor.W
open Go
set_option linter.unusedVariables false
set_option linter.unusedSimpArgs false
end Go.Proofs.YtkahmepenjhcpaaDoor.W
/- Contracts: Hop. No statement of the seat is proved here. -/
namespace Go.Proofs.YtkahmepenjhcpaaDoor.W
open Go
set_option linter.unusedSimpArgs false
set_option linter.unusedVariables false
theorem St.bsV {N0 : List Nat} {w0 w : World} {L : List Own} {i j : Nat} {v : Value} {l : List Int} {o : Own} (S : St N0 w0 L w) (hk : getN L i = some (oB v l)) (hj : getN L j = some o) (hn : i ≠ j) (hb : byt l) {n mx : Nat} (hc : n ≤ l.length ∧ n ≤ mx ∧ mx ≤ capV v) : BS o.ids w (cut v 0 n mx) (l.take n) :=
  (S.bsN hk hj hn hb).cut0 hc
theorem twelve {b : List Int} (h : 12 ≤ b.length) : ∃ x0 x1 x2 x3 x4 x5 x6 x7 x8 x9 x10 x11 r, b = x0 :: x1 :: x2 :: x3 :: x4 :: x5 :: x6 :: x7 :: x8 :: x9 :: x10 :: x11 :: r := by
  rcases b with _ | ⟨x0, _ | ⟨x1, _ | ⟨x2, _ | ⟨x3, _ | ⟨x4, _ | ⟨x5, _ | ⟨x6, _ | ⟨x7, _ | ⟨x8, _ | ⟨x9, _ | ⟨x10, _ | ⟨x11, r⟩⟩⟩⟩⟩⟩⟩⟩⟩⟩⟩⟩ <;> first
    | (simp at h; done)
    | exact ⟨_, _, _, _, _, _, _, _, _, _, _, _, _, rfl⟩
theorem foldS_cong {a b : Int} (ha : 0 < a) (hb : 0 < b) (h : a % 65535 = b % 65535) : foldS a = foldS b := by
  unfold foldS
  rw [if_neg (by omega), if_neg (by omega)]
  omega
theorem foldS_full {a : Int} (ha : 0 ≤ a) (h : foldS a = 65535) : a % 65535 = 0 := by
  unfold foldS at h
  split at h <;> omega
theorem hop_fix {b : List Int} (hb : byt b) (hp : parE b = 0) (h8 : 2 ≤ b.getD 8 0) :
    65535 - foldS (65535 - (b.getD 10 0 * 256 + b.getD 11 0) + 65535 - (b.getD 8 0 * 256 + b.getD 9 0) + (b.getD 8 0 * 256 + b.getD 9 0 - 256)) = hopC b := by
  have hf := par_facts hp
  obtain ⟨h20, _, h4, hh20, hhb, _, _, hs, _⟩ := hf
  have hB := byt_getD hb
  have B0 := hB 0
  have B1 := hB 1
  have B2 := hB 2
  have B3 := hB 3
  have B4 := hB 4
  have B5 := hB 5
  have B6 := hB 6
  have B7 := hB 7
  have B8 := hB 8
  have B9 := hB 9
  have B10 := hB 10
  have B11 := hB 11
  have hbr : byt (b.drop 12) := byt_drop hb 12
  generalize hm : hdN b = m at *
  obtain ⟨x0, x1, x2, x3, x4, x5, x6, x7, x8, x9, x10, x11, r, rfl⟩ := twelve (b := b) (by omega)
  obtain ⟨m', rfl⟩ : ∃ m', m = m' + 12 := ⟨m - 12, by omega⟩
  simp only [List.getD_cons_zero, List.getD_cons_succ] at *
  simp only [List.drop_succ_cons, List.drop_zero] at hbr
  have hw := wsum_bd (r.take m') true (byt_take hbr m')
  have e1 : sumS ((x0 :: x1 :: x2 :: x3 :: x4 :: x5 :: x6 :: x7 :: x8 :: x9 :: x10 :: x11 :: r).take (m' + 12)) = foldS (x0 * 256 + x1 + x2 * 256 + x3 + x4 * 256 + x5 + x6 * 256 + x7 + x8 * 256 + x9 + x10 * 256 + x11 + wsum true (r.take m')) := by
    simp only [List.take_succ_cons, sumS, wsum]
    congr 1
    omega
  have e2 : hopC (x0 :: x1 :: x2 :: x3 :: x4 :: x5 :: x6 :: x7 :: x8 :: x9 :: x10 :: x11 :: r) = 65535 - foldS (x0 * 256 + x1 + x2 * 256 + x3 + x4 * 256 + x5 + x6 * 256 + x7 + (x8 - 1) * 256 + x9 + wsum true (r.take m')) := by
    unfold hopC hopM
    rw [hm]
    simp only [List.getD_cons_zero, List.getD_cons_succ, List.set_cons_succ, List.set_cons_zero, List.take_succ_cons, List.take_zero, List.drop_succ_cons, List.drop_zero, Nat.add_sub_cancel, List.cons_append, List.nil_append, sumS, wsum]
    congr 2
    omega
  rw [e1] at hs
  have h0 := foldS_full (by omega) hs
  rw [e2]
  congr 1
  exact foldS_cong (by omega) (by omega) (by omega)
theorem hop_row {bs : List Int} {n : Nat} {c : Int} (hn : n ≤ bs.length) (h12 : 12 ≤ n) (he : hopE (bs.take n) = 0) (hc : c = hopC (bs.take n)) :
    ((bs.set 8 ((bs.take n).getD 8 0 - 1)).set 10 (c / 256)).set 11 (c % 256) = hopB (bs.take n) ++ bs.drop n := by
  have hl : (bs.take n).length = n := by rw [List.length_take]; omega
  unfold hopB
  rw [if_pos he]
  unfold hopW hopM
  rw [hc]
  conv => lhs; rw [← List.take_append_drop n bs]
  rw [List.set_append_left _ _ (by omega), List.set_append_left _ _ (by simp; omega), List.set_append_left _ _ (by simp; omega)]
  simp
set_option maxHeartbeats 1000000 in
theorem c108 (v : Value) (b : List Int) (i bx : Nat) (w : World) (hv : (Own.var bx 26 [v]).holds w) (hb : BS [bx] w v b) (hi : i + 1 < b.length) (hl : b.length ≤ 1099511627776) :
  CallsV Tryd.prog 108 #[.int .i64 i, .pointer (some ⟨bx, 0, none⟩)] w (fun r w' => r = .int .i64 (b.getD i 0 * 256 + b.getD (i + 1) 0) ∧ Tn w w' (.var bx 26 [v]) (.var bx 26 [v])) := by
 refine enter Tryd.func108 rfl Tryd.ntmps108 (l := [(0, [], _), (1, [], _)]) rfl rfl ?_
 have S := St.own0 hv
 refine Run.seq ?_
 refine Run.region ?_
 refine asg1 rfl rfl ?_
 refine Ro.nil ?_
 refine Nrm.code ?_
 refine Run.seq ?_
 refine Run.draw (by kernel_rfl) (by kernel_rfl) S ?_
 refine qld1 rfl T26 (fun _ S => S) (i := 0) rfl rfl rfl rfl rfl ?_
 refine qmv rfl rfl rfl rfl ?_
 refine qixa rfl rfl hb.2 e26 rfl rfl rfl rfl (fun _ => by first | omega | (simp only [List.length_cons, List.length_nil]; omega)) ?_
 refine qldB rfl hb (fun _ S => S) T5 rfl rfl rfl (fun _ => by omega) ?_
 intro q7 hq7 hbq7
 try simp only [Int.toNat_natCast, Nat.mul_one, Int.reduceToNat] at hq7
 refine qcvi rfl rfl rfl rfl Tryd.underlying5 Tryd.underlying3 (fun _ => w64 (by omega)) ?_
 refine qshl rfl rfl rfl rfl rfl rfl (fun _ => by decide) (fun _ => sl8 (by omega)) ?_
 refine qld1 rfl T26 (fun _ S => S) (i := 0) rfl rfl rfl rfl rfl ?_
 refine qmv rfl rfl rfl rfl ?_
 refine qadd rfl rfl rfl rfl rfl rfl (fun _ => w64 (by omega)) ?_
 refine qixa rfl rfl hb.2 e26 rfl rfl rfl rfl (fun _ => by first | omega | (simp only [List.length_cons, List.length_nil]; omega)) ?_
 refine qldB rfl hb (fun _ S => S) T5 rfl rfl rfl (fun _ => by omega) ?_
 intro q14 hq14 hbq14
 try simp only [Int.toNat_natCast, Nat.mul_one, Int.reduceToNat] at hq14
 refine qcvi rfl rfl rfl rfl Tryd.underlying5 Tryd.underlying3 (fun _ => w64 (by omega)) ?_
 refine qbor rfl rfl rfl rfl rfl rfl (fun _ => or8 (by omega) (by omega)) ?_
 refine qasg rfl rfl rfl rfl ?_
 refine Qo.nil (fun w1 S => ?_)
 refine Nrm.code ?_
 refine Run.ret ?_
 refine Rt.one rfl rfl ?_
 have e1 : q7 = b.getD i 0 := hq7
 have e2 : q14 = b.getD (i + 1) 0 := hq14
 exact ⟨by rw [← e1, ← e2], S.toTn (i := 0) rfl⟩
set_option maxHeartbeats 1000000 in
theorem c40 (v : Value) (bs : List Int) (n mx : Nat) (w : World) (hv : (oB v bs).holds w) (hb : byt bs) (hc : n ≤ bs.length ∧ n ≤ mx ∧ mx ≤ capV v) (hl : bs.length ≤ 1099511627776) (hg : GV (oB v bs).ids w 0 130 (W4.map i64)) :
  CallsV Tryd.prog 40 #[cut v 0 n mx] w (fun r w' => r = .int .i64 (hopE (bs.take n)) ∧ Tn w w' (oB v bs) (oB v (hopB (bs.take n) ++ bs.drop n))) := by
 refine enter Tryd.func40 rfl Tryd.ntmps40 (l := [(0, [], _)]) rfl rfl ?_
 have S := St.own0 hv
 have hbt : byt (bs.take n) := byt_take hb n
 have hB := byt_getD hbt
 have hlt : (bs.take n).length = n := by rw [List.length_take]; omega
 refine Run.seq ?_
 refine Run.region ?_
 refine boxS rfl ((S.bsI (i := 0) rfl hb).cut0 hc).one S rfl ?_
 intro b1 w1 hb1 S B_
 refine asg1 rfl rfl ?_
 refine Ro.nil ?_
 refine Nrm.code ?_
 refine Run.seq ?_
 refine Run.seq ?_
 refine Run.region ?_
 refine ld1 rfl T26 S (i := 0) rfl rfl rfl rfl rfl ?_
 refine call (vs := [_]) ⟨⟨_, _, rfl, rfl⟩, trivial⟩ k33 rfl (c33 _ _ _ ((S.bsI (i := 1) rfl hb).cut0 hc) (hg.now S)) ?_
 rintro _ w2 ⟨o3, d3, vs3, rfl, hF, hw3⟩
 have S := S.fo hF
 have hd3 := (hw3 _ _ ((S.bsI (i := 2) rfl hb).cut0 hc)).2
 have ho3 := (hw3 _ _ ((S.bsI (i := 2) rfl hb).cut0 hc)).1
 refine mv1 rfl rfl ?_
 refine extr1 rfl rfl rfl ?_
 refine extr1 rfl rfl rfl ?_
 refine alc T28 S rfl ?_
 intro b3 w3 hb3 S B_
 refine stW rfl rfl T28 rfl rfl (one_cons rfl (one_cons rfl (one_cons rfl (one_cons rfl (one_cons rfl (one_cons rfl (one_cons rfl (one_cons rfl (one_cons rfl (one_cons rfl (one_cons rfl (one_cons rfl (one_cons rfl (one_cons rfl (one_cons rfl (one_cons rfl (one_cons rfl (one_cons rfl (one_cons rfl (one_cons rfl (one_cons rfl (one_cons rfl (one_cons rfl (one_cons rfl (one_cons rfl (one_cons rfl (one_cons rfl (one_cons rfl (one_cons rfl (one_cons rfl (one_cons rfl (one_cons rfl (one_cons rfl (one_cons rfl (one_cons rfl (one_cons rfl (one_cons rfl (one_cons rfl (one_cons rfl (one_cons rfl (one_cons rfl (one_cons (S.slI (i := 1) rfl).one (one_cons hd3.one one_nil))))))))))))))))))))))))))))))))))))))))))) S (i := 0) rfl rfl ?_
 intro w4 S
 refine asg1 rfl rfl ?_
 refine Ro.nil ?_
 refine Nrm.code ?_
 refine Run.seq ?_
 refine Run.region ?_
 refine mv1 rfl rfl ?_
 refine neq1 rfl rfl rfl ?_
 refine Ro.nil ?_
 refine Nrm.code ?_
 refine Run.cond rfl (fun hc2 => ?_) (fun hc2 => ?_)
 ·
  try simp only [Bool.or_eq_true, Bool.and_eq_true, Bool.or_eq_false_iff, Bool.and_eq_false_iff, decide_eq_true_eq, decide_eq_false_iff_not, Bool.not_eq_true', Bool.not_eq_false', Bool.not_eq_true, Bool.not_eq_false] at hc2
  refine Run.seq ?_
  refine Run.region ?_
  refine mv1 rfl rfl ?_
  refine asg1 rfl rfl ?_
  refine Ro.nil ?_
  refine Nrm.code ?_
  refine Run.ret ?_
  refine Rt.one rfl rfl ?_
  have he : hopE (bs.take n) = parE (bs.take n) := by unfold hopE; rw [if_pos hc2]
  exact ⟨by first | (rw [he]; done) | (rw [he]; rfl), by rw [show hopB (bs.take n) ++ bs.drop n = bs from by unfold hopB; rw [if_neg (by omega), List.take_append_drop]]; exact S.toTn (i := 3) rfl⟩
 ·
  try simp only [Bool.or_eq_true, Bool.and_eq_true, Bool.or_eq_false_iff, Bool.and_eq_false_iff, decide_eq_true_eq, decide_eq_false_iff_not, Bool.not_eq_true', Bool.not_eq_false', Bool.not_eq_true, Bool.not_eq_false] at hc2
  replace hc2 : parE (bs.take n) = 0 := by omega
  have hpf := par_facts hc2
  have heP : eP (cut v 0 n mx) = eP v := eP_cut0 hv (by intro e; rw [e] at hpf; simp at hpf)
  refine Run.skip ?_
  refine Nrm.code ?_
  refine Run.seq ?_
  refine Run.seq ?_
  refine Run.region ?_
  refine ld1 rfl T26 S (i := 2) rfl rfl rfl rfl rfl ?_
  refine ixa rfl rfl ((S.bsI (i := 3) rfl hb).cut0 hc).2 e26 rfl rfl rfl rfl (fun _ => by first | omega | (simp only [List.length_cons, List.length_nil]; omega)) ?_
  refine ldB rfl ((S.bsI (i := 3) rfl hb).cut0 hc) (St.refl [] _) T5 rfl rfl rfl (fun _ => by omega) ?_
  intro q19 hq19 hbq19
  try simp only [Int.toNat_natCast, Nat.mul_one, Int.reduceToNat] at hq19
  refine lss1 rfl rfl rfl ?_
  refine Ro.nil ?_
  refine Nrm.code ?_
  refine Run.cond rfl (fun hc4 => ?_) (fun hc4 => ?_)
  ·
   try simp only [Bool.or_eq_true, Bool.and_eq_true, Bool.or_eq_false_iff, Bool.and_eq_false_iff, decide_eq_true_eq, decide_eq_false_iff_not, Bool.not_eq_true', Bool.not_eq_false', Bool.not_eq_true, Bool.not_eq_false] at hc4
   refine Run.seq ?_
   refine Run.region ?_
   refine asg1 rfl rfl ?_
   refine Ro.nil ?_
   refine Nrm.code ?_
   refine Run.ret ?_
   refine Rt.one rfl rfl ?_
   have he : hopE (bs.take n) = 67 := by unfold hopE; rw [if_neg (by omega), if_pos (by omega)]
   exact ⟨by first | (rw [he]; done) | (rw [he]; rfl), by rw [show hopB (bs.take n) ++ bs.drop n = bs from by unfold hopB; rw [if_neg (by omega), List.take_append_drop]]; exact S.toTn (i := 3) rfl⟩
  ·
   try simp only [Bool.or_eq_true, Bool.and_eq_true, Bool.or_eq_false_iff, Bool.and_eq_false_iff, decide_eq_true_eq, decide_eq_false_iff_not, Bool.not_eq_true', Bool.not_eq_false', Bool.not_eq_true, Bool.not_eq_false] at hc4
   have hb8 : 2 ≤ (bs.take n).getD 8 0 := by omega
   refine Run.skip ?_
   refine Nrm.code ?_
   refine Run.seq ?_
   refine Run.region ?_
   refine mkf (vs := [_]) ⟨⟨_, _, rfl, rfl⟩, trivial⟩ rfl ?_
   refine asg1 rfl rfl ?_
   refine Ro.nil ?_
   refine Nrm.code ?_
   refine Run.seq ?_
   refine Run.region ?_
   refine mv1 rfl rfl ?_
   refine callC (vs := [_]) (caps := [_]) rfl ⟨⟨_, _, rfl, rfl⟩, trivial⟩ k108 rfl (c108 _ (bs.take n) 8 b1 _ (S.hold_at (i := 2) rfl) (S.bsV (i := 3) (j := 2) rfl rfl (by decide) hb hc) (by omega) (by omega)) ?_
   rintro _ w5 ⟨rfl, hT⟩
   have S := S.tn (i := 2) rfl rfl hT
   refine asg1 rfl rfl ?_
   refine Ro.nil ?_
   refine Nrm.code ?_
   refine Run.seq ?_
   refine Run.region ?_
   refine mv1 rfl rfl ?_
   have B8 := hB 8
   have B9 : 0 ≤ (bs.take n).getD (8 + 1) 0 ∧ (bs.take n).getD (8 + 1) 0 < 256 := hB 9
   have B10 := hB 10
   have B11 : 0 ≤ (bs.take n).getD (10 + 1) 0 ∧ (bs.take n).getD (10 + 1) 0 < 256 := hB 11
   refine callC (vs := [_]) (caps := [_]) rfl ⟨⟨_, _, rfl, rfl⟩, trivial⟩ k108 rfl (c108 _ (bs.take n) 10 b1 _ (S.hold_at (i := 2) rfl) (S.bsV (i := 3) (j := 2) rfl rfl (by decide) hb hc) (by omega) (by omega)) ?_
   rintro _ w6 ⟨rfl, hT⟩
   have S := S.tn (i := 2) rfl rfl hT
   refine mv1 rfl rfl ?_
   refine mv1 rfl rfl ?_
   refine sub1 rfl rfl rfl (w64 (by omega)) ?_
   refine calg (vs := [_, _, _]) rfl ⟨⟨_, _, rfl, rfl⟩, ⟨_, _, rfl, rfl⟩, ⟨_, _, rfl, rfl⟩, trivial⟩ k109 rfl (fun hG => c109 _ _ _ _ (by omega) (by omega) (by omega)) ?_
   intro w7 B_; have S := S.call B_
   refine mv1 rfl rfl ?_
   refine extr1 rfl rfl rfl ?_
   have hfb := foldS_bd (n := 65535 - ((bs.take n).getD 10 0 * 256 + (bs.take n).getD (10 + 1) 0) + 65535 - ((bs.take n).getD 8 0 * 256 + (bs.take n).getD (8 + 1) 0) + ((bs.take n).getD 8 0 * 256 + (bs.take n).getD (8 + 1) 0 - 256)) (by omega)
   refine extr1 rfl rfl rfl ?_
   refine asg1 rfl rfl ?_
   refine asg1 rfl rfl ?_
   refine Ro.nil ?_
   refine Nrm.code ?_
   refine Run.seq ?_
   refine Run.seq ?_
   refine Run.region ?_
   refine mv1 rfl rfl ?_
   refine neq1 rfl rfl rfl ?_
   refine Ro.nil ?_
   refine Nrm.code ?_
   refine Run.cond rfl (fun hc9 => ?_) (fun hc9 => ?_)
   ·
    try simp only [Bool.or_eq_true, Bool.and_eq_true, Bool.or_eq_false_iff, Bool.and_eq_false_iff, decide_eq_true_eq, decide_eq_false_iff_not, Bool.not_eq_true', Bool.not_eq_false', Bool.not_eq_true, Bool.not_eq_false] at hc9
    exfalso; omega
   ·
    try simp only [Bool.or_eq_true, Bool.and_eq_true, Bool.or_eq_false_iff, Bool.and_eq_false_iff, decide_eq_true_eq, decide_eq_false_iff_not, Bool.not_eq_true', Bool.not_eq_false', Bool.not_eq_true, Bool.not_eq_false] at hc9
    refine Run.skip ?_
    refine Nrm.code ?_
    refine Run.seq ?_
    refine Run.region ?_
    refine ld1 rfl T26 S (i := 2) rfl rfl rfl rfl rfl ?_
    refine ixa rfl rfl ((S.bsI (i := 3) rfl hb).cut0 hc).2 e26 rfl rfl rfl rfl (fun _ => by first | omega | (simp only [List.length_cons, List.length_nil]; omega)) ?_
    refine ldB rfl ((S.bsI (i := 3) rfl hb).cut0 hc) (St.refl [] _) T5 rfl rfl rfl (fun _ => by omega) ?_
    intro q38 hq38 hbq38
    try simp only [Int.toNat_natCast, Nat.mul_one, Int.reduceToNat] at hq38
    refine sub1 rfl rfl rfl (w8 (by omega)) ?_
    refine ixa rfl rfl ((S.bsI (i := 3) rfl hb).cut0 hc).2 e26 rfl rfl rfl rfl (fun _ => by first | omega | (simp only [List.length_cons, List.length_nil]; omega)) ?_
    refine stB (j := 8) (by rw [← heP]; rfl) rfl T5 S (i := 3) rfl (by (try simp only [List.length_set]); omega) rfl ?_
    intro w8 S
    subst hq38
    have hb8 : byt (bs.set 8 ((bs.take n).getD 8 0 - 1)) := byt_set hb _ (by omega)
    have hc8 : n ≤ (bs.set 8 ((bs.take n).getD 8 0 - 1)).length ∧ n ≤ mx ∧ mx ≤ capV v := by rw [List.length_set]; exact hc
    have hcutS := ((S.bsI (i := 3) (l := bs.set 8 ((bs.take n).getD 8 0 - 1)) rfl hb8).cut0 hc8)
    refine Ro.nil ?_
    refine Nrm.code ?_
    refine Run.seq ?_
    refine Run.heldB (by kernel_rfl) S [true, true, true, false] rfl rfl rfl ?_
    intro w9 BD S SC
    refine Hb.take (i := 0) SC (fun _ _ S B => S.call B) Pp.body rfl (by kernel_rfl) (by kernel_rfl) (by kernel_rfl) rfl rfl ?_
    refine qld1 rfl T26 (fun _ S => S) (i := 2) rfl rfl rfl rfl rfl ?_
    refine Hb.back ?_
    refine Hb.take (i := 1) SC (fun _ _ S B => S.call B) Pp.body rfl (by kernel_rfl) (by kernel_rfl) (by kernel_rfl) rfl rfl ?_
    refine qld1 rfl T26 (fun _ S => S) (i := 2) rfl rfl rfl rfl rfl ?_
    refine Hb.back ?_
    refine Hb.take (i := 2) SC (fun _ _ S B => S.call B) Pp.body rfl (by kernel_rfl) (by kernel_rfl) (by kernel_rfl) rfl rfl ?_
    refine qmv rfl rfl rfl rfl ?_
    refine Hb.back ?_
    refine Hb.take (i := 3) SC (fun _ _ S B => S.call B) Pp.body rfl (by kernel_rfl) (by kernel_rfl) (by kernel_rfl) rfl rfl ?_
    refine qshr rfl rfl rfl rfl rfl rfl (fun _ => by decide) (fun _ => sh8 _) ?_
    refine Hb.back ?_
    refine Hb.take (i := 4) SC (fun _ _ S B => S.call B) Pp.body rfl (by kernel_rfl) (by kernel_rfl) (by kernel_rfl) rfl rfl ?_
    refine qcvi rfl rfl rfl rfl Tryd.underlying3 Tryd.underlying5 (fun _ => w8of rfl (by omega)) ?_
    refine Hb.back ?_
    refine Hb.take (i := 5) SC (fun _ _ S B => S.call B) Pp.body rfl (by kernel_rfl) (by kernel_rfl) (by kernel_rfl) rfl rfl ?_
    refine qmv rfl rfl rfl rfl ?_
    refine Hb.back ?_
    refine Hb.take (i := 6) SC (fun _ _ S B => S.call B) Pp.body rfl (by kernel_rfl) (by kernel_rfl) (by kernel_rfl) rfl rfl ?_
    refine qcvi rfl rfl rfl rfl Tryd.underlying3 Tryd.underlying5 (fun _ => w8m _) ?_
    refine Hb.back ?_
    refine Hb.take (i := 7) SC (fun _ _ S B => S.call B) Pp.body rfl (by kernel_rfl) (by kernel_rfl) (by kernel_rfl) rfl rfl ?_
    refine qixa rfl rfl hcutS.2 e26 rfl rfl rfl rfl (fun _ => by rw [List.length_take, List.length_set]; omega) ?_
    refine Hb.back ?_
    refine Hb.one (i := 8) (by kernel_rfl) rfl rfl ?_
    intro w10 BD; have S := S.call BD
    refine stB (j := 10) (by rw [← heP]; rfl) rfl T5 S (i := 3) rfl (by (try simp only [List.length_set]); omega) rfl ?_
    intro w11 S
    have SC := S.pick [true, true, true, false] rfl
    refine Hb.on SC ?_
    refine Hb.take (i := 9) SC (fun _ _ S B => S.call B) Pp.body rfl (by kernel_rfl) (by kernel_rfl) (by kernel_rfl) rfl rfl ?_
    refine qixa rfl rfl hcutS.2 e26 rfl rfl rfl rfl (fun _ => by rw [List.length_take, List.length_set]; omega) ?_
    refine Hb.back ?_
    refine Hb.one (i := 10) (by kernel_rfl) rfl rfl ?_
    intro w12 BD; have S := S.call BD
    refine stB (j := 11) (by rw [← heP]; rfl) rfl T5 S (i := 3) rfl (by (try simp only [List.length_set]); omega) rfl ?_
    intro w13 S
    have SC := S.pick [true, true, true, false] rfl
    refine Hb.on SC ?_
    refine Hb.done (by kernel_rfl) ?_
    intro w14 BD; have S := S.call BD
    refine Nrm.code ?_
    refine Run.seq ?_
    refine Run.region ?_
    refine asg1 rfl rfl ?_
    refine Ro.nil ?_
    refine Nrm.code ?_
    refine Run.ret ?_
    refine Rt.one rfl rfl ?_
    have he : hopE (bs.take n) = 0 := by unfold hopE; rw [if_neg (by omega), if_neg (by omega)]
    have hrow := hop_row (bs := bs) (n := n) hc.1 (by omega) he (hop_fix hbt hc2 (by omega))
    exact ⟨by first | (rw [he]; done) | (rw [he]; rfl), by rw [← hrow]; exact S.toTn (i := 3) rfl⟩
end Go.Proofs.YtkahmepenjhcpaaDoor.W
/- Contracts: options laid apart. No statement of the seat is proved here. -/
namespace Go.Proofs.YtkahmepenjhcpaaDoor.W
open Go
set_option linter.unusedSimpArgs false
set_option linter.unusedVariables false
abbrev oM (o : Opt) : List Int := o.data ++ marks
theorem BSs.snoc' {N : List Nat} {w : World} {vs : List Value} {ls : List (List Int)} {q : Value} {l : List Int} (h : BSs N w vs ls) (h2 : BS N w q l) : BSs N w (vs ++ [q]) (ls ++ [l]) := BSs.snoc h h2
theorem BS.cutM {N : List Nat} {w : World} {q : Value} {l : List Int} (h : BS N w q (l ++ marks)) : BS N w (W.cut q 0 l.length (capV q)) l := by
  have h2 := h.cut0 (n := l.length) (mx := capV q) (by have := h.cap; rw [List.length_append] at *; omega)
  rwa [take_marks'] at h2
theorem sub_base {N1 : List Nat} {L : List Own} {N : List Nat} (h : idsL L = N1) : ∀ i ∈ N1, i ∈ idsL L ++ N := fun i hi => List.mem_append_left _ (by rw [h]; exact hi)
set_option maxHeartbeats 1000000 in
theorem c146 (v : Value) (os : List Opt) (w : World) (hO : OS [] w v os) (hl : os.length ≤ 1099511627776) (hdl : ∀ o ∈ os, o.data.length ≤ 1099511627776) :
  CallsV Tryd.prog 146 #[v] w (fun r w' => ∃ u vw, r = .tuple #[u, vw] ∧ Bl w w' ∧ ∀ N, (∀ i ∈ N, i < w.heap.size) → OS N w' u (os ++ [⟨99, []⟩]) ∧ SS N w' vw (os.map oM)) := by
 refine enter Tryd.func146 rfl Tryd.ntmps146 (l := [(0, [], _)]) rfl rfl ?_
 have S := St.refl [] w
 obtain ⟨ds, hOS, hOB⟩ := hO
 refine Run.seq ?_
 refine Run.region ?_
 refine asg1 rfl rfl ?_
 refine asg1 rfl rfl ?_
 refine Ro.nil ?_
 refine Nrm.code ?_
 refine Run.seq ?_
 refine Run.region ?_
 refine asg1 rfl rfl ?_
 have S := S.nilO
 refine Ro.nil ?_
 refine Nrm.code ?_
 refine Run.seq ?_
 refine Run.region ?_
 refine asg1 rfl rfl ?_
 have S := S.nilS
 refine Ro.nil ?_
 refine Nrm.code ?_
 refine Run.seq ?_
 refine Run.seq ?_
 refine Run.region ?_
 refine asg1 rfl rfl ?_
 refine Ro.nil ?_
 refine Nrm.code ?_
 refine Run.block ?_
 refine Run.loop6 (fun (i : Nat) (u : Value) (acc : List Opt) (vs : List Value) (vw : Value) (vws : List Value) w_ => i ≤ os.length ∧ vs.length = acc.length ∧ acc = os.take i ∧ vws.length = i ∧ (∀ N, (∀ j ∈ N, j < w.heap.size) → OSs (idsL [oS vw vws, oO u acc vs] ++ N) w_ vs acc ∧ BSs (idsL [oS vw vws, oO u acc vs] ++ N) w_ vws ((os.take i).map oM)) ∧ St [] w [oS vw vws, oO u acc vs] w_) (fun (i : Nat) (u : Value) (acc : List Opt) (vs : List Value) (vw : Value) (vws : List Value) => [(0, [], v), (4, [], u), (5, [], vw), (6, [], .int .i64 i)]) (fun (i : Nat) (u : Value) (acc : List Opt) (vs : List Value) (vw : Value) (vws : List Value) => os.length - i) (0) (_) ([]) ([]) (_) ([]) ⟨Nat.zero_le _, rfl, rfl, rfl, fun _ _ => ⟨trivial, trivial⟩, S⟩ ⟨rfl, rfl, rfl, rfl, trivial⟩ ?_
 rintro i u acc vs vw vws w1 ⟨hi, hvl, hacc, hvwl, hvs, S⟩
 have hal : acc.length = i := by rw [hacc, List.length_take]; omega
 refine Run.seq ?_
 refine Run.seq ?_
 refine Run.region ?_
 refine mv1 rfl rfl ?_
 refine mv1 rfl rfl ?_
 refine lenS rfl hOS Tryd.underlying25 rfl rfl rfl ?_
 refine lss1 rfl rfl rfl ?_
 refine Ro.nil ?_
 refine Nrm.code ?_
 refine Run.cond rfl (fun hc4 => ?_) (fun hc4 => ?_)
 ·
  try simp only [Bool.or_eq_true, Bool.and_eq_true, Bool.or_eq_false_iff, Bool.and_eq_false_iff, decide_eq_true_eq, decide_eq_false_iff_not, Bool.not_eq_true', Bool.not_eq_false', Bool.not_eq_true, Bool.not_eq_false] at hc4
  refine Run.skip ?_
  refine Nrm.code ?_
  refine Run.seq ?_
  refine Run.block ?_
  refine Run.seq ?_
  refine Run.region ?_
  obtain ⟨p1, hp1, hb1⟩ := hOB.at (i := i) (by omega)
  have hil : i < os.length := by omega
  refine mv1 rfl rfl ?_
  refine mv1 rfl rfl ?_
  refine ixa rfl rfl hOS e25 rfl rfl rfl rfl (fun _ => by first | omega | (simp only [List.length_cons, List.length_nil]; omega)) ?_
  refine flE rfl hOS fo93_1 rfl rfl rfl (fun _ => hOB.lt (by omega)) ?_
  refine ldE rfl hOS S T26 rfl rfl rfl (fun _ => hOB.k1 (by omega) hp1) ?_
  have S0 := S
  refine call (vs := [_]) ⟨⟨_, _, rfl, rfl⟩, trivial⟩ k145 rfl (c145 _ _ _ (hb1.now S) (by have := hdl _ (getD_mem' (d := o0) (show i < os.length by omega)); omega)) ?_
  rintro q w2 hF
  have hqby : byt (oM (os.getD i o0)) := byt_app hb1.1 marks_byt
  have S := S.call hF.1
  have hq := hF.bs hqby S0.lt
  have hqN : ∀ N, (∀ j ∈ N, j < w.heap.size) → BS (idsL [oS vw vws, oO u acc vs] ++ N) w2 q (oM (os.getD i o0)) := fun N hN => hF.bs hqby (below_app S0 hN)
  have hvs := fun N hN => And.intro ((hvs N hN).1.bl hF.1) (BSs.bl hF.1 (hvs N hN).2)
  obtain ⟨N1, hN1, S_1⟩ := S.reb
  have hOS := hOS.st S; rw [hN1] at hOS
  have hOB := hOB.st S; rw [hN1] at hOB
  rw [hN1] at hq
  have SS := S
  have SL := S
  have S := S_1
  have hqc := hq.cutM
  refine asg1 rfl rfl ?_
  refine Ro.nil ?_
  refine Nrm.code ?_
  refine Run.seq ?_
  refine Run.region ?_
  refine mv1 rfl rfl ?_
  refine mv1 rfl rfl ?_
  refine apSF rfl e102 (qs := [(_, _)]) ⟨⟨_, _, _, rfl, rfl, cells1 hq.one, rfl, List.cons_ne_nil _ _⟩, trivial⟩ rfl hq.one S (i := 0) rfl rfl rfl (fun t e => by cases e; rfl) (fun _ => rfl) (by first | omega | (simp only [List.length_nil, List.length_append, List.length_cons]; omega)) ?_
  intro u_ vw2 w3 S B_
  refine asg1 rfl rfl ?_
  refine Ro.nil ?_
  refine Nrm.code ?_
  refine Run.held (by kernel_rfl) S [true, false] rfl rfl rfl ?_
  intro w4 BD S SC
  refine Ho.take (i := 0) SC Pp.body rfl (by kernel_rfl) (by kernel_rfl) (by kernel_rfl) rfl rfl ?_
  refine qmv rfl rfl rfl rfl ?_
  refine Ho.back ?_
  refine Ho.take (i := 1) SC Pp.body rfl (by kernel_rfl) (by kernel_rfl) (by kernel_rfl) rfl rfl ?_
  refine qmv rfl rfl rfl rfl ?_
  refine Ho.back ?_
  refine Ho.take (i := 2) SC Pp.body rfl (by kernel_rfl) (by kernel_rfl) (by kernel_rfl) rfl rfl ?_
  refine qmv rfl rfl rfl rfl ?_
  refine Ho.back ?_
  refine Ho.take (i := 3) SC Pp.body rfl (by kernel_rfl) (by kernel_rfl) (by kernel_rfl) rfl rfl ?_
  refine qixa rfl rfl hOS e25 rfl rfl rfl rfl (fun _ => by first | omega | (simp only [List.length_cons, List.length_nil]; omega)) ?_
  refine Ho.back ?_
  refine Ho.take (i := 4) SC Pp.body rfl (by kernel_rfl) (by kernel_rfl) (by kernel_rfl) rfl rfl ?_
  refine qflE rfl hOS fo93_0 rfl rfl rfl (fun _ => hOB.lt (by omega)) ?_
  refine Ho.back ?_
  refine Ho.take (i := 5) SC Pp.body rfl (by kernel_rfl) (by kernel_rfl) (by kernel_rfl) rfl rfl ?_
  refine qldE rfl hOS (fun _ S => S) T3 rfl rfl rfl (fun _ => hOB.k0 (by omega) hp1) ?_
  refine Ho.back ?_
  refine Ho.take (i := 6) SC Pp.body rfl (by kernel_rfl) (by kernel_rfl) (by kernel_rfl) rfl rfl ?_
  refine qmv rfl rfl rfl rfl ?_
  refine Ho.back ?_
  refine Ho.take (i := 7) SC Pp.body rfl (by kernel_rfl) (by kernel_rfl) (by kernel_rfl) rfl rfl ?_
  refine qmv rfl rfl rfl rfl ?_
  refine Ho.back ?_
  refine Ho.take (i := 8) SC Pp.body rfl (by kernel_rfl) (by kernel_rfl) (by kernel_rfl) rfl rfl ?_
  refine qmv rfl rfl rfl rfl ?_
  refine Ho.back ?_
  refine Ho.take (i := 9) SC Pp.body rfl (by kernel_rfl) (by kernel_rfl) (by kernel_rfl) rfl rfl ?_
  refine qixa rfl rfl hOS e25 rfl rfl rfl rfl (fun _ => by first | omega | (simp only [List.length_cons, List.length_nil]; omega)) ?_
  refine Ho.back ?_
  refine Ho.take (i := 10) SC Pp.body rfl (by kernel_rfl) (by kernel_rfl) (by kernel_rfl) rfl rfl ?_
  refine qflE rfl hOS fo93_1 rfl rfl rfl (fun _ => hOB.lt (by omega)) ?_
  refine Ho.back ?_
  refine Ho.take (i := 11) SC Pp.body rfl (by kernel_rfl) (by kernel_rfl) (by kernel_rfl) rfl rfl ?_
  refine qldE rfl hOS (fun _ S => S) T26 rfl rfl rfl (fun _ => hOB.k1 (by omega) hp1) ?_
  refine Ho.back ?_
  refine Ho.take (i := 12) SC Pp.body rfl (by kernel_rfl) (by kernel_rfl) (by kernel_rfl) rfl rfl ?_
  refine qlenS rfl hb1.2 Tryd.underlying26 rfl rfl rfl ?_
  refine Ho.back ?_
  refine Ho.take (i := 13) SC Pp.body rfl (by kernel_rfl) (by kernel_rfl) (by kernel_rfl) rfl rfl ?_
  refine qslC (lo := 0) (hi := (os.getD i o0).data.length) (mx := capV q) rfl hq e26 rfl rfl rfl (i1 := none) (i2 := some ((os.getD i o0).data.length)) (i3 := none) trivial ⟨_, _, _, rfl, rfl⟩ trivial rfl rfl rfl (fun h => by first | rfl | cases h) (fun _ => by have := hq.cap; rw [List.length_append] at *; omega) ?_
  refine Ho.back ?_
  refine Ho.take (i := 14) SC Pp.body rfl (by kernel_rfl) (by kernel_rfl) (by kernel_rfl) rfl rfl ?_
  refine qbld B93 (qs := [(_, _), (_, _)]) ⟨⟨_, _, _, rfl, rfl, rfl, rfl, by first | (simp [Value.cells]; done) | simp [Value.cells, encIP]⟩, ⟨_, _, _, rfl, rfl, cells1 hq.cutOne, rfl, List.cons_ne_nil _ _⟩, trivial⟩ rfl rfl rfl ?_
  refine Ho.back ?_
  refine Ho.one (i := 15) (by kernel_rfl) rfl rfl ?_
  refine bsl e25 (qs := [(_, _)]) ⟨⟨_, _, _, rfl, rfl, rfl, rfl, by first | (simp [Value.cells]; done) | simp [Value.cells, encIP]⟩, trivial⟩ rfl rfl rfl rfl S ?_
  intro u39 w5 S B_
  have SC := S.pick [false, true, false] rfl
  refine Ho.on SC ?_
  refine Ho.one (i := 16) (by kernel_rfl) rfl rfl ?_
  refine apO (i := 2) ((os.getD i o0).data) rfl rfl e25 (S.slI (i := 0) rfl) hqc.one hvl S rfl rfl (fun v' => rfl) (by omega) ?_
  intro u2 w6 S B_
  have SC := S.pick [false, true, false] rfl
  refine Ho.on SC ?_
  refine Ho.take (i := 17) SC Pp.body rfl (by kernel_rfl) (by kernel_rfl) (by kernel_rfl) rfl rfl ?_
  refine qasg rfl rfl rfl rfl ?_
  refine Ho.back ?_
  refine Ho.done (by kernel_rfl) ?_
  refine Nrm.blk ?_
  refine Nrm.code ?_
  refine Run.region ?_
  refine mv1 rfl rfl ?_
  refine add1 rfl rfl rfl (w64 (by omega)) ?_
  refine asg1 rfl rfl ?_
  refine Ro.nil ?_
  refine Nrm.loop6 (i + 1) (_) (_) (_) (_) (_) ⟨by omega, by simp [hvl], by rw [take_succ_getD (show i < os.length by omega) (d := o0), hacc], by simp [hvwl],
   fun N hN => ⟨((OSs.stN (sub_base hN1) S.drop0 (hvs N hN).1).snoc ((hqN N hN).cutM.stN (sub_base hN1) S.drop0)).weak mid_drop', by rw [take_succ_getD (show i < os.length by omega) (d := o0), List.map_append]; exact ((BSs.stN (sub_base hN1) S.drop0 (hvs N hN).2).snoc' ((hqN N hN).stN (sub_base hN1) S.drop0)).weak mid_drop'⟩, SL.tran hN1 S.drop0⟩ (by omega) ⟨rfl, rfl, rfl, rfl, trivial⟩
 ·
  try simp only [Bool.or_eq_true, Bool.and_eq_true, Bool.or_eq_false_iff, Bool.and_eq_false_iff, decide_eq_true_eq, decide_eq_false_iff_not, Bool.not_eq_true', Bool.not_eq_false', Bool.not_eq_true, Bool.not_eq_false] at hc4
  refine Run.exit ?_
  refine Lv.code ?_
  refine Lv.back ?_
  refine Lv.hit ?_
  refine Nrm.code ?_
  refine Run.seq ?_
  refine Run.region ?_
  have e : i = os.length := by omega
  subst e
  rw [List.take_length] at hacc
  rw [List.take_length] at hvs
  subst hacc
  obtain ⟨N2, hN2, S_2⟩ := S.reb
  have hOS := hOS.st S; rw [hN2] at hOS
  have hOB := hOB.st S; rw [hN2] at hOB
  have SS := S
  have S := S_2
  refine mv1 rfl rfl ?_
  refine bld B93 (qs := [(_, _)]) ⟨⟨_, _, _, rfl, rfl, rfl, rfl, by first | (simp [Value.cells]; done) | simp [Value.cells, encIP]⟩, trivial⟩ rfl rfl rfl ?_
  refine apOF (dt := []) rfl e25 (qs := [(_, _)]) ⟨⟨_, _, _, rfl, rfl, rfl, rfl, by first | (simp [Value.cells]; done) | simp [Value.cells, encIP]⟩, trivial⟩ rfl rfl hvl S (i := 1) rfl rfl rfl (fun t e => by cases e; rfl) (fun _ => rfl) (by first | omega | (simp only [List.length_nil, List.length_append, List.length_cons]; omega)) ?_
  intro u_ u9 w2 S B_
  refine asg1 rfl rfl ?_
  refine Ro.nil ?_
  refine Nrm.code ?_
  refine Run.seq ?_
  refine Run.region ?_
  refine mv1 rfl rfl ?_
  refine mv1 rfl rfl ?_
  refine asg1 rfl rfl ?_
  refine asg1 rfl rfl ?_
  refine Ro.nil ?_
  refine Nrm.code ?_
  refine Run.ret ?_
  refine Rt.two rfl rfl rfl ?_
  exact ⟨u9, vw, rfl, (SS.tran hN2 S).bl, fun N hN => ⟨⟨vs ++ [.slice none 0 0], Own.sl (S.hold_at (i := 1) rfl) N (fun j hj hn => by have h1 := (SS.tran hN2 S).fresh (i := 1) rfl j hj; have h2 := hN j hn; omega), OSs.snoc (o := ⟨99, []⟩) (BSs.weak (fun j hj => List.mem_append_right _ (List.mem_append_right _ hj)) (OSs.stN (sub_base hN2) S (hvs N hN).1)) (BS.nil _ _)⟩, ⟨vws, by rw [List.length_map, ← hvwl]; exact Own.sl (S.hold_at (i := 0) rfl) N (fun j hj hn => by have h1 := (SS.tran hN2 S).fresh (i := 0) rfl j hj; have h2 := hN j hn; omega), BSs.weak (fun j hj => List.mem_append_right _ (List.mem_append_right _ hj)) (BSs.stN (sub_base hN2) S (hvs N hN).2)⟩⟩⟩
set_option maxHeartbeats 1000000 in
theorem c149 (v vw u : Value) (ls : List Opt) (w : World) (hM : OS [] w v (ls ++ [⟨99, []⟩])) (hW : SS [] w vw (ls.map oM)) (hO : OS [] w u ls) (hl : ls.length ≤ 1099511627776) (hdl : ∀ o ∈ ls, o.data.length ≤ 1099511627776) :
  CallsD Tryd.prog 149 #[v, vw, u] w (.bool true) := by
 refine enter Tryd.func149 rfl Tryd.ntmps149 (l := [(0, [], _), (1, [], _), (2, [], _)]) rfl rfl ?_
 have S := St.refl [] w
 obtain ⟨ms, hMS, hMB⟩ := hM
 obtain ⟨ws, hWS, hWB⟩ := hW
 obtain ⟨ds, hOS, hOB⟩ := hO
 obtain ⟨pm, hpm, hbm⟩ := hMB.at (i := ls.length) (by simp)
 have hk : ((ls ++ [(⟨99, []⟩ : Opt)]).getD ls.length o0).kind = 99 := by simp [List.getD_eq_getElem?_getD]
 have hml : (ls ++ [(⟨99, []⟩ : Opt)]).length = ls.length + 1 := by simp
 have htk : (ls ++ [(⟨99, []⟩ : Opt)]).take ls.length = ls := by simp
 refine Run.seq ?_
 refine Run.region ?_
 refine asg1 rfl rfl ?_
 refine Ro.nil ?_
 refine Nrm.code ?_
 refine Run.seq ?_
 refine Run.region ?_
 refine mv1 rfl rfl ?_
 refine lenS rfl hOS Tryd.underlying25 rfl rfl rfl ?_
 refine asg1 rfl rfl ?_
 refine Ro.nil ?_
 refine Nrm.code ?_
 refine Run.seq ?_
 refine Run.seq ?_
 refine Run.region ?_
 refine mv1 rfl rfl ?_
 refine lenS rfl hMS Tryd.underlying25 rfl rfl rfl ?_
 refine mv1 rfl rfl ?_
 refine add1 rfl rfl rfl (w64 (by omega)) ?_
 refine neq1 rfl rfl rfl ?_
 refine mv1 rfl rfl ?_
 refine mv rfl rfl rfl rfl ?_
 refine mv rfl rfl rfl rfl ?_
 refine ixa rfl rfl hMS e25 rfl rfl rfl rfl (fun _ => by rw [hml]; omega) ?_
 refine flE rfl hMS fo93_0 rfl rfl rfl (fun hG => by first | exact hMB.lt (by simp) | (simp [allT] at hG; exact hMB.lt (by simp))) ?_
 refine ldE rfl hMS S T3 rfl rfl rfl (fun hG => by first | exact hMB.k0 (by simp) hpm | (simp [allT] at hG; exact hMB.k0 (by simp) hpm)) ?_
 refine neq rfl rfl rfl rfl rfl rfl ?_
 refine pkO rfl rfl rfl rfl rfl rfl ?_
 refine mv1 rfl rfl ?_
 refine mv rfl rfl rfl rfl ?_
 refine mv rfl rfl rfl rfl ?_
 refine slS (lo := 0) (hi := ls.length) (mx := capV v) rfl hMS e25 rfl rfl rfl (i1 := none) (i2 := some ls.length) (i3 := none) trivial ⟨_, _, _, rfl, rfl⟩ trivial rfl rfl rfl (fun h => by first | rfl | cases h) (fun _ => by have := hMS.cap; rw [List.length_append] at *; omega) ?_
 intro vc hvc
 refine mv rfl rfl rfl rfl ?_
 refine calg (vs := [_, _]) rfl ⟨⟨_, _, rfl, rfl⟩, ⟨_, _, rfl, rfl⟩, trivial⟩ k46 rfl (fun hG => by have h46 := c46 _ _ _ _ _ ((OS.take hMB hMB.len (by rw [hml]; omega) (hvc hG).1).now S) (OS.now ⟨ds, hOS, hOB⟩ S) (by rw [htk]; exact hl); rw [htk, sameOs_iff.2 rfl] at h46; exact h46) ?_
 intro w1 B_; have S := S.call B_
 refine nt rfl rfl rfl rfl ?_
 refine pkO rfl rfl rfl rfl rfl rfl ?_
 refine Ro.nil ?_
 refine Nrm.code ?_
 refine Run.cond rfl (fun hc2 => ?_) (fun hc2 => ?_)
 ·
  try simp only [Bool.or_eq_true, Bool.and_eq_true, Bool.or_eq_false_iff, Bool.and_eq_false_iff, decide_eq_true_eq, decide_eq_false_iff_not, Bool.not_eq_true', Bool.not_eq_false', Bool.not_eq_true, Bool.not_eq_false] at hc2
  exfalso; (rcases hc2 with (h | h) | h <;> first | (exact h (by rw [hml]; omega)) | (exact h hk) | (simp at h))
 ·
  try simp only [Bool.or_eq_true, Bool.and_eq_true, Bool.or_eq_false_iff, Bool.and_eq_false_iff, decide_eq_true_eq, decide_eq_false_iff_not, Bool.not_eq_true', Bool.not_eq_false', Bool.not_eq_true, Bool.not_eq_false] at hc2
  refine Run.skip ?_
  refine Nrm.code ?_
  refine Run.seq ?_
  refine Run.seq ?_
  refine Run.region ?_
  refine asg1 rfl rfl ?_
  refine Ro.nil ?_
  refine Nrm.code ?_
  refine Run.block ?_
  refine Run.loop1 (fun (i : Nat) w_ => i ≤ ls.length ∧ St [] w [] w_) (fun (i : Nat) => [(1, [], vw), (2, [], u), (7, [], .int .i64 ls.length), (8, [], .int .i64 i)]) (fun (i : Nat) => ls.length - i) (0) ⟨Nat.zero_le _, S⟩ ⟨rfl, rfl, rfl, rfl, trivial⟩ ?_
  rintro i w2 ⟨hi, S⟩
  refine Run.seq ?_
  refine Run.seq ?_
  refine Run.region ?_
  refine mv1 rfl rfl ?_
  refine mv1 rfl rfl ?_
  refine lss1 rfl rfl rfl ?_
  refine Ro.nil ?_
  refine Nrm.code ?_
  refine Run.cond rfl (fun hc5 => ?_) (fun hc5 => ?_)
  ·
   try simp only [Bool.or_eq_true, Bool.and_eq_true, Bool.or_eq_false_iff, Bool.and_eq_false_iff, decide_eq_true_eq, decide_eq_false_iff_not, Bool.not_eq_true', Bool.not_eq_false', Bool.not_eq_true, Bool.not_eq_false] at hc5
   refine Run.skip ?_
   refine Nrm.code ?_
   refine Run.seq ?_
   refine Run.block ?_
   refine Run.seq ?_
   refine Run.draw (by kernel_rfl) (by kernel_rfl) S ?_
   obtain ⟨pw, hpw, hbw⟩ := hWB.at (i := i) (by rw [List.length_map]; omega)
   obtain ⟨pl, hpl, hbl⟩ := hOB.at (i := i) (by omega)
   rw [show (ls.map oM).getD i [] = (ls.getD i o0).data ++ marks from by simp [List.getD_eq_getElem?_getD, List.getElem?_map, List.getElem?_eq_getElem (show i < ls.length by omega)]] at hbw
   refine qmv rfl rfl rfl rfl ?_
   refine qmv rfl rfl rfl rfl ?_
   refine qixa rfl rfl hWS e102 rfl rfl rfl rfl (fun _ => by rw [List.length_map]; omega) ?_
   refine qldE rfl hWS (fun _ S => S) T26 rfl rfl rfl (fun _ => by simpa using hpw) ?_
   refine qmv rfl rfl rfl rfl ?_
   refine qmv rfl rfl rfl rfl ?_
   refine qixa rfl rfl hOS e25 rfl rfl rfl rfl (fun _ => by first | omega | (simp only [List.length_cons, List.length_nil]; omega)) ?_
   refine qflE rfl hOS fo93_1 rfl rfl rfl (fun _ => hOB.lt (by omega)) ?_
   refine qldE rfl hOS (fun _ S => S) T26 rfl rfl rfl (fun _ => hOB.k1 (by omega) hpl) ?_
   refine qcal (vs := [_, _]) rfl ⟨⟨_, _, rfl, rfl⟩, ⟨_, _, rfl, rfl⟩, trivial⟩ k148 rfl (fun _ _ S B => S.call B) (fun hG w_ S => c148 _ _ _ _ _ (hbw.now S) (hbl.now S) (by have := hdl _ (getD_mem' (d := o0) (show i < ls.length by omega)); omega)) ?_
   refine qasg rfl rfl rfl rfl ?_
   refine Qo.nil (fun w3 S => ?_)
   refine Nrm.code ?_
   refine Run.seq ?_
   refine Run.region ?_
   refine mv1 rfl rfl ?_
   refine nt1 rfl rfl ?_
   refine Ro.nil ?_
   refine Nrm.code ?_
   refine Run.cond rfl (fun hc8 => ?_) (fun hc8 => ?_)
   ·
    try simp only [Bool.or_eq_true, Bool.and_eq_true, Bool.or_eq_false_iff, Bool.and_eq_false_iff, decide_eq_true_eq, decide_eq_false_iff_not, Bool.not_eq_true', Bool.not_eq_false', Bool.not_eq_true, Bool.not_eq_false] at hc8
    exfalso; simp at hc8
   ·
    try simp only [Bool.or_eq_true, Bool.and_eq_true, Bool.or_eq_false_iff, Bool.and_eq_false_iff, decide_eq_true_eq, decide_eq_false_iff_not, Bool.not_eq_true', Bool.not_eq_false', Bool.not_eq_true, Bool.not_eq_false] at hc8
    refine Run.skip ?_
    refine Nrm.blk ?_
    refine Nrm.code ?_
    refine Run.region ?_
    refine mv1 rfl rfl ?_
    refine add1 rfl rfl rfl (w64 (by omega)) ?_
    refine asg1 rfl rfl ?_
    refine Ro.nil ?_
    refine Nrm.loop1 (i + 1) ⟨by omega, S⟩ (by omega) ⟨rfl, rfl, rfl, rfl, trivial⟩
  ·
   try simp only [Bool.or_eq_true, Bool.and_eq_true, Bool.or_eq_false_iff, Bool.and_eq_false_iff, decide_eq_true_eq, decide_eq_false_iff_not, Bool.not_eq_true', Bool.not_eq_false', Bool.not_eq_true, Bool.not_eq_false] at hc5
   refine Run.exit ?_
   refine Lv.code ?_
   refine Lv.back ?_
   refine Lv.hit ?_
   refine Nrm.code ?_
   refine Run.seq ?_
   refine Run.region ?_
   refine asg1 rfl rfl ?_
   refine Ro.nil ?_
   refine Nrm.code ?_
   refine Run.ret ?_
   refine Rt.one rfl rfl ?_
   exact ⟨rfl, S.bl⟩
end Go.Proofs.YtkahmepenjhcpaaDoor.W
/- Contracts: the calls of layer 6 over bytes. No statement of the seat is proved here. -/
namespace Go.Proofs.YtkahmepenjhcpaaDoor.W
open Go
set_option linter.unusedSimpArgs false
set_option linter.unusedVariables false
theorem GV.stI {N0 : List Nat} {w0 w : World} {L : List Own} {o : Own} {i g : Nat} {T : TypeId} {c : List Value} (h : GV N0 w0 g T c) (S : St N0 w0 L w) (hk : getN L i = some o) : GV o.ids w g T c := Rd.weak (h.st S) (ids_sub hk)
theorem sameB_refl (x : IP) : sameB x x = true := sameB_iff.2 ⟨rfl, fun _ _ => rfl⟩
theorem sameOs_refl (l : List Opt) : sameOs l l = true := sameOs_iff.2 rfl
theorem sameH_refl (h : Ip4) : sameH h h = true := by simp [sameH, diffH, sameB_refl, sameOs_refl]
theorem hopE_zero {b : List Int} (h : hopE b = 0) : parE b = 0 ∧ 2 ≤ b.getD 8 0 := by
  unfold hopE at h
  by_cases h1 : parE b ≠ 0
  · rw [if_pos h1] at h; omega
  rw [if_neg h1] at h
  by_cases h2 : b.getD 8 0 < 2
  · rw [if_pos h2] at h; omega
  exact ⟨by omega, by omega⟩
theorem hopE_bd (b : List Int) : 0 ≤ hopE b ∧ hopE b ≤ 67 := by
  have := parE_bd b
  unfold hopE; (repeat' split) <;> omega
theorem hopB_byt {b : List Int} (h : byt b) : byt (hopB b) := by
  unfold hopB
  split
  · rename_i he
    have h2 := hopM_byt h (hopE_zero he).2
    have h3 := hopC_bd h2
    exact byt_set (byt_set h2 _ (by omega)) _ (by omega)
  · exact h
theorem hopB_len (b : List Int) : (hopB b).length = b.length := by
  unfold hopB; split
  · simp [hopW, hopM]
  · rfl
theorem c40w (v : Value) (b : List Int) (w : World) (hv : (oB v (b ++ marks)).holds w) (hb : byt b) (hl : b.length ≤ 1099511627000) (hg : GV (oB v (b ++ marks)).ids w 0 130 (W4.map i64)) :
  CallsV Tryd.prog 40 #[cut v 0 b.length (capV v)] w (fun r w' => r = .int .i64 (hopE b) ∧ Tn w w' (oB v (b ++ marks)) (oB v (hopB b ++ marks))) := by
 have hc := own_cap hv
 have h1 := c40 v (b ++ marks) b.length (capV v) w hv (byt_app hb marks_byt) ⟨by simp, by simp at hc; omega, Nat.le_refl _⟩ (by simp; omega) hg
 rw [take_marks', List.drop_left] at h1
 exact h1
structure Op6 where
  kind : Int
  b : List Int
  h : Ip4
  l : List Opt
def encOp6 (p : Op6) (vB o d vL : Value) : List Value := [i64 p.kind, vB] ++ (encIp4 p.h o d ++ [vL])
set_option maxHeartbeats 1000000 in
theorem c107 (p : Op6) (vB o d vL : Value) (w : World) (hB : BS [] w vB p.b) (hl : p.b.length ≤ 1099511627000) (hg : GV [] w 0 130 (W4.map i64)) :
  CallsD Tryd.prog 107 #[.agg (encOp6 p vB o d vL).toArray] w (.bool true) := by
 refine enter Tryd.func107 rfl Tryd.ntmps107 (l := [(0, [], _)]) rfl rfl ?_
 have S := St.refl [] w
 have hpk := parH_ok hB.1
 have hpe := parE_bd p.b
 have hoe := optE_le p.b
 have hhe := hopE_bd p.b
 refine Run.seq ?_
 refine Run.region ?_
 refine boxA rfl S rfl ?_
 intro b1 w1 hb1 S B_
 refine asg1 rfl rfl ?_
 refine Ro.nil ?_
 refine Nrm.code ?_
 refine Run.seq ?_
 refine Run.region ?_
 refine fld (o' := 1) rfl fo144_1 rfl rfl rfl rfl ?_
 refine ld1 rfl T26 S (i := 0) rfl rfl rfl rfl rfl ?_
 refine call (vs := [_]) ⟨⟨_, _, rfl, rfl⟩, trivial⟩ k145 rfl (c145 _ _ _ (hB.now S) (by omega)) ?_
 rintro u3 w2 hF
 have S := S.fb hF
 have hby_u3 : byt (p.b ++ marks) := byt_app hB.1 marks_byt
 refine asg1 rfl rfl ?_
 refine Ro.nil ?_
 refine Nrm.code ?_
 refine Run.seq ?_
 refine Run.region ?_
 refine mv1 rfl rfl ?_
 refine fld (o' := 1) rfl fo144_1 rfl rfl rfl rfl ?_
 refine ld1 rfl T26 S (i := 1) rfl rfl rfl rfl rfl ?_
 refine lenS rfl hB.2 Tryd.underlying26 rfl rfl rfl ?_
 have hr3 := S.bsI (i := 0) rfl hby_u3
 refine slC (lo := 0) (hi := p.b.length) (mx := capV u3) rfl hr3 e26 rfl rfl rfl (i1 := none) (i2 := some p.b.length) (i3 := none) trivial ⟨_, _, _, rfl, rfl⟩ trivial rfl rfl rfl (fun h => by first | rfl | cases h) (fun _ => by have := hr3.cap; rw [List.length_append] at *; omega) ?_
 refine asg1 rfl rfl ?_
 refine Ro.nil ?_
 refine Nrm.code ?_
 refine Run.seq ?_
 refine Run.region ?_
 refine asg1 rfl rfl ?_
 refine Ro.nil ?_
 refine Nrm.code ?_
 refine Run.seq ?_
 refine Run.seq ?_
 refine Run.region ?_
 refine fld (o' := 0) rfl fo144_0 rfl rfl rfl rfl ?_
 refine ld1 rfl T3 S (i := 1) rfl rfl rfl rfl rfl ?_
 refine Ro.nil ?_
 refine Nrm.code ?_
 refine Run.block ?_
 refine Run.seq ?_
 refine Run.region ?_
 refine eql1 rfl rfl rfl ?_
 refine asg1 rfl rfl ?_
 refine Ro.nil ?_
 refine Nrm.code ?_
 refine Run.cond rfl (fun hc5 => ?_) (fun hc5 => ?_)
 ·
  try simp only [Bool.or_eq_true, Bool.and_eq_true, Bool.or_eq_false_iff, Bool.and_eq_false_iff, decide_eq_true_eq, decide_eq_false_iff_not, Bool.not_eq_true', Bool.not_eq_false', Bool.not_eq_true, Bool.not_eq_false] at hc5
  obtain ⟨hu3, S⟩ := S.layBI (i := 0) rfl rfl hby_u3
  obtain ⟨N1, hN1, S_1⟩ := S.reb
  have hB := hB.st S; rw [hN1] at hB
  have hg := hg.st S; rw [hN1] at hg
  rw [hN1] at hu3
  have SS := S
  have S := S_1
  have hc4 := hu3.cutM
  refine Run.seq ?_
  refine Run.region ?_
  refine mv1 rfl rfl ?_
  refine call (vs := [_]) ⟨⟨_, _, rfl, rfl⟩, trivial⟩ k33 rfl (c33 _ _ _ (hc4.now S) (hg.now S)) ?_
  rintro _ w3 ⟨o6, d6, vs6, rfl, hF, hw6⟩
  have S := S.fo hF
  have hd6 := (hw6 _ _ hc4).2
  have ho6 := (hw6 _ _ hc4).1
  refine mv1 rfl rfl ?_
  refine extr1 rfl rfl rfl ?_
  refine extr1 rfl rfl rfl ?_
  refine alc T28 S rfl ?_
  intro b6 w4 hb6 S B_
  refine stW rfl rfl T28 rfl rfl (one_cons rfl (one_cons rfl (one_cons rfl (one_cons rfl (one_cons rfl (one_cons rfl (one_cons rfl (one_cons rfl (one_cons rfl (one_cons rfl (one_cons rfl (one_cons rfl (one_cons rfl (one_cons rfl (one_cons rfl (one_cons rfl (one_cons rfl (one_cons rfl (one_cons rfl (one_cons rfl (one_cons rfl (one_cons rfl (one_cons rfl (one_cons rfl (one_cons rfl (one_cons rfl (one_cons rfl (one_cons rfl (one_cons rfl (one_cons rfl (one_cons rfl (one_cons rfl (one_cons rfl (one_cons rfl (one_cons rfl (one_cons rfl (one_cons rfl (one_cons rfl (one_cons rfl (one_cons rfl (one_cons rfl (one_cons (S.slI (i := 1) rfl).one (one_cons hd6.one one_nil))))))))))))))))))))))))))))))))))))))))))) S (i := 0) rfl rfl ?_
  intro w5 S
  refine asg1 rfl rfl ?_
  refine Ro.nil ?_
  refine Nrm.code ?_
  refine Run.seq ?_
  refine Run.region ?_
  refine fld (o' := 1) rfl fo144_1 rfl rfl rfl rfl ?_
  refine ld1 rfl T26 S (i := 2) rfl rfl rfl rfl rfl ?_
  have S0 := S
  refine call (vs := [_]) ⟨⟨_, _, rfl, rfl⟩, trivial⟩ k42 rfl (c42 _ _ _ (hB.now S)) ?_
  rintro _ w6 ⟨o8, d8, rfl, hFH⟩
  have S := S.call hFH.1
  have ho8 := (hFH.2 _ S0.lt).1
  have hd8 := (hFH.2 _ S0.lt).2
  obtain ⟨N2, hN2, S_2⟩ := S.reb
  have hB := hB.st S; rw [hN2] at hB
  have hg := hg.st S; rw [hN2] at hg
  have hu3 := hu3.st S; rw [hN2] at hu3
  have hc4 := hc4.st S; rw [hN2] at hc4
  have hd6 := hd6.st S; rw [hN2] at hd6
  have ho6 := ho6.st S; rw [hN2] at ho6
  rw [hN2] at ho8
  rw [hN2] at hd8
  have SS := SS.tran hN1 S
  have S := S_2
  refine mv1 rfl rfl ?_
  refine extr1 rfl rfl rfl ?_
  refine extr1 rfl rfl rfl ?_
  refine alc T28 S rfl ?_
  intro b8 w7 hb8 S B_
  refine stW rfl rfl T28 rfl rfl (one_cons rfl (one_cons rfl (one_cons rfl (one_cons rfl (one_cons rfl (one_cons rfl (one_cons rfl (one_cons rfl (one_cons rfl (one_cons rfl (one_cons rfl (one_cons rfl (one_cons rfl (one_cons rfl (one_cons rfl (one_cons rfl (one_cons rfl (one_cons rfl (one_cons rfl (one_cons rfl (one_cons rfl (one_cons rfl (one_cons rfl (one_cons rfl (one_cons rfl (one_cons rfl (one_cons rfl (one_cons rfl (one_cons rfl (one_cons rfl (one_cons rfl (one_cons rfl (one_cons rfl (one_cons rfl (one_cons rfl (one_cons rfl (one_cons rfl (one_cons rfl (one_cons rfl (one_cons rfl (one_cons rfl (one_cons ho8.one (one_cons hd8.one one_nil))))))))))))))))))))))))))))))))))))))))))) S (i := 0) rfl rfl ?_
  intro w8 S
  refine asg1 rfl rfl ?_
  refine Ro.nil ?_
  refine Nrm.code ?_
  refine Run.region ?_
  refine mv1 rfl rfl ?_
  refine calg (vs := [_]) rfl ⟨⟨_, _, rfl, rfl⟩, trivial⟩ k31 rfl (fun hG => c31 _ _ (by omega)) ?_
  intro w9 B_; have S := S.call B_
  refine mv1 rfl rfl ?_
  refine eql1 rfl rfl rfl ?_
  refine mv1 rfl rfl ?_
  refine ldW rfl T28 S (i := 1) rfl rfl rfl rfl rfl ?_
  refine ldW rfl T28 S (i := 0) rfl rfl rfl rfl rfl ?_
  refine calg (vs := [_, _]) rfl ⟨⟨_, _, rfl, rfl⟩, ⟨_, _, rfl, rfl⟩, trivial⟩ k34 rfl (fun hG => c34 _ _ _ _ _ _ _ (S.osI (i := 2) rfl (ho6.now S)) (hd6.now S) (ho8.now S) (hd8.now S) (by have := hpk.2.2.1; omega)) ?_
  intro w10 B_; have S := S.call B_
  refine pkA rfl rfl rfl rfl rfl rfl ?_
  refine asg1 rfl rfl ?_
  refine Ro.nil ?_
  refine Nrm.blk ?_
  refine Nrm.code ?_
  refine Run.seq ?_
  refine Run.region ?_
  refine mv1 rfl rfl ?_
  refine mv1 rfl rfl ?_
  refine mv rfl rfl rfl rfl ?_
  refine fld (o' := 1) rfl fo144_1 rfl rfl rfl rfl ?_
  refine ld1 rfl T26 S (i := 3) rfl rfl rfl rfl rfl ?_
  refine calg (vs := [_, _]) rfl ⟨⟨_, _, rfl, rfl⟩, ⟨_, _, rfl, rfl⟩, trivial⟩ k148 rfl (fun hG => c148 _ _ _ _ _ (hu3.now S) (hB.now S) (by omega)) ?_
  intro w11 B_; have S := S.call B_
  refine pkA rfl rfl rfl rfl rfl rfl ?_
  refine asg1 rfl rfl ?_
  refine Ro.nil ?_
  refine Nrm.code ?_
  refine Run.ret ?_
  refine Rt.one rfl rfl ?_
  exact ⟨by simp [sameH_refl, sameOs_refl], (SS.tran hN2 S).bl⟩
 ·
  try simp only [Bool.or_eq_true, Bool.and_eq_true, Bool.or_eq_false_iff, Bool.and_eq_false_iff, decide_eq_true_eq, decide_eq_false_iff_not, Bool.not_eq_true', Bool.not_eq_false', Bool.not_eq_true, Bool.not_eq_false] at hc5
  refine Run.seq ?_
  refine Run.region ?_
  refine eql1 rfl rfl rfl ?_
  refine asg1 rfl rfl ?_
  refine Ro.nil ?_
  refine Nrm.code ?_
  refine Run.cond rfl (fun hc9 => ?_) (fun hc9 => ?_)
  ·
   try simp only [Bool.or_eq_true, Bool.and_eq_true, Bool.or_eq_false_iff, Bool.and_eq_false_iff, decide_eq_true_eq, decide_eq_false_iff_not, Bool.not_eq_true', Bool.not_eq_false', Bool.not_eq_true, Bool.not_eq_false] at hc9
   obtain ⟨hu3, S⟩ := S.layBI (i := 0) rfl rfl hby_u3
   obtain ⟨N3, hN3, S_3⟩ := S.reb
   have hB := hB.st S; rw [hN3] at hB
   have hg := hg.st S; rw [hN3] at hg
   rw [hN3] at hu3
   have SS := S
   have S := S_3
   have hc4 := hu3.cutM
   refine Run.draw (by kernel_rfl) (by kernel_rfl) S ?_
   refine qmv rfl rfl rfl rfl ?_
   refine qcal (vs := [_]) rfl ⟨⟨_, _, rfl, rfl⟩, trivial⟩ k35 rfl (fun _ _ S B => S.call B) (fun hG w_ S => c35 _ _ _ (hc4.now S) (hg.now S)) ?_
   refine qfld (o' := 1) rfl fo144_1 rfl rfl rfl rfl ?_
   refine qld1 rfl T26 (fun _ S => S) (i := 0) rfl rfl rfl rfl rfl ?_
   refine qcal (vs := [_]) rfl ⟨⟨_, _, rfl, rfl⟩, trivial⟩ k43 rfl (fun _ _ S B => S.call B) (fun hG w_ S => c43 _ _ _ (hB.now S)) ?_
   refine qeqB rfl rfl Tryd.underlying4 rfl rfl rfl rfl ?_
   refine qasg rfl rfl rfl rfl ?_
   refine Qo.nil (fun w3 S => ?_)
   refine Nrm.blk ?_
   refine Nrm.code ?_
   refine Run.seq ?_
   refine Run.region ?_
   refine mv1 rfl rfl ?_
   refine mv1 rfl rfl ?_
   refine mv rfl rfl rfl rfl ?_
   refine fld (o' := 1) rfl fo144_1 rfl rfl rfl rfl ?_
   refine ld1 rfl T26 S (i := 0) rfl rfl rfl rfl rfl ?_
   refine calg (vs := [_, _]) rfl ⟨⟨_, _, rfl, rfl⟩, ⟨_, _, rfl, rfl⟩, trivial⟩ k148 rfl (fun hG => c148 _ _ _ _ _ (hu3.now S) (hB.now S) (by omega)) ?_
   intro w4 B_; have S := S.call B_
   refine pkA rfl rfl rfl rfl rfl rfl ?_
   refine asg1 rfl rfl ?_
   refine Ro.nil ?_
   refine Nrm.code ?_
   refine Run.ret ?_
   refine Rt.one rfl rfl ?_
   exact ⟨by simp [sameH_refl, sameOs_refl], (SS.tran hN3 S).bl⟩
  ·
   try simp only [Bool.or_eq_true, Bool.and_eq_true, Bool.or_eq_false_iff, Bool.and_eq_false_iff, decide_eq_true_eq, decide_eq_false_iff_not, Bool.not_eq_true', Bool.not_eq_false', Bool.not_eq_true, Bool.not_eq_false] at hc9
   refine Run.seq ?_
   refine Run.region ?_
   refine eql1 rfl rfl rfl ?_
   refine asg1 rfl rfl ?_
   refine Ro.nil ?_
   refine Nrm.code ?_
   refine Run.cond rfl (fun hc11 => ?_) (fun hc11 => ?_)
   ·
    try simp only [Bool.or_eq_true, Bool.and_eq_true, Bool.or_eq_false_iff, Bool.and_eq_false_iff, decide_eq_true_eq, decide_eq_false_iff_not, Bool.not_eq_true', Bool.not_eq_false', Bool.not_eq_true, Bool.not_eq_false] at hc11
    obtain ⟨hu3, S⟩ := S.layBI (i := 0) rfl rfl hby_u3
    obtain ⟨N4, hN4, S_4⟩ := S.reb
    have hB := hB.st S; rw [hN4] at hB
    have hg := hg.st S; rw [hN4] at hg
    rw [hN4] at hu3
    have SS := S
    have S := S_4
    have hc4 := hu3.cutM
    refine Run.seq ?_
    refine Run.region ?_
    refine mv1 rfl rfl ?_
    refine call (vs := [_]) ⟨⟨_, _, rfl, rfl⟩, trivial⟩ k44 rfl (c44 _ _ _ (hc4.now S)) ?_
    rintro _ w3 ⟨u10, vs, rfl, hF, hwin⟩
    have S := S.fo hF
    have ho10 := hwin _ _ hc4
    refine mv1 rfl rfl ?_
    refine extr1 rfl rfl rfl ?_
    refine extr1 rfl rfl rfl ?_
    refine asg1 rfl rfl ?_
    refine asg1 rfl rfl ?_
    refine Ro.nil ?_
    refine Nrm.code ?_
    refine Run.seq ?_
    refine Run.region ?_
    refine fld (o' := 1) rfl fo144_1 rfl rfl rfl rfl ?_
    refine ld1 rfl T26 S (i := 1) rfl rfl rfl rfl rfl ?_
    have S0 := S
    have SS0 := (SS.tran hN4 S)
    refine call (vs := [_]) ⟨⟨_, _, rfl, rfl⟩, trivial⟩ k45 rfl (c45 _ _ _ (hB.now S)) ?_
    rintro _ w4 ⟨o12, rfl, hFO⟩
    have S := S.call hFO.1
    have ho12 := hFO.2 _ S0.lt
    have ho12F := hFO.2 _ SS0.ltR
    obtain ⟨N5, hN5, S_5⟩ := S.reb
    have hB := hB.st S; rw [hN5] at hB
    have hg := hg.st S; rw [hN5] at hg
    have hu3 := hu3.st S; rw [hN5] at hu3
    have hc4 := hc4.st S; rw [hN5] at hc4
    have ho10 := ho10.st S; rw [hN5] at ho10
    rw [hN5] at ho12
    rw [hN5] at ho12F
    have SS := SS.tran hN4 S
    have S := S_5
    refine mv1 rfl rfl ?_
    refine extr1 rfl rfl rfl ?_
    refine extr1 rfl rfl rfl ?_
    refine asg1 rfl rfl ?_
    refine asg1 rfl rfl ?_
    refine Ro.nil ?_
    refine Nrm.code ?_
    refine Run.region ?_
    refine mv1 rfl rfl ?_
    refine calg (vs := [_]) rfl ⟨⟨_, _, rfl, rfl⟩, trivial⟩ k31 rfl (fun hG => c31 _ _ (by omega)) ?_
    intro w5 B_; have S := S.call B_
    refine mv1 rfl rfl ?_
    refine eql1 rfl rfl rfl ?_
    refine mv1 rfl rfl ?_
    refine mv rfl rfl rfl rfl ?_
    refine mv rfl rfl rfl rfl ?_
    refine calg (vs := [_, _]) rfl ⟨⟨_, _, rfl, rfl⟩, ⟨_, _, rfl, rfl⟩, trivial⟩ k46 rfl (fun hG => c46 _ _ _ _ _ (S.osI (i := 0) rfl (ho10.now S)) (ho12.now S) (by have := optL_len p.b; omega)) ?_
    intro w6 B_; have S := S.call B_
    refine pkA rfl rfl rfl rfl rfl rfl ?_
    refine asg1 rfl rfl ?_
    refine Ro.nil ?_
    refine Nrm.blk ?_
    refine Nrm.code ?_
    refine Run.seq ?_
    refine Run.region ?_
    refine mv1 rfl rfl ?_
    refine mv1 rfl rfl ?_
    refine mv rfl rfl rfl rfl ?_
    refine fld (o' := 1) rfl fo144_1 rfl rfl rfl rfl ?_
    refine ld1 rfl T26 S (i := 1) rfl rfl rfl rfl rfl ?_
    refine calg (vs := [_, _]) rfl ⟨⟨_, _, rfl, rfl⟩, ⟨_, _, rfl, rfl⟩, trivial⟩ k148 rfl (fun hG => c148 _ _ _ _ _ (hu3.now S) (hB.now S) (by omega)) ?_
    intro w7 B_; have S := S.call B_
    refine pkA rfl rfl rfl rfl rfl rfl ?_
    refine asg1 rfl rfl ?_
    refine Ro.nil ?_
    refine Nrm.code ?_
    refine Run.ret ?_
    refine Rt.one rfl rfl ?_
    exact ⟨by simp [sameH_refl, sameOs_refl], (SS.tran hN5 S).bl⟩
   ·
    try simp only [Bool.or_eq_true, Bool.and_eq_true, Bool.or_eq_false_iff, Bool.and_eq_false_iff, decide_eq_true_eq, decide_eq_false_iff_not, Bool.not_eq_true', Bool.not_eq_false', Bool.not_eq_true, Bool.not_eq_false] at hc11
    refine Run.seq ?_
    refine Run.region ?_
    refine eql1 rfl rfl rfl ?_
    refine asg1 rfl rfl ?_
    refine Ro.nil ?_
    refine Nrm.code ?_
    refine Run.cond rfl (fun hc15 => ?_) (fun hc15 => ?_)
    ·
     try simp only [Bool.or_eq_true, Bool.and_eq_true, Bool.or_eq_false_iff, Bool.and_eq_false_iff, decide_eq_true_eq, decide_eq_false_iff_not, Bool.not_eq_true', Bool.not_eq_false', Bool.not_eq_true, Bool.not_eq_false] at hc15
     refine Run.seq ?_
     refine Run.region ?_
     refine mv1 rfl rfl ?_
     refine call (vs := [_]) ⟨⟨_, _, rfl, rfl⟩, trivial⟩ k40 rfl (c40w _ _ _ (S.hold_at (i := 0) rfl) hB.1 (by omega) (hg.stI S (i := 0) rfl)) ?_
     rintro _ w3 ⟨rfl, hT⟩
     have S := S.tn (i := 0) rfl rfl hT
     refine asg1 rfl rfl ?_
     refine Ro.nil ?_
     refine Nrm.code ?_
     refine Run.seq ?_
     refine Run.region ?_
     refine fld (o' := 1) rfl fo144_1 rfl rfl rfl rfl ?_
     refine ld1 rfl T26 S (i := 1) rfl rfl rfl rfl rfl ?_
     refine call (vs := [_]) ⟨⟨_, _, rfl, rfl⟩, trivial⟩ k49 rfl (c49 _ _ _ (hB.now S) (by omega)) ?_
     rintro _ w4 ⟨u15, rfl, hF⟩
     have S := S.fb hF
     have hby_u15 := hopB_byt hB.1
     have hby_u3 := byt_app hby_u15 marks_byt
     refine mv1 rfl rfl ?_
     refine extr1 rfl rfl rfl ?_
     refine extr1 rfl rfl rfl ?_
     refine asg1 rfl rfl ?_
     refine asg1 rfl rfl ?_
     refine Ro.nil ?_
     refine Nrm.code ?_
     refine Run.seq ?_
     refine Run.region ?_
     refine mv1 rfl rfl ?_
     refine calg (vs := [_]) rfl ⟨⟨_, _, rfl, rfl⟩, trivial⟩ k31 rfl (fun hG => c31 _ _ (by omega)) ?_
     intro w5 B_; have S := S.call B_
     refine mv1 rfl rfl ?_
     refine eql1 rfl rfl rfl ?_
     refine mv1 rfl rfl ?_
     refine mv rfl rfl rfl rfl ?_
     refine mv rfl rfl rfl rfl ?_
     refine calg (vs := [_, _]) rfl ⟨⟨_, _, rfl, rfl⟩, ⟨_, _, rfl, rfl⟩, trivial⟩ k148 rfl (fun hG => c148 _ _ _ _ _ (S.bsI (i := 1) rfl hby_u3) (S.bsI (i := 0) rfl hby_u15) (by rw [hopB_len]; omega)) ?_
     intro w6 B_; have S := S.call B_
     refine pkA rfl rfl rfl rfl rfl rfl ?_
     refine asg1 rfl rfl ?_
     refine Ro.nil ?_
     refine Nrm.code ?_
     refine Run.ret ?_
     refine Rt.one rfl rfl ?_
     exact ⟨by simp [sameH_refl, sameOs_refl], S.bl⟩
    ·
     try simp only [Bool.or_eq_true, Bool.and_eq_true, Bool.or_eq_false_iff, Bool.and_eq_false_iff, decide_eq_true_eq, decide_eq_false_iff_not, Bool.not_eq_true', Bool.not_eq_false', Bool.not_eq_true, Bool.not_eq_false] at hc15
     obtain ⟨hu3, S⟩ := S.layBI (i := 0) rfl rfl hby_u3
     obtain ⟨N6, hN6, S_6⟩ := S.reb
     have hB := hB.st S; rw [hN6] at hB
     have hg := hg.st S; rw [hN6] at hg
     rw [hN6] at hu3
     have SS := S
     have S := S_6
     have hc4 := hu3.cutM
     refine Run.skip ?_
     refine Nrm.blk ?_
     refine Nrm.code ?_
     refine Run.seq ?_
     refine Run.region ?_
     refine mv1 rfl rfl ?_
     refine mv1 rfl rfl ?_
     refine mv rfl rfl rfl rfl ?_
     refine fld (o' := 1) rfl fo144_1 rfl rfl rfl rfl ?_
     refine ld1 rfl T26 S (i := 0) rfl rfl rfl rfl rfl ?_
     refine calg (vs := [_, _]) rfl ⟨⟨_, _, rfl, rfl⟩, ⟨_, _, rfl, rfl⟩, trivial⟩ k148 rfl (fun hG => c148 _ _ _ _ _ (hu3.now S) (hB.now S) (by omega)) ?_
     intro w3 B_; have S := S.call B_
     refine pkA rfl rfl rfl rfl rfl rfl ?_
     refine asg1 rfl rfl ?_
     refine Ro.nil ?_
     refine Nrm.code ?_
     refine Run.ret ?_
     refine Rt.one rfl rfl ?_
     exact ⟨by simp [sameH_refl, sameOs_refl], (SS.tran hN6 S).bl⟩
end Go.Proofs.YtkahmepenjhcpaaDoor.W
/- Plain facts: what a hop leaves. No statement of the seat is proved here. -/
namespace Go.Proofs.YtkahmepenjhcpaaDoor.W
open Go
set_option linter.unusedVariables false
set_option linter.unusedSimpArgs false
theorem getD_set_ne {l : List Int} {i j : Nat} {x : Int} (h : i ≠ j) : (l.set i x).getD j 0 = l.getD j 0 := by
  rw [List.getD_eq_getElem?_getD, List.getD_eq_getElem?_getD, List.getElem?_set_ne h]
theorem getD_set_eq {l : List Int} {i : Nat} {x : Int} (h : i < l.length) : (l.set i x).getD i 0 = x := by
  rw [List.getD_eq_getElem?_getD, List.getElem?_set_self h]; rfl
end Go.Proofs.YtkahmepenjhcpaaDoor.W
/- Plain laws of layer 9: what is written is read again. No program walked here; no statement of the seat is proved here. -/
namespace Go.Proofs.YtkahmepenjhcpaaDoor.W
open Go
set_option linter.unusedVariables false
set_option linter.unusedSimpArgs false
def pw (s d : IP) (p : Int) (b : List Int) : Int := wsum true (pseL s d p b.length) + wsum true b
/-! ### UDP -/
/-! ### TCP -/
/-! ### read, then written -/
theorem fit_ver {s d : IP} (h : fitE s d = 0) : s.v = 4 ∨ s.v = 6 := by
  unfold fitE famB at h
  by_cases h0 : (decide (verI s = 0) || decide (verI d ≠ verI s)) = true
  · rw [if_pos h0] at h; omega
  · simp only [Bool.or_eq_true, decide_eq_true_eq, not_or] at h0
    have h1 := h0.1
    unfold verI at h1
    by_cases h6 : s.v = 6
    · exact .inr h6
    · rw [if_neg h6] at h1
      cases hf : fourB s with
      | true => simp only [fourB, Bool.and_eq_true, decide_eq_true_eq] at hf; exact .inl hf.1
      | false => rw [hf] at h1; simp at h1
theorem udp_facts {s d : IP} {b : List Int} (h : udpE s d b = 0) : b.length ≤ 65535 ∧ fitE s d = 0 ∧ 8 ≤ b.length ∧ 8 ≤ lenU b ∧ lenU b ≤ b.length ∧ (wd2 b 6 = 0 → s.v ≠ 6) ∧ (wd2 b 6 ≠ 0 → psum s d 17 (b.take (lenU b)) = 65535) := by
  unfold udpE at h
  by_cases h1 : 65535 < b.length
  · rw [if_pos h1] at h; omega
  rw [if_neg h1] at h
  by_cases h2 : fitE s d ≠ 0
  · rw [if_pos h2] at h; omega
  rw [if_neg h2] at h
  by_cases h3 : b.length < 8
  · rw [if_pos h3] at h; omega
  rw [if_neg h3] at h
  by_cases h4 : lenU b < 8 ∨ b.length < lenU b
  · rw [if_pos h4] at h; omega
  rw [if_neg h4] at h
  refine ⟨by omega, by omega, by omega, by omega, by omega, fun hw => ?_, fun hw => ?_⟩
  · rw [if_pos hw] at h
    intro h6; rw [if_pos h6] at h; omega
  · rw [if_neg hw] at h
    by_cases h5 : psum s d 17 (b.take (lenU b)) ≠ 65535
    · rw [if_pos h5] at h; omega
    · omega
theorem udp_chk {s d : IP} {b : List Int} (hb : byt b) (h : udpE s d b = 0) : putUE s d (udpG b) = 0 ∧ (udpG b).data.length = lenU b - 8 ∧ udpU s d b = udpG b := by
  obtain ⟨h1, h2, h3, h4, h5, h6, h7⟩ := udp_facts h
  have w0 := wd2_bd hb 0
  have w2 := wd2_bd hb 2
  have hv := fit_ver h2
  have hl : (udpG b).data.length = lenU b - 8 := by
    show ((b.drop 8).take (lenU b - 8)).length = _
    rw [List.length_take, List.length_drop]; omega
  refine ⟨?_, hl, by unfold udpU; rw [if_pos h]⟩
  unfold putUE
  rw [if_pos h2]
  have hbad : badU s.v (udpG b) = false := by
    unfold badU outN udpG
    simp only [Bool.or_eq_false_iff, Bool.and_eq_false_iff, decide_eq_false_iff_not]
    refine ⟨⟨⟨by omega, by omega⟩, by omega, by omega⟩, ?_⟩
    by_cases hw : wd2 b 6 = 0
    · exact .inr (h6 hw)
    · exact .inl hw
  unfold chkU
  rw [if_neg (by omega), if_neg (by rw [hbad]; simp), if_neg (by omega)]
theorem tcp_facts {s d : IP} {b : List Int} (h : tcpE s d b = 0) : b.length ≤ 65535 ∧ fitE s d = 0 ∧ 20 ≤ b.length ∧ 20 ≤ tcpH b ∧ tcpH b ≤ b.length ∧ psum s d 6 b = 65535 ∧ tE (tcpO b) = 0 := by
  unfold tcpE at h
  by_cases h1 : 65535 < b.length
  · rw [if_pos h1] at h; omega
  rw [if_neg h1] at h
  by_cases h2 : fitE s d ≠ 0
  · rw [if_pos h2] at h; omega
  rw [if_neg h2] at h
  by_cases h3 : b.length < 20
  · rw [if_pos h3] at h; omega
  rw [if_neg h3] at h
  by_cases h4 : tcpH b < 20 ∨ b.length < tcpH b
  · rw [if_pos h4] at h; omega
  rw [if_neg h4] at h
  by_cases h5 : psum s d 6 b ≠ 65535
  · rw [if_pos h5] at h; omega
  rw [if_neg h5] at h
  exact ⟨by omega, by omega, by omega, by omega, by omega, by omega, h⟩
end Go.Proofs.YtkahmepenjhcpaaDoor.W
/- The walks of L4UdpBack and L4TcpBack. No statement of the seat is proved here. -/
namespace Go.Proofs.YtkahmepenjhcpaaDoor.W
open Go
set_option linter.unusedSimpArgs false
set_option linter.unusedVariables false
end Go.Proofs.YtkahmepenjhcpaaDoor.W
/- Plain laws of layer 9: what Clamp leaves. No program walked here; no statement of the seat is proved here. -/
namespace Go.Proofs.YtkahmepenjhcpaaDoor.W
open Go
set_option linter.unusedVariables false
set_option linter.unusedSimpArgs false
end Go.Proofs.YtkahmepenjhcpaaDoor.W
/- Contracts: segments cloned, each part one's own. No statement of the seat is proved here. -/
namespace Go.Proofs.YtkahmepenjhcpaaDoor.W
open Go
set_option linter.unusedSimpArgs false
set_option linter.unusedVariables false
/-- the options' bytes, each one's own -/
def rowsO (vs : List Value) (os : List Opt) : List Own := List.zipWith (fun v o => oB v o.data) vs os
end Go.Proofs.YtkahmepenjhcpaaDoor.W
/- Contracts: the reference bounds what a segment may hold. No statement of the seat is proved here. -/
namespace Go.Proofs.YtkahmepenjhcpaaDoor.W
open Go
set_option linter.unusedSimpArgs false
set_option linter.unusedVariables false
end Go.Proofs.YtkahmepenjhcpaaDoor.W
/- Contracts: the calls of layer 6 over values. No statement of the seat is proved here. -/
namespace Go.Proofs.YtkahmepenjhcpaaDoor.W
open Go
set_option linter.unusedSimpArgs false
set_option linter.unusedVariables false
theorem SS.one {N : List Nat} {w : World} {v : Value} {ls : List (List Int)} (h : SS N w v ls) : v.oneCell' = true := let ⟨_, h1, _⟩ := h; h1.one
theorem putE_bd (l : List Opt) : putE l = 0 ∨ putE l = 65 := by unfold putE; split <;> simp
theorem OS.parts {N : List Nat} {w : World} {v : Value} {os : List Opt} (h : OS N w v os) : ∃ ds, Sl N w 2 v os.length (optC os ds) ∧ OSs N w ds os := h
set_option maxHeartbeats 1000000 in
theorem c106 (p : Op6) (vB o d vL : Value) (w : World) (hvB : vB.oneCell' = true) (hO : OS [] w o p.h.opts) (hd : BS [] w d p.h.data) (hL : OS [] w vL p.l) (hol : p.h.opts.length ≤ 1099511627000) (hdl : p.h.data.length ≤ 1099511627000) (hdo : ∀ o ∈ p.h.opts, o.data.length ≤ 1099511627000) (hll : p.l.length ≤ 1099511627000) (hld : ∀ o ∈ p.l, o.data.length ≤ 1099511627000) (hs : p.h.src.ok) (ht : p.h.dst.ok) (hg : GV [] w 0 130 (W4.map i64)) :
  CallsD Tryd.prog 106 #[.agg (encOp6 p vB o d vL).toArray] w (.bool true) := by
 refine enter Tryd.func106 rfl Tryd.ntmps106 (l := [(0, [], _)]) rfl rfl ?_
 have S := St.refl [] w
 obtain ⟨dsO, hOS, hOB⟩ := hO.parts
 obtain ⟨dsL, hLS, hLB⟩ := hL.parts
 have hol' : p.h.opts.length ≤ 1099511627776 := by omega
 have hdl' : p.h.data.length ≤ 1099511627776 := by omega
 have hdo' : ∀ o ∈ p.h.opts, o.data.length ≤ 1099511627776 := fun o h => by have := hdo o h; omega
 have hll' : p.l.length ≤ 1099511627776 := by omega
 have hld' : ∀ o ∈ p.l, o.data.length ≤ 1099511627776 := fun o h => by have := hld o h; omega
 have hce := chkE_bd p.h
 have hpe := putE_bd p.l
 have hodt := hO.byt
 refine Run.seq ?_
 refine Run.region ?_
 refine boxA rfl S rfl ?_
 intro b1 w1 hb1 S B_
 refine asg1 rfl rfl ?_
 refine Ro.nil ?_
 refine Nrm.code ?_
 refine Run.seq ?_
 refine Run.region ?_
 refine fld (o' := 2) rfl fo144_2 rfl rfl rfl rfl ?_
 refine ldA (cs := encIp4 p.h o d) rfl T28 S (i := 0) rfl rfl rfl (by decide) rfl rfl rfl ?_
 refine alc T28 S rfl ?_
 intro b3 w2 hb3 S B_
 refine stW rfl rfl T28 rfl rfl (one_cons rfl (one_cons rfl (one_cons rfl (one_cons rfl (one_cons rfl (one_cons rfl (one_cons rfl (one_cons rfl (one_cons rfl (one_cons rfl (one_cons rfl (one_cons rfl (one_cons rfl (one_cons rfl (one_cons rfl (one_cons rfl (one_cons rfl (one_cons rfl (one_cons rfl (one_cons rfl (one_cons rfl (one_cons rfl (one_cons rfl (one_cons rfl (one_cons rfl (one_cons rfl (one_cons rfl (one_cons rfl (one_cons rfl (one_cons rfl (one_cons rfl (one_cons rfl (one_cons rfl (one_cons rfl (one_cons rfl (one_cons rfl (one_cons rfl (one_cons rfl (one_cons rfl (one_cons rfl (one_cons rfl (one_cons hO.one (one_cons hd.one one_nil))))))))))))))))))))))))))))))))))))))))))) S (i := 0) rfl rfl ?_
 intro w3 S
 refine Ro.nil ?_
 refine Nrm.code ?_
 refine Run.seq ?_
 refine Run.region ?_
 refine fld (o' := 42) rfl fo28_10 rfl rfl rfl rfl ?_
 refine ld1 rfl T26 S (i := 0) rfl rfl rfl rfl rfl ?_
 refine call (vs := [_]) ⟨⟨_, _, rfl, rfl⟩, trivial⟩ k145 rfl (c145 _ _ _ (hd.now S) (by omega)) ?_
 rintro u4 w4 hF
 have S := S.fb hF
 have hby_u4 : byt (_ ++ marks) := byt_app hd.1 marks_byt
 obtain ⟨hu4, S⟩ := S.layBI (i := 0) rfl rfl hby_u4
 obtain ⟨N1, hN1, S_1⟩ := S.reb
 have hO := hO.st S; rw [hN1] at hO
 have hd := hd.st S; rw [hN1] at hd
 have hL := hL.st S; rw [hN1] at hL
 have hg := hg.st S; rw [hN1] at hg
 have hOS := hOS.st S; rw [hN1] at hOS
 have hLS := hLS.st S; rw [hN1] at hLS
 rw [hN1] at hu4
 have SS := S
 have S := S_1
 refine asg1 rfl rfl ?_
 refine Ro.nil ?_
 refine Nrm.code ?_
 refine Run.seq ?_
 refine Run.region ?_
 refine fld (o' := 41) rfl fo28_9 rfl rfl rfl rfl ?_
 refine ld1 rfl T25 S (i := 0) rfl rfl rfl rfl rfl ?_
 have S0 := S
 refine call (vs := [_]) ⟨⟨_, _, rfl, rfl⟩, trivial⟩ k146 rfl (c146 _ _ _ (hO.now S) hol' hdo') ?_
 rintro _ w5 ⟨m5, w6, rfl, B1, hq⟩
 have S := S.call B1
 have hm5 := (hq _ S0.lt).1
 have hw6 := (hq _ S0.lt).2
 obtain ⟨N2, hN2, S_2⟩ := S.reb
 have hO := hO.st S; rw [hN2] at hO
 have hd := hd.st S; rw [hN2] at hd
 have hL := hL.st S; rw [hN2] at hL
 have hg := hg.st S; rw [hN2] at hg
 have hOS := hOS.st S; rw [hN2] at hOS
 have hLS := hLS.st S; rw [hN2] at hLS
 have hu4 := hu4.st S; rw [hN2] at hu4
 rw [hN2] at hm5
 rw [hN2] at hw6
 have SS := SS.tran hN1 S
 have S := S_2
 refine mv1 rfl rfl ?_
 refine extr1 rfl rfl rfl ?_
 refine extr1 rfl rfl rfl ?_
 refine asg1 rfl rfl ?_
 refine asg1 rfl rfl ?_
 refine Ro.nil ?_
 refine Nrm.code ?_
 refine Run.seq ?_
 refine Run.region ?_
 refine mv1 rfl rfl ?_
 refine fld (o' := 2) rfl fo144_2 rfl rfl rfl rfl ?_
 refine fld (o' := 44) rfl fo28_10 rfl rfl rfl rfl ?_
 refine ld1 rfl T26 S (i := 1) rfl rfl rfl rfl rfl ?_
 refine lenS rfl hd.2 Tryd.underlying26 rfl rfl rfl ?_
 refine slC (lo := 0) (hi := p.h.data.length) (mx := capV u4) rfl hu4 e26 rfl rfl rfl (i1 := none) (i2 := some (p.h.data.length)) (i3 := none) trivial ⟨_, _, _, rfl, rfl⟩ trivial rfl rfl rfl (fun h => by first | rfl | cases h) (fun _ => by have := hu4.cap; rw [List.length_append] at *; omega) ?_
 have hd4 := hu4.cutM
 refine fld (o' := 42) rfl fo28_10 rfl rfl rfl rfl ?_
 refine st1 rfl rfl T26 hd4.one S (i := 0) rfl rfl rfl ?_
 intro w6 S
 refine Ro.nil ?_
 refine Nrm.code ?_
 refine Run.seq ?_
 refine Run.region ?_
 refine mv1 rfl rfl ?_
 refine fld (o' := 2) rfl fo144_2 rfl rfl rfl rfl ?_
 refine fld (o' := 43) rfl fo28_9 rfl rfl rfl rfl ?_
 refine ld1 rfl T25 S (i := 1) rfl rfl rfl rfl rfl ?_
 refine lenS rfl hOS Tryd.underlying25 rfl rfl rfl ?_
 obtain ⟨ms_, hmS_, hmB_⟩ := hm5.parts
 refine slS (v := m5) (lo := 0) (hi := p.h.opts.length) (mx := capV m5) rfl hmS_ e25 rfl rfl rfl (i1 := none) (i2 := some p.h.opts.length) (i3 := none) trivial ⟨_, _, _, rfl, rfl⟩ trivial rfl rfl rfl (fun h => by first | rfl | cases h) (fun _ => by have := hmS_.cap; rw [List.length_append] at *; omega) ?_
 intro vc4 hvc_
 have ho4 := OS.take hmB_ hmB_.len (by rw [List.length_append]; omega) (hvc_ trivial).1
 rw [show (p.h.opts ++ [(⟨99, []⟩ : Opt)]).take p.h.opts.length = p.h.opts from by simp] at ho4
 refine fld (o' := 41) rfl fo28_9 rfl rfl rfl rfl ?_
 refine st1 rfl rfl T25 ho4.one S (i := 0) rfl rfl rfl ?_
 intro w7 S
 have S : St _ _ [.var b3 28 (encIp4 p.h vc4 (cut u4 0 p.h.data.length (capV u4))), _] w7 := S
 refine Ro.nil ?_
 refine Nrm.code ?_
 refine Run.seq ?_
 refine Run.region ?_
 refine fld (o' := 45) rfl fo144_3 rfl rfl rfl rfl ?_
 refine ld1 rfl T25 S (i := 1) rfl rfl rfl rfl rfl ?_
 have S0 := S
 refine call (vs := [_]) ⟨⟨_, _, rfl, rfl⟩, trivial⟩ k146 rfl (c146 _ _ _ (hL.now S) hll' hld') ?_
 rintro _ w8 ⟨m7, w8, rfl, B1, hq⟩
 have S := S.call B1
 have hm7 := (hq _ S0.lt).1
 have hw8 := (hq _ S0.lt).2
 obtain ⟨N3, hN3, S_3⟩ := S.reb
 have hO := hO.st S; rw [hN3] at hO
 have hd := hd.st S; rw [hN3] at hd
 have hL := hL.st S; rw [hN3] at hL
 have hg := hg.st S; rw [hN3] at hg
 have hOS := hOS.st S; rw [hN3] at hOS
 have hLS := hLS.st S; rw [hN3] at hLS
 have hu4 := hu4.st S; rw [hN3] at hu4
 have hm5 := hm5.st S; rw [hN3] at hm5
 have hw6 := hw6.st S; rw [hN3] at hw6
 have hd4 := hd4.st S; rw [hN3] at hd4
 have ho4 := ho4.st S; rw [hN3] at ho4
 rw [hN3] at hm7
 rw [hN3] at hw8
 have SS := SS.tran hN2 S
 have S := S_3
 refine mv1 rfl rfl ?_
 refine extr1 rfl rfl rfl ?_
 refine extr1 rfl rfl rfl ?_
 refine asg1 rfl rfl ?_
 refine asg1 rfl rfl ?_
 refine Ro.nil ?_
 refine Nrm.code ?_
 refine Run.seq ?_
 refine Run.region ?_
 refine asg1 rfl rfl ?_
 refine Ro.nil ?_
 refine Nrm.code ?_
 refine Run.seq ?_
 refine Run.seq ?_
 refine Run.region ?_
 refine fld (o' := 0) rfl fo144_0 rfl rfl rfl rfl ?_
 refine ld1 rfl T3 S (i := 1) rfl rfl rfl rfl rfl ?_
 refine Ro.nil ?_
 refine Nrm.code ?_
 refine Run.block ?_
 refine Run.seq ?_
 refine Run.region ?_
 refine eql1 rfl rfl rfl ?_
 refine asg1 rfl rfl ?_
 refine Ro.nil ?_
 refine Nrm.code ?_
 refine Run.cond rfl (fun hc9 => ?_) (fun hc9 => ?_)
 ·
  try simp only [Bool.or_eq_true, Bool.and_eq_true, Bool.or_eq_false_iff, Bool.and_eq_false_iff, decide_eq_true_eq, decide_eq_false_iff_not, Bool.not_eq_true', Bool.not_eq_false', Bool.not_eq_true, Bool.not_eq_false] at hc9
  refine Run.seq ?_
  refine Run.region ?_
  refine ldW rfl T28 S (i := 0) rfl rfl rfl rfl rfl ?_
  refine calg (vs := [_]) rfl ⟨⟨_, _, rfl, rfl⟩, trivial⟩ k32 rfl (fun hG => c32 p.h vc4 (cut u4 0 p.h.data.length (capV u4)) _ (ho4.now S) (hd4.now S) hol' hdl') ?_
  intro w9 B_; have S := S.call B_
  refine asg1 rfl rfl ?_
  refine Ro.nil ?_
  refine Nrm.code ?_
  refine Run.draw (by kernel_rfl) (by kernel_rfl) S ?_
  refine qmv rfl rfl rfl rfl ?_
  refine qcal (vs := [_]) rfl ⟨⟨_, _, rfl, rfl⟩, trivial⟩ k31 rfl (fun _ _ S B => S.call B) (fun hG w_ S => c31 _ _ (by omega)) ?_
  refine qfld (o' := 2) rfl fo144_2 rfl rfl rfl rfl ?_
  refine qldA (cs := encIp4 p.h o d) rfl T28 (fun _ S => S) (i := 1) rfl rfl rfl (by decide) rfl rfl rfl ?_
  refine qcal (vs := [_]) rfl ⟨⟨_, _, rfl, rfl⟩, trivial⟩ k147 rfl (fun _ _ S B => S.call B) (fun hG w_ S => c147 p.h o d _ (hO.now S) (hd.now S) hol' hdl') ?_
  refine qeql rfl rfl rfl rfl rfl rfl ?_
  refine qasg rfl rfl rfl rfl ?_
  refine Qo.nil (fun w10 S => ?_)
  refine Nrm.blk ?_
  refine Nrm.code ?_
  refine Run.seq ?_
  refine Run.region ?_
  refine mv1 rfl rfl ?_
  refine mv1 rfl rfl ?_
  refine ldW rfl T28 S (i := 0) rfl rfl rfl rfl rfl ?_
  refine fld (o' := 2) rfl fo144_2 rfl rfl rfl rfl ?_
  refine ldA (cs := encIp4 p.h o d) rfl T28 S (i := 1) rfl rfl rfl (by decide) rfl rfl rfl ?_
  refine calg (vs := [_, _]) rfl ⟨⟨_, _, rfl, rfl⟩, ⟨_, _, rfl, rfl⟩, trivial⟩ k34 rfl (fun hG => c34 _ _ vc4 (cut u4 0 p.h.data.length (capV u4)) o d _ (ho4.now S) (hd4.now S) (hO.now S) (hd.now S) hol') ?_
  intro w11 B_; have S := S.call B_
  refine pkA rfl rfl rfl rfl rfl rfl ?_
  refine mv1 rfl rfl ?_
  refine mv rfl rfl rfl rfl ?_
  refine fld (o' := 2) rfl fo144_2 rfl rfl rfl rfl ?_
  refine fld (o' := 44) rfl fo28_10 rfl rfl rfl rfl ?_
  refine ld1 rfl T26 S (i := 1) rfl rfl rfl rfl rfl ?_
  refine calg (vs := [_, _]) rfl ⟨⟨_, _, rfl, rfl⟩, ⟨_, _, rfl, rfl⟩, trivial⟩ k148 rfl (fun hG => c148 _ _ _ _ _ (hu4.now S) (hd.now S) (by exact hdl')) ?_
  intro w12 B_; have S := S.call B_
  refine pkA rfl rfl rfl rfl rfl rfl ?_
  refine mv1 rfl rfl ?_
  refine mv rfl rfl rfl rfl ?_
  refine mv rfl rfl rfl rfl ?_
  refine fld (o' := 2) rfl fo144_2 rfl rfl rfl rfl ?_
  refine fld (o' := 43) rfl fo28_9 rfl rfl rfl rfl ?_
  refine ld1 rfl T25 S (i := 1) rfl rfl rfl rfl rfl ?_
  refine calg (vs := [_, _, _]) rfl ⟨⟨_, _, rfl, rfl⟩, ⟨_, _, rfl, rfl⟩, ⟨_, _, rfl, rfl⟩, trivial⟩ k149 rfl (fun hG => c149 _ _ _ _ _ (hm5.now S) (hw6.now S) (hO.now S) hol' hdo') ?_
  intro w13 B_; have S := S.call B_
  refine pkA rfl rfl rfl rfl rfl rfl ?_
  refine mv1 rfl rfl ?_
  refine mv rfl rfl rfl rfl ?_
  refine mv rfl rfl rfl rfl ?_
  refine fld (o' := 45) rfl fo144_3 rfl rfl rfl rfl ?_
  refine ld1 rfl T25 S (i := 1) rfl rfl rfl rfl rfl ?_
  refine calg (vs := [_, _, _]) rfl ⟨⟨_, _, rfl, rfl⟩, ⟨_, _, rfl, rfl⟩, ⟨_, _, rfl, rfl⟩, trivial⟩ k149 rfl (fun hG => c149 _ _ _ _ _ (hm7.now S) (hw8.now S) (hL.now S) hll' hld') ?_
  intro w14 B_; have S := S.call B_
  refine pkA rfl rfl rfl rfl rfl rfl ?_
  refine asg1 rfl rfl ?_
  refine Ro.nil ?_
  refine Nrm.code ?_
  refine Run.ret ?_
  refine Rt.one rfl rfl ?_
  exact ⟨by simp [sameH_refl], (SS.tran hN3 S).bl⟩
 ·
  try simp only [Bool.or_eq_true, Bool.and_eq_true, Bool.or_eq_false_iff, Bool.and_eq_false_iff, decide_eq_true_eq, decide_eq_false_iff_not, Bool.not_eq_true', Bool.not_eq_false', Bool.not_eq_true, Bool.not_eq_false] at hc9
  refine Run.seq ?_
  refine Run.region ?_
  refine eql1 rfl rfl rfl ?_
  refine asg1 rfl rfl ?_
  refine Ro.nil ?_
  refine Nrm.code ?_
  refine Run.cond rfl (fun hc12 => ?_) (fun hc12 => ?_)
  ·
   try simp only [Bool.or_eq_true, Bool.and_eq_true, Bool.or_eq_false_iff, Bool.and_eq_false_iff, decide_eq_true_eq, decide_eq_false_iff_not, Bool.not_eq_true', Bool.not_eq_false', Bool.not_eq_true, Bool.not_eq_false] at hc12
   refine Run.seq ?_
   refine Run.region ?_
   refine ldW rfl T28 S (i := 0) rfl rfl rfl rfl rfl ?_
   refine call (vs := [_]) ⟨⟨_, _, rfl, rfl⟩, trivial⟩ k30 rfl (c30 p.h vc4 (cut u4 0 p.h.data.length (capV u4)) _ (ho4.now S) (hd4.now S) hol' hdl' hs ht (hg.now S)) ?_
   rintro _ w9 ⟨u11, rfl, hF⟩
   have S := S.fb hF
   have hby_u11 := serL_byt hs ht hodt hd.1
   refine mv1 rfl rfl ?_
   refine extr1 rfl rfl rfl ?_
   refine extr1 rfl rfl rfl ?_
   refine asg1 rfl rfl ?_
   refine asg1 rfl rfl ?_
   refine Ro.nil ?_
   refine Nrm.code ?_
   refine Run.seq ?_
   refine Run.region ?_
   refine fld (o' := 2) rfl fo144_2 rfl rfl rfl rfl ?_
   refine ldA (cs := encIp4 p.h o d) rfl T28 S (i := 2) rfl rfl rfl (by decide) rfl rfl rfl ?_
   refine call (vs := [_]) ⟨⟨_, _, rfl, rfl⟩, trivial⟩ k115 rfl (c115 p.h o d _ (hO.now S) (hd.now S) hol' hdl' hs ht) ?_
   rintro _ w10 ⟨u13, rfl, hF⟩
   have S := S.fb hF
   have hby_u13 := hby_u11
   refine mv1 rfl rfl ?_
   refine extr1 rfl rfl rfl ?_
   refine extr1 rfl rfl rfl ?_
   refine asg1 rfl rfl ?_
   refine asg1 rfl rfl ?_
   refine Ro.nil ?_
   refine Nrm.code ?_
   refine Run.region ?_
   refine mv1 rfl rfl ?_
   refine calg (vs := [_]) rfl ⟨⟨_, _, rfl, rfl⟩, trivial⟩ k31 rfl (fun hG => c31 _ _ (by omega)) ?_
   intro w11 B_; have S := S.call B_
   refine mv1 rfl rfl ?_
   refine eql1 rfl rfl rfl ?_
   refine mv1 rfl rfl ?_
   refine mv rfl rfl rfl rfl ?_
   refine mv rfl rfl rfl rfl ?_
   refine calg (vs := [_, _]) rfl ⟨⟨_, _, rfl, rfl⟩, ⟨_, _, rfl, rfl⟩, trivial⟩ k37 rfl (fun hG => c37 _ _ _ _ _ (S.bsI (i := 1) rfl hby_u11) (S.bsI (i := 0) rfl hby_u13)) ?_
   intro w12 B_; have S := S.call B_
   refine pkA rfl rfl rfl rfl rfl rfl ?_
   refine asg1 rfl rfl ?_
   refine Ro.nil ?_
   refine Nrm.blk ?_
   refine Nrm.code ?_
   refine Run.seq ?_
   refine Run.region ?_
   refine mv1 rfl rfl ?_
   refine mv1 rfl rfl ?_
   refine ldW rfl T28 S (i := 2) rfl rfl rfl rfl rfl ?_
   refine fld (o' := 2) rfl fo144_2 rfl rfl rfl rfl ?_
   refine ldA (cs := encIp4 p.h o d) rfl T28 S (i := 3) rfl rfl rfl (by decide) rfl rfl rfl ?_
   refine calg (vs := [_, _]) rfl ⟨⟨_, _, rfl, rfl⟩, ⟨_, _, rfl, rfl⟩, trivial⟩ k34 rfl (fun hG => c34 _ _ vc4 (cut u4 0 p.h.data.length (capV u4)) o d _ (ho4.now S) (hd4.now S) (hO.now S) (hd.now S) hol') ?_
   intro w13 B_; have S := S.call B_
   refine pkA rfl rfl rfl rfl rfl rfl ?_
   refine mv1 rfl rfl ?_
   refine mv rfl rfl rfl rfl ?_
   refine fld (o' := 2) rfl fo144_2 rfl rfl rfl rfl ?_
   refine fld (o' := 44) rfl fo28_10 rfl rfl rfl rfl ?_
   refine ld1 rfl T26 S (i := 3) rfl rfl rfl rfl rfl ?_
   refine calg (vs := [_, _]) rfl ⟨⟨_, _, rfl, rfl⟩, ⟨_, _, rfl, rfl⟩, trivial⟩ k148 rfl (fun hG => c148 _ _ _ _ _ (hu4.now S) (hd.now S) (by exact hdl')) ?_
   intro w14 B_; have S := S.call B_
   refine pkA rfl rfl rfl rfl rfl rfl ?_
   refine mv1 rfl rfl ?_
   refine mv rfl rfl rfl rfl ?_
   refine mv rfl rfl rfl rfl ?_
   refine fld (o' := 2) rfl fo144_2 rfl rfl rfl rfl ?_
   refine fld (o' := 43) rfl fo28_9 rfl rfl rfl rfl ?_
   refine ld1 rfl T25 S (i := 3) rfl rfl rfl rfl rfl ?_
   refine calg (vs := [_, _, _]) rfl ⟨⟨_, _, rfl, rfl⟩, ⟨_, _, rfl, rfl⟩, ⟨_, _, rfl, rfl⟩, trivial⟩ k149 rfl (fun hG => c149 _ _ _ _ _ (hm5.now S) (hw6.now S) (hO.now S) hol' hdo') ?_
   intro w15 B_; have S := S.call B_
   refine pkA rfl rfl rfl rfl rfl rfl ?_
   refine mv1 rfl rfl ?_
   refine mv rfl rfl rfl rfl ?_
   refine mv rfl rfl rfl rfl ?_
   refine fld (o' := 45) rfl fo144_3 rfl rfl rfl rfl ?_
   refine ld1 rfl T25 S (i := 3) rfl rfl rfl rfl rfl ?_
   refine calg (vs := [_, _, _]) rfl ⟨⟨_, _, rfl, rfl⟩, ⟨_, _, rfl, rfl⟩, ⟨_, _, rfl, rfl⟩, trivial⟩ k149 rfl (fun hG => c149 _ _ _ _ _ (hm7.now S) (hw8.now S) (hL.now S) hll' hld') ?_
   intro w16 B_; have S := S.call B_
   refine pkA rfl rfl rfl rfl rfl rfl ?_
   refine asg1 rfl rfl ?_
   refine Ro.nil ?_
   refine Nrm.code ?_
   refine Run.ret ?_
   refine Rt.one rfl rfl ?_
   exact ⟨by simp [sameH_refl], (SS.tran hN3 S).bl⟩
  ·
   try simp only [Bool.or_eq_true, Bool.and_eq_true, Bool.or_eq_false_iff, Bool.and_eq_false_iff, decide_eq_true_eq, decide_eq_false_iff_not, Bool.not_eq_true', Bool.not_eq_false', Bool.not_eq_true, Bool.not_eq_false] at hc12
   refine Run.seq ?_
   refine Run.region ?_
   refine eql1 rfl rfl rfl ?_
   refine asg1 rfl rfl ?_
   refine Ro.nil ?_
   refine Nrm.code ?_
   refine Run.cond rfl (fun hc16 => ?_) (fun hc16 => ?_)
   ·
    try simp only [Bool.or_eq_true, Bool.and_eq_true, Bool.or_eq_false_iff, Bool.and_eq_false_iff, decide_eq_true_eq, decide_eq_false_iff_not, Bool.not_eq_true', Bool.not_eq_false', Bool.not_eq_true, Bool.not_eq_false] at hc16
    refine Run.seq ?_
    refine Run.region ?_
    refine mv1 rfl rfl ?_
    refine fld (o' := 45) rfl fo144_3 rfl rfl rfl rfl ?_
    refine ld1 rfl T25 S (i := 1) rfl rfl rfl rfl rfl ?_
    refine lenS rfl hLS Tryd.underlying25 rfl rfl rfl ?_
    obtain ⟨ms_, hmS_, hmB_⟩ := hm7.parts
    refine slS (v := m7) (lo := 0) (hi := p.l.length) (mx := capV m7) rfl hmS_ e25 rfl rfl rfl (i1 := none) (i2 := some p.l.length) (i3 := none) trivial ⟨_, _, _, rfl, rfl⟩ trivial rfl rfl rfl (fun h => by first | rfl | cases h) (fun _ => by have := hmS_.cap; rw [List.length_append] at *; omega) ?_
    intro vc7 hvc_
    have ho7 := OS.take hmB_ hmB_.len (by rw [List.length_append]; omega) (hvc_ trivial).1
    rw [show (p.l ++ [(⟨99, []⟩ : Opt)]).take p.l.length = p.l from by simp] at ho7
    refine call (vs := [_]) ⟨⟨_, _, rfl, rfl⟩, trivial⟩ k94 rfl (c94 _ _ _ (ho7.now S) (by exact hll')) ?_
    rintro _ w9 ⟨u15, rfl, hF⟩
    have S := S.fb hF
    refine mv1 rfl rfl ?_
    refine extr1 rfl rfl rfl ?_
    refine extr1 rfl rfl rfl ?_
    refine asg1 rfl rfl ?_
    refine asg1 rfl rfl ?_
    refine Ro.nil ?_
    refine Nrm.code ?_
    refine Run.seq ?_
    refine Run.region ?_
    refine fld (o' := 45) rfl fo144_3 rfl rfl rfl rfl ?_
    refine ld1 rfl T25 S (i := 2) rfl rfl rfl rfl rfl ?_
    refine call (vs := [_]) ⟨⟨_, _, rfl, rfl⟩, trivial⟩ k136 rfl (c136 _ _ _ (hL.now S) (by exact hll')) ?_
    rintro _ w10 ⟨u17, rfl, hF⟩
    have S := S.fb hF
    refine mv1 rfl rfl ?_
    refine extr1 rfl rfl rfl ?_
    refine extr1 rfl rfl rfl ?_
    refine asg1 rfl rfl ?_
    refine asg1 rfl rfl ?_
    refine Ro.nil ?_
    refine Nrm.code ?_
    refine Run.region ?_
    refine mv1 rfl rfl ?_
    have hby_u15 : byt (putL p.l) := putL_byt hL.byt
    have hby_u17 := hby_u15
    refine calg (vs := [_]) rfl ⟨⟨_, _, rfl, rfl⟩, trivial⟩ k31 rfl (fun hG => c31 _ _ (by omega)) ?_
    intro w11 B_; have S := S.call B_
    refine mv1 rfl rfl ?_
    refine eql1 rfl rfl rfl ?_
    refine mv1 rfl rfl ?_
    refine mv rfl rfl rfl rfl ?_
    refine mv rfl rfl rfl rfl ?_
    refine calg (vs := [_, _]) rfl ⟨⟨_, _, rfl, rfl⟩, ⟨_, _, rfl, rfl⟩, trivial⟩ k37 rfl (fun hG => c37 _ _ _ _ _ (S.bsI (i := 1) rfl hby_u15) (S.bsI (i := 0) rfl hby_u17)) ?_
    intro w12 B_; have S := S.call B_
    refine pkA rfl rfl rfl rfl rfl rfl ?_
    refine asg1 rfl rfl ?_
    refine Ro.nil ?_
    refine Nrm.blk ?_
    refine Nrm.code ?_
    refine Run.seq ?_
    refine Run.region ?_
    refine mv1 rfl rfl ?_
    refine mv1 rfl rfl ?_
    refine ldW rfl T28 S (i := 2) rfl rfl rfl rfl rfl ?_
    refine fld (o' := 2) rfl fo144_2 rfl rfl rfl rfl ?_
    refine ldA (cs := encIp4 p.h o d) rfl T28 S (i := 3) rfl rfl rfl (by decide) rfl rfl rfl ?_
    refine calg (vs := [_, _]) rfl ⟨⟨_, _, rfl, rfl⟩, ⟨_, _, rfl, rfl⟩, trivial⟩ k34 rfl (fun hG => c34 _ _ vc4 (cut u4 0 p.h.data.length (capV u4)) o d _ (ho4.now S) (hd4.now S) (hO.now S) (hd.now S) hol') ?_
    intro w13 B_; have S := S.call B_
    refine pkA rfl rfl rfl rfl rfl rfl ?_
    refine mv1 rfl rfl ?_
    refine mv rfl rfl rfl rfl ?_
    refine fld (o' := 2) rfl fo144_2 rfl rfl rfl rfl ?_
    refine fld (o' := 44) rfl fo28_10 rfl rfl rfl rfl ?_
    refine ld1 rfl T26 S (i := 3) rfl rfl rfl rfl rfl ?_
    refine calg (vs := [_, _]) rfl ⟨⟨_, _, rfl, rfl⟩, ⟨_, _, rfl, rfl⟩, trivial⟩ k148 rfl (fun hG => c148 _ _ _ _ _ (hu4.now S) (hd.now S) (by exact hdl')) ?_
    intro w14 B_; have S := S.call B_
    refine pkA rfl rfl rfl rfl rfl rfl ?_
    refine mv1 rfl rfl ?_
    refine mv rfl rfl rfl rfl ?_
    refine mv rfl rfl rfl rfl ?_
    refine fld (o' := 2) rfl fo144_2 rfl rfl rfl rfl ?_
    refine fld (o' := 43) rfl fo28_9 rfl rfl rfl rfl ?_
    refine ld1 rfl T25 S (i := 3) rfl rfl rfl rfl rfl ?_
    refine calg (vs := [_, _, _]) rfl ⟨⟨_, _, rfl, rfl⟩, ⟨_, _, rfl, rfl⟩, ⟨_, _, rfl, rfl⟩, trivial⟩ k149 rfl (fun hG => c149 _ _ _ _ _ (hm5.now S) (hw6.now S) (hO.now S) hol' hdo') ?_
    intro w15 B_; have S := S.call B_
    refine pkA rfl rfl rfl rfl rfl rfl ?_
    refine mv1 rfl rfl ?_
    refine mv rfl rfl rfl rfl ?_
    refine mv rfl rfl rfl rfl ?_
    refine fld (o' := 45) rfl fo144_3 rfl rfl rfl rfl ?_
    refine ld1 rfl T25 S (i := 3) rfl rfl rfl rfl rfl ?_
    refine calg (vs := [_, _, _]) rfl ⟨⟨_, _, rfl, rfl⟩, ⟨_, _, rfl, rfl⟩, ⟨_, _, rfl, rfl⟩, trivial⟩ k149 rfl (fun hG => c149 _ _ _ _ _ (hm7.now S) (hw8.now S) (hL.now S) hll' hld') ?_
    intro w16 B_; have S := S.call B_
    refine pkA rfl rfl rfl rfl rfl rfl ?_
    refine asg1 rfl rfl ?_
    refine Ro.nil ?_
    refine Nrm.code ?_
    refine Run.ret ?_
    refine Rt.one rfl rfl ?_
    exact ⟨by simp [sameH_refl], (SS.tran hN3 S).bl⟩
   ·
    try simp only [Bool.or_eq_true, Bool.and_eq_true, Bool.or_eq_false_iff, Bool.and_eq_false_iff, decide_eq_true_eq, decide_eq_false_iff_not, Bool.not_eq_true', Bool.not_eq_false', Bool.not_eq_true, Bool.not_eq_false] at hc16
    refine Run.skip ?_
    refine Nrm.blk ?_
    refine Nrm.code ?_
    refine Run.seq ?_
    refine Run.region ?_
    refine mv1 rfl rfl ?_
    refine mv1 rfl rfl ?_
    refine ldW rfl T28 S (i := 0) rfl rfl rfl rfl rfl ?_
    refine fld (o' := 2) rfl fo144_2 rfl rfl rfl rfl ?_
    refine ldA (cs := encIp4 p.h o d) rfl T28 S (i := 1) rfl rfl rfl (by decide) rfl rfl rfl ?_
    refine calg (vs := [_, _]) rfl ⟨⟨_, _, rfl, rfl⟩, ⟨_, _, rfl, rfl⟩, trivial⟩ k34 rfl (fun hG => c34 _ _ vc4 (cut u4 0 p.h.data.length (capV u4)) o d _ (ho4.now S) (hd4.now S) (hO.now S) (hd.now S) hol') ?_
    intro w9 B_; have S := S.call B_
    refine pkA rfl rfl rfl rfl rfl rfl ?_
    refine mv1 rfl rfl ?_
    refine mv rfl rfl rfl rfl ?_
    refine fld (o' := 2) rfl fo144_2 rfl rfl rfl rfl ?_
    refine fld (o' := 44) rfl fo28_10 rfl rfl rfl rfl ?_
    refine ld1 rfl T26 S (i := 1) rfl rfl rfl rfl rfl ?_
    refine calg (vs := [_, _]) rfl ⟨⟨_, _, rfl, rfl⟩, ⟨_, _, rfl, rfl⟩, trivial⟩ k148 rfl (fun hG => c148 _ _ _ _ _ (hu4.now S) (hd.now S) (by exact hdl')) ?_
    intro w10 B_; have S := S.call B_
    refine pkA rfl rfl rfl rfl rfl rfl ?_
    refine mv1 rfl rfl ?_
    refine mv rfl rfl rfl rfl ?_
    refine mv rfl rfl rfl rfl ?_
    refine fld (o' := 2) rfl fo144_2 rfl rfl rfl rfl ?_
    refine fld (o' := 43) rfl fo28_9 rfl rfl rfl rfl ?_
    refine ld1 rfl T25 S (i := 1) rfl rfl rfl rfl rfl ?_
    refine calg (vs := [_, _, _]) rfl ⟨⟨_, _, rfl, rfl⟩, ⟨_, _, rfl, rfl⟩, ⟨_, _, rfl, rfl⟩, trivial⟩ k149 rfl (fun hG => c149 _ _ _ _ _ (hm5.now S) (hw6.now S) (hO.now S) hol' hdo') ?_
    intro w11 B_; have S := S.call B_
    refine pkA rfl rfl rfl rfl rfl rfl ?_
    refine mv1 rfl rfl ?_
    refine mv rfl rfl rfl rfl ?_
    refine mv rfl rfl rfl rfl ?_
    refine fld (o' := 45) rfl fo144_3 rfl rfl rfl rfl ?_
    refine ld1 rfl T25 S (i := 1) rfl rfl rfl rfl rfl ?_
    refine calg (vs := [_, _, _]) rfl ⟨⟨_, _, rfl, rfl⟩, ⟨_, _, rfl, rfl⟩, ⟨_, _, rfl, rfl⟩, trivial⟩ k149 rfl (fun hG => c149 _ _ _ _ _ (hm7.now S) (hw8.now S) (hL.now S) hll' hld') ?_
    intro w12 B_; have S := S.call B_
    refine pkA rfl rfl rfl rfl rfl rfl ?_
    refine asg1 rfl rfl ?_
    refine Ro.nil ?_
    refine Nrm.code ?_
    refine Run.ret ?_
    refine Rt.one rfl rfl ?_
    exact ⟨by simp [sameH_refl], (SS.tran hN3 S).bl⟩
end Go.Proofs.YtkahmepenjhcpaaDoor.W
/- Contracts: the calls of layer 9 over bytes and over UDP. No statement of the seat is proved here. -/
namespace Go.Proofs.YtkahmepenjhcpaaDoor.W
open Go
set_option linter.unusedSimpArgs false
set_option linter.unusedVariables false
structure Op9 where
  kind : Int
  s : IP
  d : IP
  b : List Int
  u : Udp
  t : Tcp
  l : List Opt
  n : Int
def encOp9 (p : Op9) (vB ud to_ td vL : Value) : List Value := [i64 p.kind] ++ (encIP p.s ++ (encIP p.d ++ ([vB] ++ (encUdp p.u ud ++ (encTcp p.t to_ td ++ [vL, i64 p.n])))))
end Go.Proofs.YtkahmepenjhcpaaDoor.W
/- The walk of L4Clamped. No statement of the seat is proved here. -/
namespace Go.Proofs.YtkahmepenjhcpaaDoor.W
open Go
set_option linter.unusedSimpArgs false
set_option linter.unusedVariables false
end Go.Proofs.YtkahmepenjhcpaaDoor.W
/- Contracts: the calls of layer 9 over TCP. No statement of the seat is proved here. -/
namespace Go.Proofs.YtkahmepenjhcpaaDoor.W
open Go
set_option linter.unusedSimpArgs false
set_option linter.unusedVariables false
end Go.Proofs.YtkahmepenjhcpaaDoor.W
/- Contracts: scripts of layer 6. No statement of the seat is proved here. -/
namespace Go.Proofs.YtkahmepenjhcpaaDoor.W
open Go
set_option linter.unusedSimpArgs false
set_option linter.unusedVariables false
theorem flat_at {α : Type} {sz : Nat} : ∀ {cs : List (List α)} {i : Nat}, (∀ c ∈ cs, c.length = sz) → i < cs.length → i * sz + sz ≤ cs.flatten.length ∧ (cs.flatten.drop (i * sz)).take sz = cs.getD i []
  | [], i, _, h => by simp at h
  | c :: cs, 0, h, _ => by
    have hc := h c (by simp)
    simp only [List.flatten_cons, List.length_append, Nat.zero_mul, List.drop_zero, List.getD_cons_zero]
    exact ⟨by omega, List.take_left' hc⟩
  | c :: cs, i + 1, h, hi => by
    have hc := h c (by simp)
    have ih := flat_at (sz := sz) (cs := cs) (i := i) (fun x hx => h x (by simp [hx])) (by simpa using hi)
    have e : (i + 1) * sz = c.length + i * sz := by rw [Nat.add_mul, Nat.one_mul, hc]; omega
    simp only [List.flatten_cons, List.length_append, List.getD_cons_succ]
    refine ⟨by omega, ?_⟩
    rw [e, ← List.drop_drop, List.drop_left]
    exact ih.2
def opz : Op6 := ⟨0, [], ⟨0, 0, false, false, 0, 0, 0, ⟨0, fun _ => 0⟩, ⟨0, fun _ => 0⟩, [], []⟩, []⟩
/-- one call of a script, as it is read -/
structure O6 (N : List Nat) (w : World) (c : List Value) (p : Op6) : Prop where
  ex : ∃ vB o d vL, c = encOp6 p vB o d vL ∧ BS N w vB p.b ∧ OS N w o p.h.opts ∧ BS N w d p.h.data ∧ OS N w vL p.l
theorem O6.st {N0 : List Nat} {w0 w : World} {L : List Own} {c : List Value} {p : Op6} (h : O6 N0 w0 c p) (S : St N0 w0 L w) : O6 (idsL L) w c p :=
  let ⟨vB, o, d, vL, h1, h2, h3, h4, h5⟩ := h.ex; ⟨vB, o, d, vL, h1, h2.st S, h3.st S, h4.st S, h5.st S⟩
theorem O6.len {N : List Nat} {w : World} {c : List Value} {p : Op6} (h : O6 N w c p) : c.length = 46 := by
  obtain ⟨vB, o, d, vL, rfl, _⟩ := h.ex; rfl
structure Op6.ok (p : Op6) : Prop where
  b : p.b.length ≤ 1099511627000
  o : p.h.opts.length ≤ 1099511627000
  d : p.h.data.length ≤ 1099511627000
  od : ∀ x ∈ p.h.opts, x.data.length ≤ 1099511627000
  l : p.l.length ≤ 1099511627000
  ld : ∀ x ∈ p.l, x.data.length ≤ 1099511627000
  s : p.h.src.ok
  t : p.h.dst.ok
/-- a script -/
def OPL (N : List Nat) (w : World) (v : Value) (ps : List Op6) : Prop :=
  ∃ cs : List (List Value), Sl N w 46 v ps.length cs.flatten ∧ cs.length = ps.length ∧ ∀ i, i < ps.length → O6 N w (cs.getD i []) (ps.getD i opz)
theorem OPL.all {N : List Nat} {w : World} {cs : List (List Value)} {ps : List Op6} (hl : cs.length = ps.length) (h : ∀ i, i < ps.length → O6 N w (cs.getD i []) (ps.getD i opz)) : ∀ c ∈ cs, c.length = 46 := by
  intro c hc
  obtain ⟨i, hi, rfl⟩ := List.getElem_of_mem hc
  have := (h i (by omega)).len
  rwa [List.getD_eq_getElem?_getD, List.getElem?_eq_getElem hi] at this
set_option maxHeartbeats 1000000 in
theorem c38 (v : Value) (ps : List Op6) (lo hi : Int) (w : World) (hP : OPL [] w v ps) (hok : ∀ p ∈ ps, p.ok) (hl : ps.length ≤ 1099511627000) (hg : GV [] w 0 130 (W4.map i64)) :
  CallsD Tryd.prog 38 #[v, .int .i64 lo, .int .i64 hi] w (.bool true) := by
 refine enter Tryd.func38 rfl Tryd.ntmps38 (l := [(0, [], _), (1, [], _), (2, [], _)]) rfl rfl ?_
 have S := St.refl [] w
 obtain ⟨cs, hPS, hcl, hPO⟩ := hP
 have hall := OPL.all hcl hPO
 refine Run.seq ?_
 refine Run.region ?_
 refine asg1 rfl rfl ?_
 refine Ro.nil ?_
 refine Nrm.code ?_
 refine Run.seq ?_
 refine Run.region ?_
 refine calg (vs := []) rfl trivial k28 rfl (fun hG => c28 _ (hg.now S)) ?_
 intro w1 B_; have S := S.call B_
 refine asg1 rfl rfl ?_
 refine Ro.nil ?_
 refine Nrm.code ?_
 refine Run.seq ?_
 refine Run.seq ?_
 refine Run.region ?_
 refine asg1 rfl rfl ?_
 refine Ro.nil ?_
 refine Nrm.code ?_
 refine Run.block ?_
 refine Run.loop1 (fun (i : Nat) w_ => i ≤ ps.length ∧ St [] w [] w_) (fun (i : Nat) => [(0, [], v), (1, [], .int .i64 lo), (2, [], .int .i64 hi), (7, [], .bool true), (8, [], .int .i64 i)]) (fun (i : Nat) => ps.length - i) (0) ⟨Nat.zero_le _, S⟩ ⟨rfl, rfl, rfl, rfl, rfl, trivial⟩ ?_
 rintro i w2 ⟨hi, S⟩
 refine Run.seq ?_
 refine Run.seq ?_
 refine Run.region ?_
 refine mv1 rfl rfl ?_
 refine mv1 rfl rfl ?_
 refine lenS rfl hPS Tryd.underlying43 rfl rfl rfl ?_
 refine lss1 rfl rfl rfl ?_
 refine mv1 rfl rfl ?_
 refine mv rfl rfl rfl rfl ?_
 refine pkA rfl rfl rfl rfl rfl rfl ?_
 refine Ro.nil ?_
 refine Nrm.code ?_
 refine Run.cond rfl (fun hc3 => ?_) (fun hc3 => ?_)
 ·
  try simp only [Bool.or_eq_true, Bool.and_eq_true, Bool.or_eq_false_iff, Bool.and_eq_false_iff, decide_eq_true_eq, decide_eq_false_iff_not, Bool.not_eq_true', Bool.not_eq_false', Bool.not_eq_true, Bool.not_eq_false] at hc3
  refine Run.skip ?_
  refine Nrm.code ?_
  refine Run.seq ?_
  refine Run.block ?_
  refine Run.seq ?_
  refine Run.region ?_
  have hil : i < ps.length := by omega
  obtain ⟨vB, o, d, vL, he, hB, hO, hd, hL⟩ := (hPO i hil).ex
  have hi2 : (i : Int).toNat * 46 + 46 ≤ cs.flatten.length ∧ (cs.flatten.drop ((i : Int).toNat * 46)).take 46 = encOp6 (ps.getD i opz) vB o d vL := by have h2 := flat_at hall (i := i) (by omega); rw [he] at h2; exact h2
  have hpo := hok _ (getD_mem' (d := opz) hil)
  refine mv1 rfl rfl ?_
  refine mv1 rfl rfl ?_
  refine ixa rfl rfl hPS e43 rfl rfl rfl rfl (fun _ => by first | omega | (simp only [List.length_cons, List.length_nil]; omega)) ?_
  refine ldEA rfl hPS S T144 rfl rfl rfl (by decide) rfl (fun _ => hi2) ?_
  refine alc T144 S rfl ?_
  intro b9 w3 hb9 S B_
  refine stW rfl rfl T144 rfl rfl (one_cons rfl (one_cons hB.one (one_cons rfl (one_cons rfl (one_cons rfl (one_cons rfl (one_cons rfl (one_cons rfl (one_cons rfl (one_cons rfl (one_cons rfl (one_cons rfl (one_cons rfl (one_cons rfl (one_cons rfl (one_cons rfl (one_cons rfl (one_cons rfl (one_cons rfl (one_cons rfl (one_cons rfl (one_cons rfl (one_cons rfl (one_cons rfl (one_cons rfl (one_cons rfl (one_cons rfl (one_cons rfl (one_cons rfl (one_cons rfl (one_cons rfl (one_cons rfl (one_cons rfl (one_cons rfl (one_cons rfl (one_cons rfl (one_cons rfl (one_cons rfl (one_cons rfl (one_cons rfl (one_cons rfl (one_cons rfl (one_cons rfl (one_cons hO.one (one_cons hd.one (one_cons hL.one one_nil)))))))))))))))))))))))))))))))))))))))))))))) S (i := 0) rfl rfl ?_
  intro w4 S
  refine Ro.nil ?_
  refine Nrm.code ?_
  refine Run.seq ?_
  refine Run.seq ?_
  refine Run.region ?_
  refine fld (o' := 0) rfl fo144_0 rfl rfl rfl rfl ?_
  refine ld1 rfl T3 S (i := 0) rfl rfl rfl rfl rfl ?_
  refine mv1 rfl rfl ?_
  refine lss1 rfl rfl rfl ?_
  refine mv1 rfl rfl ?_
  refine fld (o' := 0) rfl fo144_0 rfl rfl rfl rfl ?_
  refine ld1 rfl T3 S (i := 0) rfl rfl rfl rfl rfl ?_
  refine mv rfl rfl rfl rfl ?_
  refine gtr rfl rfl rfl rfl rfl rfl ?_
  refine pkO rfl rfl rfl rfl rfl rfl ?_
  refine Ro.nil ?_
  refine Nrm.code ?_
  refine Run.cond rfl (fun hc6 => ?_) (fun hc6 => ?_)
  ·
   try simp only [Bool.or_eq_true, Bool.and_eq_true, Bool.or_eq_false_iff, Bool.and_eq_false_iff, decide_eq_true_eq, decide_eq_false_iff_not, Bool.not_eq_true', Bool.not_eq_false', Bool.not_eq_true, Bool.not_eq_false] at hc6
   refine Run.exit ?_
   refine Lv.code ?_
   refine Lv.hit ?_
   refine Nrm.code ?_
   refine Run.region ?_
   refine mv1 rfl rfl ?_
   refine add1 rfl rfl rfl (w64 (by omega)) ?_
   refine asg1 rfl rfl ?_
   refine Ro.nil ?_
   refine Nrm.loop1 (i + 1) ⟨by omega, S.clear⟩ (by omega) ⟨rfl, rfl, rfl, rfl, rfl, trivial⟩
  ·
   try simp only [Bool.or_eq_true, Bool.and_eq_true, Bool.or_eq_false_iff, Bool.and_eq_false_iff, decide_eq_true_eq, decide_eq_false_iff_not, Bool.not_eq_true', Bool.not_eq_false', Bool.not_eq_true, Bool.not_eq_false] at hc6
   refine Run.skip ?_
   refine Nrm.code ?_
   refine Run.seq ?_
   refine Run.region ?_
   refine fld (o' := 0) rfl fo144_0 rfl rfl rfl rfl ?_
   refine ld1 rfl T3 S (i := 0) rfl rfl rfl rfl rfl ?_
   refine eql1 rfl rfl rfl ?_
   refine mv1 rfl rfl ?_
   refine fld (o' := 0) rfl fo144_0 rfl rfl rfl rfl ?_
   refine ld1 rfl T3 S (i := 0) rfl rfl rfl rfl rfl ?_
   refine eql rfl rfl rfl rfl rfl rfl ?_
   refine pkO rfl rfl rfl rfl rfl rfl ?_
   refine mv1 rfl rfl ?_
   refine fld (o' := 0) rfl fo144_0 rfl rfl rfl rfl ?_
   refine ld1 rfl T3 S (i := 0) rfl rfl rfl rfl rfl ?_
   refine eql rfl rfl rfl rfl rfl rfl ?_
   refine pkO rfl rfl rfl rfl rfl rfl ?_
   refine Ro.nil ?_
   refine Nrm.code ?_
   refine Run.cond rfl (fun hc7 => ?_) (fun hc7 => ?_)
   ·
    try simp only [Bool.or_eq_true, Bool.and_eq_true, Bool.or_eq_false_iff, Bool.and_eq_false_iff, decide_eq_true_eq, decide_eq_false_iff_not, Bool.not_eq_true', Bool.not_eq_false', Bool.not_eq_true, Bool.not_eq_false] at hc7
    refine Run.region ?_
    refine ldW rfl T144 S (i := 0) rfl rfl rfl rfl rfl ?_
    refine calg (vs := [_]) rfl ⟨⟨_, _, rfl, rfl⟩, trivial⟩ k106 rfl (fun hG => c106 _ vB o d vL _ hB.one (hO.now S) (hd.now S) (hL.now S) hpo.o hpo.d hpo.od hpo.l hpo.ld hpo.s hpo.t (hg.now S)) ?_
    intro w5 B_; have S := S.call B_
    refine asg1 rfl rfl ?_
    refine Ro.nil ?_
    refine Nrm.blk ?_
    refine Nrm.code ?_
    refine Run.region ?_
    refine mv1 rfl rfl ?_
    refine add1 rfl rfl rfl (w64 (by omega)) ?_
    refine asg1 rfl rfl ?_
    refine Ro.nil ?_
    refine Nrm.loop1 (i + 1) ⟨by omega, S.clear⟩ (by omega) ⟨rfl, rfl, rfl, rfl, rfl, trivial⟩
   ·
    try simp only [Bool.or_eq_true, Bool.and_eq_true, Bool.or_eq_false_iff, Bool.and_eq_false_iff, decide_eq_true_eq, decide_eq_false_iff_not, Bool.not_eq_true', Bool.not_eq_false', Bool.not_eq_true, Bool.not_eq_false] at hc7
    refine Run.region ?_
    refine ldW rfl T144 S (i := 0) rfl rfl rfl rfl rfl ?_
    refine calg (vs := [_]) rfl ⟨⟨_, _, rfl, rfl⟩, trivial⟩ k107 rfl (fun hG => c107 _ vB o d vL _ (hB.now S) hpo.b (hg.now S)) ?_
    intro w5 B_; have S := S.call B_
    refine asg1 rfl rfl ?_
    refine Ro.nil ?_
    refine Nrm.blk ?_
    refine Nrm.code ?_
    refine Run.region ?_
    refine mv1 rfl rfl ?_
    refine add1 rfl rfl rfl (w64 (by omega)) ?_
    refine asg1 rfl rfl ?_
    refine Ro.nil ?_
    refine Nrm.loop1 (i + 1) ⟨by omega, S.clear⟩ (by omega) ⟨rfl, rfl, rfl, rfl, rfl, trivial⟩
 ·
  try simp only [Bool.or_eq_true, Bool.and_eq_true, Bool.or_eq_false_iff, Bool.and_eq_false_iff, decide_eq_true_eq, decide_eq_false_iff_not, Bool.not_eq_true', Bool.not_eq_false', Bool.not_eq_true, Bool.not_eq_false] at hc3
  refine Run.exit ?_
  refine Lv.code ?_
  refine Lv.back ?_
  refine Lv.hit ?_
  refine Nrm.code ?_
  refine Run.seq ?_
  refine Run.region ?_
  refine mv1 rfl rfl ?_
  refine asg1 rfl rfl ?_
  refine Ro.nil ?_
  refine Nrm.code ?_
  refine Run.ret ?_
  refine Rt.one rfl rfl ?_
  exact ⟨rfl, S.bl⟩
set_option maxHeartbeats 1000000 in
theorem c6 (v : Value) (ps : List Op6) (w : World) (hP : OPL [] w v ps) (hok : ∀ p ∈ ps, p.ok) (hl : ps.length ≤ 1099511627000) (hg : GV [] w 0 130 (W4.map i64)) :
  CallsD Tryd.prog 6 #[v] w (.bool true) := by
 refine enter Tryd.func6 rfl Tryd.ntmps6 (l := [(0, [], _)]) rfl rfl ?_
 have S := St.refl [] w
 refine Run.seq ?_
 refine Run.region ?_
 refine asg1 rfl rfl ?_
 refine Ro.nil ?_
 refine Nrm.code ?_
 refine Run.seq ?_
 refine Run.region ?_
 refine mv1 rfl rfl ?_
 refine calg (vs := [_, _, _]) rfl ⟨⟨_, _, rfl, rfl⟩, ⟨_, _, rfl, rfl⟩, ⟨_, _, rfl, rfl⟩, trivial⟩ k38 rfl (fun hG => c38 _ ps _ _ _ hP hok hl hg) ?_
 intro w1 B_; have S := S.call B_
 refine asg1 rfl rfl ?_
 refine Ro.nil ?_
 refine Nrm.code ?_
 refine Run.ret ?_
 refine Rt.one rfl rfl ?_
 exact ⟨rfl, S.bl⟩
set_option maxHeartbeats 1000000 in
theorem c7 (v : Value) (ps : List Op6) (w : World) (hP : OPL [] w v ps) (hok : ∀ p ∈ ps, p.ok) (hl : ps.length ≤ 1099511627000) (hg : GV [] w 0 130 (W4.map i64)) :
  CallsD Tryd.prog 7 #[v] w (.bool true) := by
 refine enter Tryd.func7 rfl Tryd.ntmps7 (l := [(0, [], _)]) rfl rfl ?_
 have S := St.refl [] w
 refine Run.seq ?_
 refine Run.region ?_
 refine asg1 rfl rfl ?_
 refine Ro.nil ?_
 refine Nrm.code ?_
 refine Run.seq ?_
 refine Run.region ?_
 refine mv1 rfl rfl ?_
 refine calg (vs := [_, _, _]) rfl ⟨⟨_, _, rfl, rfl⟩, ⟨_, _, rfl, rfl⟩, ⟨_, _, rfl, rfl⟩, trivial⟩ k38 rfl (fun hG => c38 _ ps _ _ _ hP hok hl hg) ?_
 intro w1 B_; have S := S.call B_
 refine asg1 rfl rfl ?_
 refine Ro.nil ?_
 refine Nrm.code ?_
 refine Run.ret ?_
 refine Rt.one rfl rfl ?_
 exact ⟨rfl, S.bl⟩
set_option maxHeartbeats 1000000 in
theorem c8 (v : Value) (ps : List Op6) (w : World) (hP : OPL [] w v ps) (hok : ∀ p ∈ ps, p.ok) (hl : ps.length ≤ 1099511627000) (hg : GV [] w 0 130 (W4.map i64)) :
  CallsD Tryd.prog 8 #[v] w (.bool true) := by
 refine enter Tryd.func8 rfl Tryd.ntmps8 (l := [(0, [], _)]) rfl rfl ?_
 have S := St.refl [] w
 refine Run.seq ?_
 refine Run.region ?_
 refine asg1 rfl rfl ?_
 refine Ro.nil ?_
 refine Nrm.code ?_
 refine Run.seq ?_
 refine Run.region ?_
 refine mv1 rfl rfl ?_
 refine calg (vs := [_, _, _]) rfl ⟨⟨_, _, rfl, rfl⟩, ⟨_, _, rfl, rfl⟩, ⟨_, _, rfl, rfl⟩, trivial⟩ k38 rfl (fun hG => c38 _ ps _ _ _ hP hok hl hg) ?_
 intro w1 B_; have S := S.call B_
 refine asg1 rfl rfl ?_
 refine Ro.nil ?_
 refine Nrm.code ?_
 refine Run.ret ?_
 refine Rt.one rfl rfl ?_
 exact ⟨rfl, S.bl⟩
end Go.Proofs.YtkahmepenjhcpaaDoor.W
/- Contracts: scripts of layer 9. No statement of the seat is proved here. -/
namespace Go.Proofs.YtkahmepenjhcpaaDoor.W
open Go
set_option linter.unusedSimpArgs false
set_option linter.unusedVariables false
def opz9 : Op9 := ⟨0, ⟨0, fun _ => 0⟩, ⟨0, fun _ => 0⟩, [], u00, t00, [], 0⟩
/-- one call of a script, as it is read -/
structure O9 (N : List Nat) (w : World) (c : List Value) (p : Op9) : Prop where
  ex : ∃ vB ud to_ td vL, c = encOp9 p vB ud to_ td vL ∧ BS N w vB p.b ∧ BS N w ud p.u.data ∧ OS N w to_ p.t.opts ∧ BS N w td p.t.data ∧ OS N w vL p.l
theorem O9.st {N0 : List Nat} {w0 w : World} {L : List Own} {c : List Value} {p : Op9} (h : O9 N0 w0 c p) (S : St N0 w0 L w) : O9 (idsL L) w c p :=
  let ⟨vB, ud, to_, td, vL, h1, h2, h3, h4, h5, h6⟩ := h.ex; ⟨vB, ud, to_, td, vL, h1, h2.st S, h3.st S, h4.st S, h5.st S, h6.st S⟩
theorem O9.len {N : List Nat} {w : World} {c : List Value} {p : Op9} (h : O9 N w c p) : c.length = 51 := by
  obtain ⟨vB, ud, to_, td, vL, rfl, _⟩ := h.ex; rfl
structure Op9.ok (p : Op9) : Prop where
  b : p.b.length ≤ 1099511627000
  ud : p.u.data.length ≤ 1099511627000
  o : p.t.opts.length ≤ 1099511627000
  od : ∀ x ∈ p.t.opts, x.data.length ≤ 1099511627000
  d : p.t.data.length ≤ 1099511627000
  l : p.l.length ≤ 1099511627000
  ld : ∀ x ∈ p.l, x.data.length ≤ 1099511627000
  s : p.s.ok
  t : p.d.ok
/-- a script -/
def OPL9 (N : List Nat) (w : World) (v : Value) (ps : List Op9) : Prop :=
  ∃ cs : List (List Value), Sl N w 51 v ps.length cs.flatten ∧ cs.length = ps.length ∧ ∀ i, i < ps.length → O9 N w (cs.getD i []) (ps.getD i opz9)
theorem OPL9.all {N : List Nat} {w : World} {cs : List (List Value)} {ps : List Op9} (hl : cs.length = ps.length) (h : ∀ i, i < ps.length → O9 N w (cs.getD i []) (ps.getD i opz9)) : ∀ c ∈ cs, c.length = 51 := by
  intro c hc
  obtain ⟨i, hi, rfl⟩ := List.getElem_of_mem hc
  have := (h i (by omega)).len
  rwa [List.getD_eq_getElem?_getD, List.getElem?_eq_getElem hi] at this
end Go.Proofs.YtkahmepenjhcpaaDoor.W
/- The base: append to a slice that is full: its bytes stay, a new row is made. No statement of the seat is proved here. -/
namespace Go.Proofs.YtkahmepenjhcpaaDoor.W
open Go
set_option linter.unusedVariables false
set_option linter.unusedSimpArgs false
theorem ownsRow_base {w : World} {b b' : Nat} {e : TypeId} {size : Nat} {v : Value} {n : Nat} {xs : List Value} (h : w.ownsRow b e size v n xs) (hb : b' ≤ b) : w.ownsRow b' e size v n xs := by
  refine ⟨h.1, ?_⟩
  rcases h.2 with h | ⟨g, cap, cur, h1, h2, r⟩
  · exact .inl h
  · exact .inr ⟨g, cap, cur, h1, Nat.le_trans hb h2, r⟩
theorem grown_bl {w w' : World} (h : w.grownBy w' none) : Bl w w' := ⟨h.os, h.tape, h.output, h.size, fun i hi => h.block i hi (by simp)⟩
section
variable {P : Program} {R : Qp} {ds : List Deferred} {n : Nat} {l : Env} {k : List KI} {w w0 : World} {ops : Array Oper} {os : List Oper}
variable {d : Nat} {ty : TypeId} {ps : String} {af : Array Edge} {x y : Operand} {N0 : List Nat} {L : List Own}
/-- append to a slice without room: a new row; what there was stays -/
theorem apG {T : TypeId} {zc : List Value} {v q : Value} {a b : List Int} (hx : ev l x = some ([], v)) (hy : ev l y = some ([], q)) (hE : ElT P T 5 1 1 zc)
    (hv : BS [] w v a) (hq : BS [] w q b) (hfull : capV v < a.length + b.length) (S : St N0 w0 L w) (hn : Nat.blt d n = true) (hroom : a.length + b.length ≤ 140737488355328)
    (h : ∀ v' w', St N0 w0 (oB v' (a ++ b) :: L) w' → Bl w w' → Ro P R ds n ops ((d, [], v') :: l) os k w') :
    Ro P R ds n ops l ({ dst := some d, op := .call { callee := .builtin .append, args := #[x, y], argTypes := #[T, T] }, type := ty, pos := ps, after := af, guard := none } :: os) k w := by
  obtain ⟨i, z, g1, g2, g3, g4, g5⟩ := hE.get
  have hzs : z.cells.size = 1 := by rw [← hE.l, ← g5]; simp
  obtain ⟨_, hl1, A, cap, rfl, hc1, hA, hR⟩ := hv
  obtain ⟨_, hl2, A', cap', rfl, hc2, hA', hR'⟩ := hq
  simp only [capV] at hfull
  have hpos : 0 < (b.map u8).length := by rw [List.length_map]; omega
  obtain ⟨ad, rfl, _⟩ := hR' 0 hpos
  have hlr : (a.map u8).length = a.length * 1 := by simp
  have hlr' : (b.map u8).length = b.length * 1 := by simp
  refine fun act ha => ?_
  refine wpList_append_grows w rfl x y T rfl 5 i z 1 1 hE.u g1 g4 g2 g3 hzs (by decide) A a.length cap (a.map u8) (ha.eval hx trivial) (fun hn => by have := hA hn; omega) hlr (fun b' hb' j u hj => ?_) ad b.length cap' (b.map u8) (ha.eval hy trivial) hlr' hR'.cells (one_u8 b) hfull (by simp only [maxLen]; omega) (by omega) ?_
  · subst hb'; exact hR.cells j u hj
  · intro v' w' r1 r2
    have B := grown_bl r2
    have hold : (oB v' (a ++ b)).holds w' := by
      have h1 := ownsRow_base r1 (Nat.zero_le _)
      show w'.ownsRow 0 5 1 v' (a ++ b).length ((a ++ b).map u8)
      rw [List.length_append, List.map_append]
      exact h1
    refine h v' w' (S.new B hold (fun j hj => ?_) (Own.ids_nodup _)) B _ (ha.put (Nat.le_of_ble_eq_true hn) [] v')
    exact (r1.lt j ((ids_ownBlock v' 5 1 _ _ j).1 hj)).1
end
end Go.Proofs.YtkahmepenjhcpaaDoor.W
