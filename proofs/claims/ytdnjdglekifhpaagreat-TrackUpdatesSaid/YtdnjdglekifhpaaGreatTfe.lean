/- All updates of some moments are as the document says. No conditions: every input. -/
import Derived.Laws.Rows
import Derived.Outline
import Derived.Lib.SmallJoins
import Derived.Test.YtdnjdglekifhpaaGreatTfd
set_option maxRecDepth 100000
set_option maxHeartbeats 8000000
namespace Go.Proofs.YtdnjdglekifhpaaGreat
open Go.RowKit
def updBad (lr b1 b2 eps wd f t:Int) (hi:Rat):Bool:= !rightA lr b1 b2 eps wd f || (decide (t<1) || (decide (30<t) || decide (hi.num<0)))
theorem pupd_res (lr b1 b2 eps wd:Int) (apart:Bool) (f t:Int) (ra rb rc rd:Rat) (w:World) (i1:In64 lr) (i2:In64 b1) (i3:In64 b2) (i4:In64 eps) (A1 D1 A2 D2 A3 D3 A4 D4:Option Addr) (L1 C1 M1 E1 L2 C2 M2 E2 L3 C3 M3 E3 L4 C4 M4 E4:Nat) (s1 s2 s3 s4:Bool)
 (h1:IsS w (.agg #[.bool s1,.slice A1 L1 C1,.slice D1 M1 E1,.bool s2,.slice A2 L2 C2,.slice D2 M2 E2]) ra rb) (h2:IsS w (.agg #[.bool s3,.slice A3 L3 C3,.slice D3 M3 E3,.bool s4,.slice A4 L4 C4,.slice D4 M4 E4]) rc rd) (b0:BQ ra 10) (b0':BQ rb 10) (b2':BQ rc 10) (b3:BQ rd 10):
 Calls Tryz.prog 32 #[.agg #[.int .i64 lr,.int .i64 b1,.int .i64 b2,.int .i64 eps,.int .i64 wd,.bool apart],.int .i64 f,.int .i64 t,.agg #[.bool s1,.slice A1 L1 C1,.slice D1 M1 E1,.bool s2,.slice A2 L2 C2,.slice D2 M2 E2,.bool s3,.slice A3 L3 C3,.slice D3 M3 E3,.bool s4,.slice A4 L4 C4,.slice D4 M4 E4]] w fun e w'=>∃v',e= .returned (.tuple #[v',.int .i64 (errOf (updBad lr b1 b2 eps wd f t rd))])∧ResS (updBad lr b1 b2 eps wd f t rd) (updLo (1 - powQ (mkRat b1 (2^f.toNat)) t.toNat) (1 - powQ (mkRat b2 (2^f.toNat)) t.toNat) (mkRat eps (2^f.toNat)) (mkRat lr (2^f.toNat)) ra rb (if rc.num<0 then 0 else rc) rd) (updHi (1 - powQ (mkRat b1 (2^f.toNat)) t.toNat) (1 - powQ (mkRat b2 (2^f.toNat)) t.toNat) (mkRat eps (2^f.toNat)) (mkRat lr (2^f.toNat)) ra rb (if rc.num<0 then 0 else rc) rd) w' v'∧Below w.heap.size w w':=by
 have hbad:∀(_:(updBad lr b1 b2 eps wd f t rd)=true) (_:Calls Tryz.prog 32 #[.agg #[.int .i64 lr,.int .i64 b1,.int .i64 b2,.int .i64 eps,.int .i64 wd,.bool apart],.int .i64 f,.int .i64 t,.agg #[.bool s1,.slice A1 L1 C1,.slice D1 M1 E1,.bool s2,.slice A2 L2 C2,.slice D2 M2 E2,.bool s3,.slice A3 L3 C3,.slice D3 M3 E3,.bool s4,.slice A4 L4 C4,.slice D4 M4 E4]] w fun e w'=>e= .returned (.tuple #[.agg #[.bool false,.slice none 0 0,.slice none 0 0,.bool false,.slice none 0 0,.slice none 0 0],.int .i64 1])∧Below w.heap.size w w'),Calls Tryz.prog 32 #[.agg #[.int .i64 lr,.int .i64 b1,.int .i64 b2,.int .i64 eps,.int .i64 wd,.bool apart],.int .i64 f,.int .i64 t,.agg #[.bool s1,.slice A1 L1 C1,.slice D1 M1 E1,.bool s2,.slice A2 L2 C2,.slice D2 M2 E2,.bool s3,.slice A3 L3 C3,.slice D3 M3 E3,.bool s4,.slice A4 L4 C4,.slice D4 M4 E4]] w fun e w'=>∃v',e= .returned (.tuple #[v',.int .i64 (errOf (updBad lr b1 b2 eps wd f t rd))])∧ResS (updBad lr b1 b2 eps wd f t rd) (updLo (1 - powQ (mkRat b1 (2^f.toNat)) t.toNat) (1 - powQ (mkRat b2 (2^f.toNat)) t.toNat) (mkRat eps (2^f.toNat)) (mkRat lr (2^f.toNat)) ra rb (if rc.num<0 then 0 else rc) rd) (updHi (1 - powQ (mkRat b1 (2^f.toNat)) t.toNat) (1 - powQ (mkRat b2 (2^f.toNat)) t.toNat) (mkRat eps (2^f.toNat)) (mkRat lr (2^f.toNat)) ra rb (if rc.num<0 then 0 else rc) rd) w' v'∧Below w.heap.size w w':=by
  intro hb hc
  rw[hb]
  refine hc.mono ?_
  rintro e w' ⟨rfl,b⟩
  exact⟨_,rfl,by unfold ResS;rw[if_pos rfl],b⟩
 cases hr:rightA lr b1 b2 eps wd f
 ·exact hbad (by unfold updBad;rw[hr];rfl) (pupdno_any lr b1 b2 eps wd apart f t w A1 D1 A2 D2 A3 D3 A4 D4 L1 C1 M1 E1 L2 C2 M2 E2 L3 C3 M3 E3 L4 C4 M4 E4 s1 s2 s3 s4 (.inl hr))
 cases t1:decide (t<1)
 case true=>exact hbad (by unfold updBad;rw[hr,t1];rfl) (pupdno_any lr b1 b2 eps wd apart f t w A1 D1 A2 D2 A3 D3 A4 D4 L1 C1 M1 E1 L2 C2 M2 E2 L3 C3 M3 E3 L4 C4 M4 E4 s1 s2 s3 s4 (.inr (.inl ⟨hr,t1⟩)))
 cases t2:decide (30<t)
 case true=>exact hbad (by unfold updBad;rw[hr,t1,t2];rfl) (pupdno_any lr b1 b2 eps wd apart f t w A1 D1 A2 D2 A3 D3 A4 D4 L1 C1 M1 E1 L2 C2 M2 E2 L3 C3 M3 E3 L4 C4 M4 E4 s1 s2 s3 s4 (.inr (.inr (.inl ⟨hr,t1,t2⟩))))
 have e4:s4=decide (rd.num<0):=by
  obtain⟨_,_,_,_,_,_,e,_,q4⟩:=id h2
  cases e
  exact q4.parts.1
 by_cases n1:rd.num<0
 ·rw[decide_eq_true n1] at e4
  subst e4
  exact hbad (by unfold updBad;rw[hr,t1,t2,decide_eq_true n1];rfl) (pupdno_any lr b1 b2 eps wd apart f t w A1 D1 A2 D2 A3 D3 A4 D4 L1 C1 M1 E1 L2 C2 M2 E2 L3 C3 M3 E3 L4 C4 M4 E4 s1 s2 s3 true (.inr (.inr (.inr ⟨hr,t1,t2,rfl⟩))))
 have hz:(updBad lr b1 b2 eps wd f t rd)=false:=by unfold updBad;rw[hr,t1,t2,decide_eq_false n1];rfl
 rw[hz]
 have f0:0≤f:=by unfold rightA at hr;have:=of_decide_eq_true hr;omega
 have u1:=of_decide_eq_false t1
 have u2:=of_decide_eq_false t2
 obtain⟨k,rfl⟩:∃k:Nat,f=(k:Int):=⟨f.toNat,by omega⟩
 obtain⟨n,rfl⟩:∃n:Nat,t=(n:Int):=⟨t.toNat,by omega⟩
 rw[Int.toNat_natCast,Int.toNat_natCast]
 refine (pupd_any lr b1 b2 eps wd apart k n _ _ ra rb rc rd w hr i1 i2 i3 i4 (by omega) (by omega) h1 h2 b0 b0' b2' b3 n1 A1 D1 A2 D2 A3 D3 A4 D4 L1 C1 M1 E1 L2 C2 M2 E2 L3 C3 M3 E3 L4 C4 M4 E4 s1 s2 s3 s4 rfl rfl).mono ?_
 rintro e w' ⟨v',rfl,q,b⟩
 exact⟨v',rfl,by unfold ResS;rw[if_neg (by simp)];exact q,b⟩
theorem rupd_res (lr b1 b2 eps wd:Int) (apart:Bool) (f t:Int) (ra rb rc rd:Rat) (w:World) (i1:In64 lr) (i2:In64 b1) (i3:In64 b2) (i4:In64 eps) (A1 D1 A2 D2 A3 D3 A4 D4:Option Addr) (L1 C1 M1 E1 L2 C2 M2 E2 L3 C3 M3 E3 L4 C4 M4 E4:Nat) (s1 s2 s3 s4:Bool)
 (h1:IsS w (.agg #[.bool s1,.slice A1 L1 C1,.slice D1 M1 E1,.bool s2,.slice A2 L2 C2,.slice D2 M2 E2]) ra rb) (h2:IsS w (.agg #[.bool s3,.slice A3 L3 C3,.slice D3 M3 E3,.bool s4,.slice A4 L4 C4,.slice D4 M4 E4]) rc rd) (b0:BQ ra 10) (b0':BQ rb 10) (b2':BQ rc 10) (b3:BQ rd 10):
 Calls Tryz.prog 33 #[.agg #[.int .i64 lr,.int .i64 b1,.int .i64 b2,.int .i64 eps,.int .i64 wd,.bool apart],.int .i64 f,.int .i64 t,.agg #[.bool s1,.slice A1 L1 C1,.slice D1 M1 E1,.bool s2,.slice A2 L2 C2,.slice D2 M2 E2,.bool s3,.slice A3 L3 C3,.slice D3 M3 E3,.bool s4,.slice A4 L4 C4,.slice D4 M4 E4]] w fun e w'=>∃v',e= .returned (.tuple #[v',.int .i64 (errOf (updBad lr b1 b2 eps wd f t rd))])∧ResS (updBad lr b1 b2 eps wd f t rd) (updLo (1 - powQ (mkRat b1 (2^f.toNat)) t.toNat) (1 - powQ (mkRat b2 (2^f.toNat)) t.toNat) (mkRat eps (2^f.toNat)) (mkRat lr (2^f.toNat)) ra rb (if rc.num<0 then 0 else rc) rd) (updHi (1 - powQ (mkRat b1 (2^f.toNat)) t.toNat) (1 - powQ (mkRat b2 (2^f.toNat)) t.toNat) (mkRat eps (2^f.toNat)) (mkRat lr (2^f.toNat)) ra rb (if rc.num<0 then 0 else rc) rd) w' v'∧Below w.heap.size w w':=by
 have hbad:∀(_:(updBad lr b1 b2 eps wd f t rd)=true) (_:Calls Tryz.prog 33 #[.agg #[.int .i64 lr,.int .i64 b1,.int .i64 b2,.int .i64 eps,.int .i64 wd,.bool apart],.int .i64 f,.int .i64 t,.agg #[.bool s1,.slice A1 L1 C1,.slice D1 M1 E1,.bool s2,.slice A2 L2 C2,.slice D2 M2 E2,.bool s3,.slice A3 L3 C3,.slice D3 M3 E3,.bool s4,.slice A4 L4 C4,.slice D4 M4 E4]] w fun e w'=>e= .returned (.tuple #[.agg #[.bool false,.slice none 0 0,.slice none 0 0,.bool false,.slice none 0 0,.slice none 0 0],.int .i64 1])∧Below w.heap.size w w'),Calls Tryz.prog 33 #[.agg #[.int .i64 lr,.int .i64 b1,.int .i64 b2,.int .i64 eps,.int .i64 wd,.bool apart],.int .i64 f,.int .i64 t,.agg #[.bool s1,.slice A1 L1 C1,.slice D1 M1 E1,.bool s2,.slice A2 L2 C2,.slice D2 M2 E2,.bool s3,.slice A3 L3 C3,.slice D3 M3 E3,.bool s4,.slice A4 L4 C4,.slice D4 M4 E4]] w fun e w'=>∃v',e= .returned (.tuple #[v',.int .i64 (errOf (updBad lr b1 b2 eps wd f t rd))])∧ResS (updBad lr b1 b2 eps wd f t rd) (updLo (1 - powQ (mkRat b1 (2^f.toNat)) t.toNat) (1 - powQ (mkRat b2 (2^f.toNat)) t.toNat) (mkRat eps (2^f.toNat)) (mkRat lr (2^f.toNat)) ra rb (if rc.num<0 then 0 else rc) rd) (updHi (1 - powQ (mkRat b1 (2^f.toNat)) t.toNat) (1 - powQ (mkRat b2 (2^f.toNat)) t.toNat) (mkRat eps (2^f.toNat)) (mkRat lr (2^f.toNat)) ra rb (if rc.num<0 then 0 else rc) rd) w' v'∧Below w.heap.size w w':=by
  intro hb hc
  rw[hb]
  refine hc.mono ?_
  rintro e w' ⟨rfl,b⟩
  exact⟨_,rfl,by unfold ResS;rw[if_pos rfl],b⟩
 cases hr:rightA lr b1 b2 eps wd f
 ·exact hbad (by unfold updBad;rw[hr];rfl) (rupdno_any lr b1 b2 eps wd apart f t w A1 D1 A2 D2 A3 D3 A4 D4 L1 C1 M1 E1 L2 C2 M2 E2 L3 C3 M3 E3 L4 C4 M4 E4 s1 s2 s3 s4 (.inl hr))
 cases t1:decide (t<1)
 case true=>exact hbad (by unfold updBad;rw[hr,t1];rfl) (rupdno_any lr b1 b2 eps wd apart f t w A1 D1 A2 D2 A3 D3 A4 D4 L1 C1 M1 E1 L2 C2 M2 E2 L3 C3 M3 E3 L4 C4 M4 E4 s1 s2 s3 s4 (.inr (.inl ⟨hr,t1⟩)))
 cases t2:decide (30<t)
 case true=>exact hbad (by unfold updBad;rw[hr,t1,t2];rfl) (rupdno_any lr b1 b2 eps wd apart f t w A1 D1 A2 D2 A3 D3 A4 D4 L1 C1 M1 E1 L2 C2 M2 E2 L3 C3 M3 E3 L4 C4 M4 E4 s1 s2 s3 s4 (.inr (.inr (.inl ⟨hr,t1,t2⟩))))
 have e4:s4=decide (rd.num<0):=by
  obtain⟨_,_,_,_,_,_,e,_,q4⟩:=id h2
  cases e
  exact q4.parts.1
 by_cases n1:rd.num<0
 ·rw[decide_eq_true n1] at e4
  subst e4
  exact hbad (by unfold updBad;rw[hr,t1,t2,decide_eq_true n1];rfl) (rupdno_any lr b1 b2 eps wd apart f t w A1 D1 A2 D2 A3 D3 A4 D4 L1 C1 M1 E1 L2 C2 M2 E2 L3 C3 M3 E3 L4 C4 M4 E4 s1 s2 s3 true (.inr (.inr (.inr ⟨hr,t1,t2,rfl⟩))))
 have hz:(updBad lr b1 b2 eps wd f t rd)=false:=by unfold updBad;rw[hr,t1,t2,decide_eq_false n1];rfl
 rw[hz]
 have f0:0≤f:=by unfold rightA at hr;have:=of_decide_eq_true hr;omega
 have u1:=of_decide_eq_false t1
 have u2:=of_decide_eq_false t2
 obtain⟨k,rfl⟩:∃k:Nat,f=(k:Int):=⟨f.toNat,by omega⟩
 obtain⟨n,rfl⟩:∃n:Nat,t=(n:Int):=⟨t.toNat,by omega⟩
 rw[Int.toNat_natCast,Int.toNat_natCast]
 refine (rupd_any lr b1 b2 eps wd apart k n _ _ ra rb rc rd w hr i1 i2 i3 i4 (by omega) (by omega) h1 h2 b0 b0' b2' b3 n1 A1 D1 A2 D2 A3 D3 A4 D4 L1 C1 M1 E1 L2 C2 M2 E2 L3 C3 M3 E3 L4 C4 M4 E4 s1 s2 s3 s4 rfl rfl).mono ?_
 rintro e w' ⟨v',rfl,q,b⟩
 exact⟨v',rfl,by unfold ResS;rw[if_neg (by simp)];exact q,b⟩
attribute [local go_sem ↓] Go.wp_at_zero Go.wp_at_succ
theorem Blk.q13 {w:World} {G:Nat} {t:TypeId} {x0 x1 x2 x3 x4 x5 x6 x7 x8 x9 x10 x11 x12:Value} (hb:Blk w G t #[x0,x1,x2,x3,x4,x5,x6,x7,x8,x9,x10,x11,x12]):w.cell? ⟨G,0,none⟩=some x0∧w.cell? ⟨G,1,none⟩=some x1∧w.cell? ⟨G,2,none⟩=some x2∧w.cell? ⟨G,3,none⟩=some x3∧w.cell? ⟨G,4,none⟩=some x4∧w.cell? ⟨G,5,none⟩=some x5∧w.cell? ⟨G,6,none⟩=some x6∧w.cell? ⟨G,7,none⟩=some x7∧w.cell? ⟨G,8,none⟩=some x8∧w.cell? ⟨G,9,none⟩=some x9∧w.cell? ⟨G,10,none⟩=some x10∧w.cell? ⟨G,11,none⟩=some x11∧w.cell? ⟨G,12,none⟩=some x12:=
 ⟨hb.cell 0,hb.cell 1,hb.cell 2,hb.cell 3,hb.cell 4,hb.cell 5,hb.cell 6,hb.cell 7,hb.cell 8,hb.cell 9,hb.cell 10,hb.cell 11,hb.cell 12⟩
theorem TrackUpdates_u1 (lr b1 b2 eps wd:Int) (apart:Bool) (f p0 p1 t:Int) (g0 g1 g2 g3:Value) (s1 s2 s3 s4:Bool) (A1 D1 A2 D2 A3 D3 A4 D4:Option Addr) (C1 E1 C2 E2 C3 E3 C4 E4:Nat) (l1 m1 l2 m2 l3 m3 l4 m4:List Nat) (w:World) (_i1:In64 lr) (_i2:In64 b1) (_i3:In64 b2) (_i4:In64 eps) (p1':IsL w (.slice A1 l1.length C1) l1) (t1':IsL w (.slice D1 m1.length E1) m1) (p2':IsL w (.slice A2 l2.length C2) l2) (t2':IsL w (.slice D2 m2.length E2) m2) (p3':IsL w (.slice A3 l3.length C3) l3) (t3':IsL w (.slice D3 m3.length E3) m3) (p4':IsL w (.slice A4 l4.length C4) l4) (t4':IsL w (.slice D4 m4.length E4) m4) (hf1:fewI s1 l1 m1 s2 l2 m2 2=false):
 Calls Tryz.prog 5 #[.agg #[.int .i64 lr,.int .i64 b1,.int .i64 b2,.int .i64 eps,.int .i64 wd,.bool apart,.int .i64 f,.int .i64 p0,.int .i64 p1,g0,g1,g2,g3],.agg #[.bool s1,.slice A1 l1.length C1,.slice D1 m1.length E1,.bool s2,.slice A2 l2.length C2,.slice D2 m2.length E2,.bool s3,.slice A3 l3.length C3,.slice D3 m3.length E3,.bool s4,.slice A4 l4.length C4,.slice D4 m4.length E4],.int .i64 t] w fun e w'=>e= .returned (.bool true)∧Below w.heap.size w w':=by
 have hA:=fun w=>alive20_any w
 have hF1:=fun w h1 h2 h3 h4=>rsfew_any s1 s2 A1 D1 A2 D2 C1 E1 C2 E2 l1 m1 l2 m2 w h1 h2 h3 h4 2 (by omega)
 have hF2:=fun w h1 h2 h3 h4=>rsfew_any s3 s4 A3 D3 A4 D4 C3 E3 C4 E4 l3 m3 l4 m4 w h1 h2 h3 h4 2 (by omega)
 rw[hf1] at hF1
 clear _i1 _i2 _i3 _i4
 obtain⟨g,Y1,hI,h7,hB,hgw,EY⟩:=boxes2 w 66 #[.int .i64 lr,.int .i64 b1,.int .i64 b2,.int .i64 eps,.int .i64 wd,.bool apart,.int .i64 f,.int .i64 p0,.int .i64 p1,g0,g1,g2,g3] 67 #[.bool s1,.slice A1 l1.length C1,.slice D1 m1.length E1,.bool s2,.slice A2 l2.length C2,.slice D2 m2.length E2,.bool s3,.slice A3 l3.length C3,.slice D3 m3.length E3,.bool s4,.slice A4 l4.length C4,.slice D4 m4.length E4]
 replace p1':=p1'.below hB
 replace t1':=t1'.below hB
 replace p2':=p2'.below hB
 replace t2':=t2'.below hB
 replace p3':=p3'.below hB
 replace t3':=t3'.below hB
 replace p4':=p4'.below hB
 replace t4':=t4'.below hB
 obtain⟨c0,c1,c2,c3,c4,c5,c6,c7,c8,c9,c10,c11,c12⟩:=hI.q13
 obtain⟨c13,c14,c15,c16,c17,c18,c19,c20,c21,c22,c23,c24⟩:=h7.q12
 go_enter Tryz.func5,Tryz.ntmps5
 go_wp2_with fail
 rw[←EY.out.2,←EY.out.1]
 refine (hF1 _ p1' t1' p2' t2').mono ?_
 rintro e w2 ⟨rfl,b2⟩
 replace p1':=p1'.below b2
 replace t1':=t1'.below b2
 replace p2':=p2'.below b2
 replace t2':=t2'.below b2
 replace p3':=p3'.below b2
 replace t3':=t3'.below b2
 replace p4':=p4'.below b2
 replace t4':=t4'.below b2
 replace hI:=hI.b b2
 replace h7:=h7.b b2
 replace hB:=bOn hB b2
 clear c0 c1 c2 c3 c4 c5 c6 c7 c8 c9 c10 c11 c12 c13 c14 c15 c16 c17 c18 c19 c20 c21 c22 c23 c24
 obtain⟨c25,c26,c27,c28,c29,c30,c31,c32,c33,c34,c35,c36,c37⟩:=hI.q13
 obtain⟨c38,c39,c40,c41,c42,c43,c44,c45,c46,c47,c48,c49⟩:=h7.q12
 go_wp2_with fail
 refine (hA _).mono ?_
 rintro e w4 ⟨rfl,b4⟩
 replace p1':=p1'.below b4
 replace t1':=t1'.below b4
 replace p2':=p2'.below b4
 replace t2':=t2'.below b4
 replace p3':=p3'.below b4
 replace t3':=t3'.below b4
 replace p4':=p4'.below b4
 replace t4':=t4'.below b4
 replace hI:=hI.b b4
 replace h7:=h7.b b4
 replace hB:=bOn hB b4
 clear c25 c26 c27 c28 c29 c30 c31 c32 c33 c34 c35 c36 c37 c38 c39 c40 c41 c42 c43 c44 c45 c46 c47 c48 c49
 obtain⟨c50,c51,c52,c53,c54,c55,c56,c57,c58,c59,c60,c61,c62⟩:=hI.q13
 obtain⟨c63,c64,c65,c66,c67,c68,c69,c70,c71,c72,c73,c74⟩:=h7.q12
 go_wp2
 go_ret
 exact⟨rfl,hB⟩
theorem TrackUpdates_u2 (lr b1 b2 eps wd:Int) (apart:Bool) (f p0 p1 t:Int) (g0 g1 g2 g3:Value) (s1 s2 s3 s4:Bool) (A1 D1 A2 D2 A3 D3 A4 D4:Option Addr) (C1 E1 C2 E2 C3 E3 C4 E4:Nat) (l1 m1 l2 m2 l3 m3 l4 m4:List Nat) (w:World) (_i1:In64 lr) (_i2:In64 b1) (_i3:In64 b2) (_i4:In64 eps) (p1':IsL w (.slice A1 l1.length C1) l1) (t1':IsL w (.slice D1 m1.length E1) m1) (p2':IsL w (.slice A2 l2.length C2) l2) (t2':IsL w (.slice D2 m2.length E2) m2) (p3':IsL w (.slice A3 l3.length C3) l3) (t3':IsL w (.slice D3 m3.length E3) m3) (p4':IsL w (.slice A4 l4.length C4) l4) (t4':IsL w (.slice D4 m4.length E4) m4) (hf1:fewI s1 l1 m1 s2 l2 m2 2=true) (hf2:fewI s3 l3 m3 s4 l4 m4 2=false):
 Calls Tryz.prog 5 #[.agg #[.int .i64 lr,.int .i64 b1,.int .i64 b2,.int .i64 eps,.int .i64 wd,.bool apart,.int .i64 f,.int .i64 p0,.int .i64 p1,g0,g1,g2,g3],.agg #[.bool s1,.slice A1 l1.length C1,.slice D1 m1.length E1,.bool s2,.slice A2 l2.length C2,.slice D2 m2.length E2,.bool s3,.slice A3 l3.length C3,.slice D3 m3.length E3,.bool s4,.slice A4 l4.length C4,.slice D4 m4.length E4],.int .i64 t] w fun e w'=>e= .returned (.bool true)∧Below w.heap.size w w':=by
 have hA:=fun w=>alive20_any w
 have hF1:=fun w h1 h2 h3 h4=>rsfew_any s1 s2 A1 D1 A2 D2 C1 E1 C2 E2 l1 m1 l2 m2 w h1 h2 h3 h4 2 (by omega)
 have hF2:=fun w h1 h2 h3 h4=>rsfew_any s3 s4 A3 D3 A4 D4 C3 E3 C4 E4 l3 m3 l4 m4 w h1 h2 h3 h4 2 (by omega)
 rw[hf1] at hF1
 rw[hf2] at hF2
 clear _i1 _i2 _i3 _i4
 obtain⟨g,Y1,hI,h7,hB,hgw,EY⟩:=boxes2 w 66 #[.int .i64 lr,.int .i64 b1,.int .i64 b2,.int .i64 eps,.int .i64 wd,.bool apart,.int .i64 f,.int .i64 p0,.int .i64 p1,g0,g1,g2,g3] 67 #[.bool s1,.slice A1 l1.length C1,.slice D1 m1.length E1,.bool s2,.slice A2 l2.length C2,.slice D2 m2.length E2,.bool s3,.slice A3 l3.length C3,.slice D3 m3.length E3,.bool s4,.slice A4 l4.length C4,.slice D4 m4.length E4]
 replace p1':=p1'.below hB
 replace t1':=t1'.below hB
 replace p2':=p2'.below hB
 replace t2':=t2'.below hB
 replace p3':=p3'.below hB
 replace t3':=t3'.below hB
 replace p4':=p4'.below hB
 replace t4':=t4'.below hB
 obtain⟨c0,c1,c2,c3,c4,c5,c6,c7,c8,c9,c10,c11,c12⟩:=hI.q13
 obtain⟨c13,c14,c15,c16,c17,c18,c19,c20,c21,c22,c23,c24⟩:=h7.q12
 go_enter Tryz.func5,Tryz.ntmps5
 go_wp2_with fail
 rw[←EY.out.2,←EY.out.1]
 refine (hF1 _ p1' t1' p2' t2').mono ?_
 rintro e w2 ⟨rfl,b2⟩
 replace p1':=p1'.below b2
 replace t1':=t1'.below b2
 replace p2':=p2'.below b2
 replace t2':=t2'.below b2
 replace p3':=p3'.below b2
 replace t3':=t3'.below b2
 replace p4':=p4'.below b2
 replace t4':=t4'.below b2
 replace hI:=hI.b b2
 replace h7:=h7.b b2
 replace hB:=bOn hB b2
 clear c0 c1 c2 c3 c4 c5 c6 c7 c8 c9 c10 c11 c12 c13 c14 c15 c16 c17 c18 c19 c20 c21 c22 c23 c24
 obtain⟨c25,c26,c27,c28,c29,c30,c31,c32,c33,c34,c35,c36,c37⟩:=hI.q13
 obtain⟨c38,c39,c40,c41,c42,c43,c44,c45,c46,c47,c48,c49⟩:=h7.q12
 go_wp2_with fail
 refine (hF2 _ p3' t3' p4' t4').mono ?_
 rintro e w4 ⟨rfl,b4⟩
 replace p1':=p1'.below b4
 replace t1':=t1'.below b4
 replace p2':=p2'.below b4
 replace t2':=t2'.below b4
 replace p3':=p3'.below b4
 replace t3':=t3'.below b4
 replace p4':=p4'.below b4
 replace t4':=t4'.below b4
 replace hI:=hI.b b4
 replace h7:=h7.b b4
 replace hB:=bOn hB b4
 clear c25 c26 c27 c28 c29 c30 c31 c32 c33 c34 c35 c36 c37 c38 c39 c40 c41 c42 c43 c44 c45 c46 c47 c48 c49
 obtain⟨c50,c51,c52,c53,c54,c55,c56,c57,c58,c59,c60,c61,c62⟩:=hI.q13
 obtain⟨c63,c64,c65,c66,c67,c68,c69,c70,c71,c72,c73,c74⟩:=h7.q12
 go_wp2_with fail
 refine (hA _).mono ?_
 rintro e w6 ⟨rfl,b6⟩
 replace p1':=p1'.below b6
 replace t1':=t1'.below b6
 replace p2':=p2'.below b6
 replace t2':=t2'.below b6
 replace p3':=p3'.below b6
 replace t3':=t3'.below b6
 replace p4':=p4'.below b6
 replace t4':=t4'.below b6
 replace hI:=hI.b b6
 replace h7:=h7.b b6
 replace hB:=bOn hB b6
 clear c50 c51 c52 c53 c54 c55 c56 c57 c58 c59 c60 c61 c62 c63 c64 c65 c66 c67 c68 c69 c70 c71 c72 c73 c74
 obtain⟨c75,c76,c77,c78,c79,c80,c81,c82,c83,c84,c85,c86,c87⟩:=hI.q13
 obtain⟨c88,c89,c90,c91,c92,c93,c94,c95,c96,c97,c98,c99⟩:=h7.q12
 go_wp2
 go_ret
 exact⟨rfl,hB⟩
theorem TrackUpdates_ok (lr b1 b2 eps wd:Int) (apart:Bool) (f p0 p1 t:Int) (g0 g1 g2 g3:Value) (s1 s2 s3 s4:Bool) (A1 D1 A2 D2 A3 D3 A4 D4:Option Addr) (C1 E1 C2 E2 C3 E3 C4 E4:Nat) (l1 m1 l2 m2 l3 m3 l4 m4:List Nat) (w:World) (i1:In64 lr) (i2:In64 b1) (i3:In64 b2) (i4:In64 eps) (p1':IsL w (.slice A1 l1.length C1) l1) (t1':IsL w (.slice D1 m1.length E1) m1) (p2':IsL w (.slice A2 l2.length C2) l2) (t2':IsL w (.slice D2 m2.length E2) m2) (p3':IsL w (.slice A3 l3.length C3) l3) (t3':IsL w (.slice D3 m3.length E3) m3) (p4':IsL w (.slice A4 l4.length C4) l4) (t4':IsL w (.slice D4 m4.length E4) m4) (hf1:fewI s1 l1 m1 s2 l2 m2 2=true) (hf2:fewI s3 l3 m3 s4 l4 m4 2=true):
 Calls Tryz.prog 5 #[.agg #[.int .i64 lr,.int .i64 b1,.int .i64 b2,.int .i64 eps,.int .i64 wd,.bool apart,.int .i64 f,.int .i64 p0,.int .i64 p1,g0,g1,g2,g3],.agg #[.bool s1,.slice A1 l1.length C1,.slice D1 m1.length E1,.bool s2,.slice A2 l2.length C2,.slice D2 m2.length E2,.bool s3,.slice A3 l3.length C3,.slice D3 m3.length E3,.bool s4,.slice A4 l4.length C4,.slice D4 m4.length E4],.int .i64 t] w fun e w'=>e= .returned (.bool true)∧Below w.heap.size w w':=by
 have hA:=fun w=>alive20_any w
 have hF1:=fun w h1 h2 h3 h4=>rsfew_any s1 s2 A1 D1 A2 D2 C1 E1 C2 E2 l1 m1 l2 m2 w h1 h2 h3 h4 2 (by omega)
 have hF2:=fun w h1 h2 h3 h4=>rsfew_any s3 s4 A3 D3 A4 D4 C3 E3 C4 E4 l3 m3 l4 m4 w h1 h2 h3 h4 2 (by omega)
 rw[hf1] at hF1
 rw[hf2] at hF2
 unfold fewI at hf1 hf2
 unfold rightI at hf1 hf2
 simp only[Bool.and_eq_true,decide_eq_true_eq] at hf1 hf2
 obtain⟨⟨f1,f2⟩,_,o1⟩:=hf1
 obtain⟨⟨f3,f4⟩,_,o2⟩:=hf2
 unfold fewQ at f1 f2 f3 f4
 simp only[Bool.and_eq_true,decide_eq_true_eq] at f1 f2 f3 f4
 obtain⟨q1,c1, -, -⟩:=isQ_of p1' t1' f1.2.2
 obtain⟨q2,c2, -, -⟩:=isQ_of p2' t2' f2.2.2
 obtain⟨q3,c3, -, -⟩:=isQ_of p3' t3' f3.2.2
 obtain⟨q4,c4, -, -⟩:=isQ_of p4' t4' f4.2.2
 replace c1:=c1.more (m:=10) (by omega)
 replace c2:=c2.more (m:=10) (by omega)
 replace c3:=c3.more (m:=10) (by omega)
 replace c4:=c4.more (m:=10) (by omega)
 clear f1 f2 f3 f4
 generalize theQ s1 l1 m1=y1 at *
 generalize theQ s2 l2 m2=y2 at *
 generalize theQ s3 l3 m3=y3 at *
 generalize theQ s4 l4 m4=y4 at *
 have hU:=fun w h1 h2=>pupd_res lr b1 b2 eps wd apart f t y1 y2 y3 y4 w i1 i2 i3 i4 A1 D1 A2 D2 A3 D3 A4 D4 l1.length C1 m1.length E1 l2.length C2 m2.length E2 l3.length C3 m3.length E3 l4.length C4 m4.length E4 s1 s2 s3 s4 h1 h2 c1 c2 c3 c4
 have hV:=fun w h1 h2=>rupd_res lr b1 b2 eps wd apart f t y1 y2 y3 y4 w i1 i2 i3 i4 A1 D1 A2 D2 A3 D3 A4 D4 l1.length C1 m1.length E1 l2.length C2 m2.length E2 l3.length C3 m3.length E3 l4.length C4 m4.length E4 s1 s2 s3 s4 h1 h2 c1 c2 c3 c4
 generalize updLo (1 - powQ (mkRat b1 (2^f.toNat)) t.toNat) (1 - powQ (mkRat b2 (2^f.toNat)) t.toNat) (mkRat eps (2^f.toNat)) (mkRat lr (2^f.toNat)) y1 y2 (if y3.num<0 then 0 else y3) y4=lo at *
 generalize updHi (1 - powQ (mkRat b1 (2^f.toNat)) t.toNat) (1 - powQ (mkRat b2 (2^f.toNat)) t.toNat) (mkRat eps (2^f.toNat)) (mkRat lr (2^f.toNat)) y1 y2 (if y3.num<0 then 0 else y3) y4=hi at *
 generalize updBad lr b1 b2 eps wd f t y4=bad at *
 generalize errOf bad=er at *
 clear i1 i2 i3 i4 c1 c2 c3 c4 o1 o2
 obtain⟨g,Y1,hI,h7,hB,hgw,EY⟩:=boxes2 w 66 #[.int .i64 lr,.int .i64 b1,.int .i64 b2,.int .i64 eps,.int .i64 wd,.bool apart,.int .i64 f,.int .i64 p0,.int .i64 p1,g0,g1,g2,g3] 67 #[.bool s1,.slice A1 l1.length C1,.slice D1 m1.length E1,.bool s2,.slice A2 l2.length C2,.slice D2 m2.length E2,.bool s3,.slice A3 l3.length C3,.slice D3 m3.length E3,.bool s4,.slice A4 l4.length C4,.slice D4 m4.length E4]
 replace p1':=p1'.below hB
 replace t1':=t1'.below hB
 replace p2':=p2'.below hB
 replace t2':=t2'.below hB
 replace p3':=p3'.below hB
 replace t3':=t3'.below hB
 replace p4':=p4'.below hB
 replace t4':=t4'.below hB
 replace q1:=q1.b hB
 replace q2:=q2.b hB
 replace q3:=q3.b hB
 replace q4:=q4.b hB
 obtain⟨c0,c1,c2,c3,c4,c5,c6,c7,c8,c9,c10,c11,c12⟩:=hI.q13
 obtain⟨c13,c14,c15,c16,c17,c18,c19,c20,c21,c22,c23,c24⟩:=h7.q12
 go_enter Tryz.func5,Tryz.ntmps5
 go_wp2_with fail
 rw[←EY.out.2,←EY.out.1]
 refine (hF1 _ p1' t1' p2' t2').mono ?_
 rintro e w2 ⟨rfl,b2⟩
 replace p1':=p1'.below b2
 replace t1':=t1'.below b2
 replace p2':=p2'.below b2
 replace t2':=t2'.below b2
 replace p3':=p3'.below b2
 replace t3':=t3'.below b2
 replace p4':=p4'.below b2
 replace t4':=t4'.below b2
 replace q1:=q1.b b2
 replace q2:=q2.b b2
 replace q3:=q3.b b2
 replace q4:=q4.b b2
 replace hI:=hI.b b2
 replace h7:=h7.b b2
 replace hB:=bOn hB b2
 clear c0 c1 c2 c3 c4 c5 c6 c7 c8 c9 c10 c11 c12 c13 c14 c15 c16 c17 c18 c19 c20 c21 c22 c23 c24
 obtain⟨c25,c26,c27,c28,c29,c30,c31,c32,c33,c34,c35,c36,c37⟩:=hI.q13
 obtain⟨c38,c39,c40,c41,c42,c43,c44,c45,c46,c47,c48,c49⟩:=h7.q12
 go_wp2_with fail
 refine (hF2 _ p3' t3' p4' t4').mono ?_
 rintro e w4 ⟨rfl,b4⟩
 replace p1':=p1'.below b4
 replace t1':=t1'.below b4
 replace p2':=p2'.below b4
 replace t2':=t2'.below b4
 replace p3':=p3'.below b4
 replace t3':=t3'.below b4
 replace p4':=p4'.below b4
 replace t4':=t4'.below b4
 replace q1:=q1.b b4
 replace q2:=q2.b b4
 replace q3:=q3.b b4
 replace q4:=q4.b b4
 replace hI:=hI.b b4
 replace h7:=h7.b b4
 replace hB:=bOn hB b4
 clear c25 c26 c27 c28 c29 c30 c31 c32 c33 c34 c35 c36 c37 c38 c39 c40 c41 c42 c43 c44 c45 c46 c47 c48 c49
 obtain⟨c50,c51,c52,c53,c54,c55,c56,c57,c58,c59,c60,c61,c62⟩:=hI.q13
 obtain⟨c63,c64,c65,c66,c67,c68,c69,c70,c71,c72,c73,c74⟩:=h7.q12
 go_wp2_with fail
 refine (hU _ ⟨_,_,_,_,_,_,rfl,q1,q2⟩ ⟨_,_,_,_,_,_,rfl,q3,q4⟩).mono ?_
 rintro e w6 ⟨v5,rfl,x5,b6⟩
 replace q1:=q1.b b6
 replace q2:=q2.b b6
 replace q3:=q3.b b6
 replace q4:=q4.b b6
 replace hI:=hI.b b6
 replace h7:=h7.b b6
 replace hB:=bOn hB b6
 clear c50 c51 c52 c53 c54 c55 c56 c57 c58 c59 c60 c61 c62 c63 c64 c65 c66 c67 c68 c69 c70 c71 c72 c73 c74
 obtain⟨c75,c76,c77,c78,c79,c80,c81,c82,c83,c84,c85,c86,c87⟩:=hI.q13
 obtain⟨c88,c89,c90,c91,c92,c93,c94,c95,c96,c97,c98,c99⟩:=h7.q12
 obtain⟨s5,A5,L5,C5,D5,M5,E5,s6,A6,L6,C6,D6,M6,E6,rfl,x5⟩:=x5.opn
 obtain⟨X8,V8,h5,bV8,lX8,nX8,EV8⟩:=boxL hB 46 #[.bool s5,.slice A5 L5 C5,.slice D5 M5 E5,.bool s6,.slice A6 L6 C6,.slice D6 M6 E6]
 have dX8_hI:=nX8 _ hI.lt
 have dX8_h7:=nX8 _ h7.lt
 clear nX8
 go_upto_region 4 with fail
 rw[←EV8.out.1,←EV8.out.2]
 replace q1:=q1.b bV8
 replace q2:=q2.b bV8
 replace q3:=q3.b bV8
 replace q4:=q4.b bV8
 replace hI:=hI.b bV8
 replace h7:=h7.b bV8
 replace x5:=x5.b bV8
 replace hB:=bOn hB bV8
 clear c75 c76 c77 c78 c79 c80 c81 c82 c83 c84 c85 c86 c87 c88 c89 c90 c91 c92 c93 c94 c95 c96 c97 c98 c99
 obtain⟨c100,c101,c102,c103,c104,c105,c106,c107,c108,c109,c110,c111,c112⟩:=hI.q13
 obtain⟨c113,c114,c115,c116,c117,c118,c119,c120,c121,c122,c123,c124⟩:=h7.q12
 obtain⟨c125,c126,c127,c128,c129,c130⟩:=h5.q6
 go_wp2_with fail
 refine (hV _ ⟨_,_,_,_,_,_,rfl,q1,q2⟩ ⟨_,_,_,_,_,_,rfl,q3,q4⟩).mono ?_
 rintro e w10 ⟨v9,rfl,x9,b10⟩
 replace q1:=q1.b b10
 replace q2:=q2.b b10
 replace q3:=q3.b b10
 replace q4:=q4.b b10
 replace hI:=hI.b b10
 replace h7:=h7.b b10
 replace x5:=x5.b b10
 replace h5:=h5.b b10
 replace hB:=bOn hB b10
 clear c100 c101 c102 c103 c104 c105 c106 c107 c108 c109 c110 c111 c112 c113 c114 c115 c116 c117 c118 c119 c120 c121 c122 c123 c124 c125 c126 c127 c128 c129 c130
 obtain⟨c131,c132,c133,c134,c135,c136,c137,c138,c139,c140,c141,c142,c143⟩:=hI.q13
 obtain⟨c144,c145,c146,c147,c148,c149,c150,c151,c152,c153,c154,c155⟩:=h7.q12
 obtain⟨c156,c157,c158,c159,c160,c161⟩:=h5.q6
 obtain⟨s9,A9,L9,C9,D9,M9,E9,s10,A10,L10,C10,D10,M10,E10,rfl,x9⟩:=x9.opn
 obtain⟨X12,V12,h9,bV12,lX12,nX12,EV12⟩:=boxL hB 46 #[.bool s9,.slice A9 L9 C9,.slice D9 M9 E9,.bool s10,.slice A10 L10 C10,.slice D10 M10 E10]
 have dX12_hI:=nX12 _ hI.lt
 have dX12_h7:=nX12 _ h7.lt
 have dX12_h5:=nX12 _ h5.lt
 clear nX12
 go_upto_region 5 with fail
 rw[←EV12.out.1,←EV12.out.2]
 replace q1:=q1.b bV12
 replace q2:=q2.b bV12
 replace q3:=q3.b bV12
 replace q4:=q4.b bV12
 replace hI:=hI.b bV12
 replace h7:=h7.b bV12
 replace x5:=x5.b bV12
 replace h5:=h5.b bV12
 replace x9:=x9.b bV12
 replace hB:=bOn hB bV12
 clear c131 c132 c133 c134 c135 c136 c137 c138 c139 c140 c141 c142 c143 c144 c145 c146 c147 c148 c149 c150 c151 c152 c153 c154 c155 c156 c157 c158 c159 c160 c161
 obtain⟨c162,c163,c164,c165,c166,c167,c168,c169,c170,c171,c172,c173,c174⟩:=hI.q13
 obtain⟨c175,c176,c177,c178,c179,c180,c181,c182,c183,c184,c185,c186⟩:=h7.q12
 obtain⟨c187,c188,c189,c190,c191,c192⟩:=h5.q6
 obtain⟨c193,c194,c195,c196,c197,c198⟩:=h9.q6
 go_wp2_with fail
 refine (hA _).mono ?_
 rintro e w14 ⟨rfl,b14⟩
 replace hI:=hI.b b14
 replace h7:=h7.b b14
 replace x5:=x5.b b14
 replace h5:=h5.b b14
 replace x9:=x9.b b14
 replace h9:=h9.b b14
 replace hB:=bOn hB b14
 clear c162 c163 c164 c165 c166 c167 c168 c169 c170 c171 c172 c173 c174 c175 c176 c177 c178 c179 c180 c181 c182 c183 c184 c185 c186 c187 c188 c189 c190 c191 c192 c193 c194 c195 c196 c197 c198
 obtain⟨c199,c200,c201,c202,c203,c204,c205,c206,c207,c208,c209,c210,c211⟩:=hI.q13
 obtain⟨c212,c213,c214,c215,c216,c217,c218,c219,c220,c221,c222,c223⟩:=h7.q12
 obtain⟨c224,c225,c226,c227,c228,c229⟩:=h5.q6
 obtain⟨c230,c231,c232,c233,c234,c235⟩:=h9.q6
 go_wp2_with fail
 refine (rssame_res x5 x9).mono ?_
 rintro e w16 ⟨rfl,b16⟩
 replace hI:=hI.b b16
 replace h7:=h7.b b16
 replace x5:=x5.b b16
 replace h5:=h5.b b16
 replace x9:=x9.b b16
 replace h9:=h9.b b16
 replace hB:=bOn hB b16
 clear c199 c200 c201 c202 c203 c204 c205 c206 c207 c208 c209 c210 c211 c212 c213 c214 c215 c216 c217 c218 c219 c220 c221 c222 c223 c224 c225 c226 c227 c228 c229 c230 c231 c232 c233 c234 c235
 obtain⟨c236,c237,c238,c239,c240,c241,c242,c243,c244,c245,c246,c247,c248⟩:=hI.q13
 obtain⟨c249,c250,c251,c252,c253,c254,c255,c256,c257,c258,c259,c260⟩:=h7.q12
 obtain⟨c261,c262,c263,c264,c265,c266⟩:=h5.q6
 obtain⟨c267,c268,c269,c270,c271,c272⟩:=h9.q6
 go_wp2
 go_ret
 exact⟨rfl,hB⟩
theorem TrackUpdates_all (lr b1 b2 eps wd:Int) (apart:Bool) (f p0 p1 t:Int) (g0 g1 g2 g3:Value) (s1 s2 s3 s4:Bool) (A1 D1 A2 D2 A3 D3 A4 D4:Option Addr) (C1 E1 C2 E2 C3 E3 C4 E4:Nat) (l1 m1 l2 m2 l3 m3 l4 m4:List Nat) (w:World) (i1:In64 lr) (i2:In64 b1) (i3:In64 b2) (i4:In64 eps) (p1':IsL w (.slice A1 l1.length C1) l1) (t1':IsL w (.slice D1 m1.length E1) m1) (p2':IsL w (.slice A2 l2.length C2) l2) (t2':IsL w (.slice D2 m2.length E2) m2) (p3':IsL w (.slice A3 l3.length C3) l3) (t3':IsL w (.slice D3 m3.length E3) m3) (p4':IsL w (.slice A4 l4.length C4) l4) (t4':IsL w (.slice D4 m4.length E4) m4):
 Calls Tryz.prog 5 #[.agg #[.int .i64 lr,.int .i64 b1,.int .i64 b2,.int .i64 eps,.int .i64 wd,.bool apart,.int .i64 f,.int .i64 p0,.int .i64 p1,g0,g1,g2,g3],.agg #[.bool s1,.slice A1 l1.length C1,.slice D1 m1.length E1,.bool s2,.slice A2 l2.length C2,.slice D2 m2.length E2,.bool s3,.slice A3 l3.length C3,.slice D3 m3.length E3,.bool s4,.slice A4 l4.length C4,.slice D4 m4.length E4],.int .i64 t] w fun e w'=>e= .returned (.bool true)∧Below w.heap.size w w':=by
 cases hf1:fewI s1 l1 m1 s2 l2 m2 2
 ·exact TrackUpdates_u1 lr b1 b2 eps wd apart f p0 p1 t g0 g1 g2 g3 s1 s2 s3 s4 A1 D1 A2 D2 A3 D3 A4 D4 C1 E1 C2 E2 C3 E3 C4 E4 l1 m1 l2 m2 l3 m3 l4 m4 w i1 i2 i3 i4 p1' t1' p2' t2' p3' t3' p4' t4' hf1
 cases hf2:fewI s3 l3 m3 s4 l4 m4 2
 ·exact TrackUpdates_u2 lr b1 b2 eps wd apart f p0 p1 t g0 g1 g2 g3 s1 s2 s3 s4 A1 D1 A2 D2 A3 D3 A4 D4 C1 E1 C2 E2 C3 E3 C4 E4 l1 m1 l2 m2 l3 m3 l4 m4 w i1 i2 i3 i4 p1' t1' p2' t2' p3' t3' p4' t4' hf1 hf2
 exact TrackUpdates_ok lr b1 b2 eps wd apart f p0 p1 t g0 g1 g2 g3 s1 s2 s3 s4 A1 D1 A2 D2 A3 D3 A4 D4 C1 E1 C2 E2 C3 E3 C4 E4 l1 m1 l2 m2 l3 m3 l4 m4 w i1 i2 i3 i4 p1' t1' p2' t2' p3' t3' p4' t4' hf1 hf2
end Go.Proofs.YtdnjdglekifhpaaGreat
namespace Go.Proofs.YtdnjdglekifhpaaGreat
open Go.ChangeShapes Go.WideShapes Go.ChangeAt Go.RowKit
theorem open_limbs_c {H:Type} {enc:TypeId×Value→H} {W:World} {t:TypeId} {v:Value} {fuel:Nat} {x:DataW H×List MemPlace} (ht:Tryz.prog.underlying t=some (.slice 141))
 (h:DataW.trod enc Tryz.prog W 0 (fun _=>true) true fuel t [v]=some x) (hlt:∀p∈x.2,p.block<W.heap.size):∃l,IsL W v l:=by
 rcases open_ints ht Tryz.underlying141 (by kernel_rfl:Tryz.prog.cellsOf 141=1) h with ⟨hcs,hx⟩ | ⟨a,len,cap,zs,hcs,_,hl,hm,hz,hx,hcell,hwz⟩
 ·obtain rfl:v=_:=by simpa using hcs
  exact⟨[],IsL.nil W⟩
 ·obtain rfl:v=_:=by simpa using hcs
  subst hx
  simp only at hlt
  simp only[if_true] at hz
  unfold maxLen at hm
  have hll:((zs.take len).map Int.toNat).length=len:=by simp;omega
  refine ⟨(zs.take len).map Int.toNat,some a,cap,by rw[hll],by omega,by omega,?_,?_⟩
  ·intro x hx
   obtain⟨z,hz',rfl⟩:=List.mem_map.1 hx
   have:=wf_u64 (hwz z (List.mem_of_mem_take hz'))
   omega
  ·rw[hll]
   refine ⟨by rw[us_len,hll];omega,fun h0=>⟨a,rfl,?_,fun j u hu=>?_⟩⟩
   ·obtain⟨b,off,spot⟩:=a
    have hspot:spot=none:=by simpa [Addr.add] using World.cell?_spot (hcell 0 (by omega))
    subst hspot
    exact hlt (.cell b off) (MemPlace.mem_row.2 ⟨0,by omega,by simp⟩)
   ·have hj:j<len:=by
     rcases Nat.lt_or_ge j len with h' | h'
     ·exact h'
     ·rw[List.getElem?_eq_none (by rw[us_len,hll];exact h')] at hu;cases hu
    have hjz:j<zs.length:=by omega
    have hwf:=wf_u64 (hwz _ (List.getElem_mem hjz))
    rw[hcell j hjz]
    rw[us_at _ j (by rw[hll];exact hj)] at hu
    rw[←Option.some.inj hu]
    have e:zs.getD j 0=zs[j]:=by simp[List.getD,hjz]
    have e2:((zs.take len).map Int.toNat)[j]?.getD 0=(zs[j]).toNat:=by simp[hj,hjz]
    rw[e,e2]
    congr 2
    omega
theorem cells_zed:Tryz.prog.cellsOf 30=2:=by kernel_rfl
theorem cells_boolz:Tryz.prog.cellsOf 4=1:=by kernel_rfl
theorem cells_natz:Tryz.prog.cellsOf 28=1:=by kernel_rfl
section
variable {H:Type} {enc:TypeId×Value→H} {W:World}
theorem cells_ratq:Tryz.prog.cellsOf 32=3:=by kernel_rfl
theorem cells_i64q:Tryz.prog.cellsOf 2=1:=by kernel_rfl
theorem okWide_arr {P:Program} {w:World} {r:Reach} {t e:TypeId} {n b0:Nat} {v:Value} (ht:P.underlying t=some (.array n e)) (h:Value.okWide P w r b0 t v):∃cs,v= .agg cs∧cs.size=P.cellsOf t:=by
 simp only[Value.okWide,ht] at h
 obtain⟨cs,h1,h2,_⟩:=h
 exact⟨cs,h1,h2⟩
theorem open_zed2c {fuel:Nat} {c0 c1:Value} {x:DataW H×List MemPlace} (h:DataW.trod enc Tryz.prog W 0 (fun _=>true) true fuel 30 [c0,c1]=some x) (hlt:∀p∈x.2,p.block<W.heap.size):
 ∃b l,c0= .bool b∧IsL W c1 l:=by
 obtain⟨xs,n,_,rfl,_,hlen,hg⟩:=DataW.trod_struct Tryz.underlying30 h
 match xs,hlen with
 | [y0, y1], _ =>
   have a0:DataW.trod enc Tryz.prog W 0 (fun _=>true) true n 4 (([c0,c1].drop 0).take (Tryz.prog.cellsOf 4))=some y0:=hg 0 _ rfl
   have a1:DataW.trod enc Tryz.prog W 0 (fun _=>true) true n 28 (([c0,c1].drop 1).take (Tryz.prog.cellsOf 28))=some y1:=hg 1 _ rfl
   rw[cells_boolz] at a0
   rw[cells_natz] at a1
   obtain⟨b,e0,_⟩:=DataW.trod_bool Tryz.underlying4 a0
   simp at e0
   subst e0
   obtain⟨l,hl⟩:=open_limbs_c Tryz.underlying28 a1 (fun p hp=>hlt p (by simp[hp]))
   exact⟨b,l,rfl,hl⟩
theorem open_rat3c {fuel:Nat} {c0 c1 c2:Value} {x:DataW H×List MemPlace} (h:DataW.trod enc Tryz.prog W 0 (fun _=>true) true fuel 32 [c0,c1,c2]=some x) (hlt:∀p∈x.2,p.block<W.heap.size):
 ∃b lp lq,c0= .bool b∧IsL W c1 lp∧IsL W c2 lq:=by
 obtain⟨xs,n,_,rfl,_,hlen,hg⟩:=DataW.trod_struct Tryz.underlying32 h
 match xs,hlen with
 | [y0, y1], _ =>
   have a0:DataW.trod enc Tryz.prog W 0 (fun _=>true) true n 30 (([c0,c1,c2].drop 0).take (Tryz.prog.cellsOf 30))=some y0:=hg 0 _ rfl
   have a1:DataW.trod enc Tryz.prog W 0 (fun _=>true) true n 28 (([c0,c1,c2].drop 2).take (Tryz.prog.cellsOf 28))=some y1:=hg 1 _ rfl
   rw[cells_zed] at a0
   rw[cells_natz] at a1
   obtain⟨b,lp,rfl,hp⟩:=open_zed2c a0 (fun p hp=>hlt p (by simp[hp]))
   obtain⟨lq,hq⟩:=open_limbs_c Tryz.underlying28 a1 (fun p hp=>hlt p (by simp[hp]))
   exact⟨b,lp,lq,rfl,hp,hq⟩
def RawQ (w:World) (_s:Bool) (p q:Value) (lp lq:List Nat):Prop:=IsL w p lp∧IsL w q lq
end
end Go.Proofs.YtdnjdglekifhpaaGreat
namespace Go.Proofs.YtdnjdglekifhpaaGreat
open Go.ChangeShapes Go.WideShapes Go.ChangeAt Go.RowKit Go.Joins Go.Deep
def IsP (w:World) (v:Value) (ps:List (Int×Int)):Prop:=∃A c,v= .slice A ps.length c∧ps.length≤c∧c≤9223372036854775807∧
 (0<ps.length→∃ad,A=some ad∧ad.block<w.heap.size∧∀(i:Nat) (p:Int×Int),ps[i]?=some p→w.cell? (ad.add (i*2))=some (.int .i64 p.1)∧w.cell? ((ad.add (i*2)).add 1)=some (.int .i64 p.2))
theorem IsP.below {w w':World} {v:Value} {ps:List (Int×Int)} (h:IsP w v ps) (hb:Below w.heap.size w w'):IsP w' v ps:=by
 obtain⟨A,c,e,h1,h2,h3⟩:=h
 refine ⟨A,c,e,h1,h2,fun h0=>?_⟩
 obtain⟨ad,e2,hl,hc⟩:=h3 h0
 refine ⟨ad,e2,Nat.lt_of_lt_of_le hl hb.size,fun i p hp=>?_⟩
 obtain⟨k1,k2⟩:=hc i p hp
 exact⟨(hb.cell (by rw[block_of_add];exact hl)).trans k1,(hb.cell (by rw[block_of_add,block_of_add];exact hl)).trans k2⟩
theorem IsP.len {w:World} {v:Value} {ps:List (Int×Int)} (h:IsP w v ps):∃A c,v= .slice A ps.length c:=by
 obtain⟨A,c,e,_⟩:=h;exact⟨A,c,e⟩
section
variable {H:Type} {enc:TypeId×Value→H} {W:World}
theorem cells_pair:Tryz.prog.cellsOf 34=2:=by kernel_rfl
theorem cells_boolm:Tryz.prog.cellsOf 4=1:=by kernel_rfl
theorem open_pair {fuel:Nat} {x y:Value} {d:DataW H×List MemPlace} (h:DataW.trod enc Tryz.prog W 0 (fun _=>true) true fuel 34 [x,y]=some d):
 ∃p:Int×Int,x= .int .i64 p.1∧y= .int .i64 p.2∧I64 p.1∧I64 p.2:=by
 obtain⟨xs,m,_,hxp,_,hl,h1⟩:=DataW.trod_array Tryz.underlying34 h
 match xs,hl with
 | [y0, y1], _ =>
   have a0:DataW.trod enc Tryz.prog W 0 (fun _=>true) true m 2 (([x,y].drop (0*Tryz.prog.cellsOf 2)).take (Tryz.prog.cellsOf 2))=some y0:=h1 0 (by omega)
   have a1:DataW.trod enc Tryz.prog W 0 (fun _=>true) true m 2 (([x,y].drop (1*Tryz.prog.cellsOf 2)).take (Tryz.prog.cellsOf 2))=some y1:=h1 1 (by omega)
   rw[cells_i64q] at a0 a1
   obtain⟨n,e1,_,w1⟩:=DataW.trod_int Tryz.underlying2 a0
   obtain⟨n',e2,_,w2⟩:=DataW.trod_int Tryz.underlying2 a1
   simp at e1 e2
   subst e1 e2
   exact⟨(n,n'),rfl,rfl,wf_I64 w1,wf_I64 w2⟩
end
end Go.Proofs.YtdnjdglekifhpaaGreat
namespace Go.Proofs.YtdnjdglekifhpaaGreat
open Go.RowKit
abbrev IsP.b:= @IsP.below
end Go.Proofs.YtdnjdglekifhpaaGreat
namespace Go.Proofs.YtdnjdglekifhpaaGreat
open Go.RowKit
def Rk (w:World) (r:Nat) (f e:Int):Prop:=w.heap[r]?=some (.cells #[.int .i64 f,.int .i64 e] 185 (0,0))
section
variable {w w':World} {r:Nat} {f e:Int}
theorem Rk.lt (h:Rk w r f e):r<w.heap.size:=by
 rcases Nat.lt_or_ge r w.heap.size with hlt | hge
 ·exact hlt
 ·unfold Rk at h;rw[Array.getElem?_eq_none hge] at h;cases h
theorem Rk.below (h:Rk w r f e) (hb:Below w.heap.size w w'):Rk w' r f e:=(hb.block r h.lt).trans h
theorem Rk.set_ (h:Rk w r f e) (x:Int):Rk (w.setCell ⟨r,1,none⟩ (.int .i64 x)) r f x:=by
 unfold Rk at h ⊢
 simp[World.setCell,Array.getElem?_modify,h]
theorem Rk.alloc (h:Rk w r f e) (o:Obj):Rk (w.alloc o) r f e:=(Below.heap_alloc w o r h.lt).trans h
end
end Go.Proofs.YtdnjdglekifhpaaGreat
namespace Go.Proofs.YtdnjdglekifhpaaGreat
open Go.RowKit
abbrev Rk.b:= @Rk.below
end Go.Proofs.YtdnjdglekifhpaaGreat
namespace Go.Proofs.YtdnjdglekifhpaaGreat
open Go.ChangeShapes Go.WideShapes Go.ChangeAt Go.RowKit Go.Joins
def AllIn (l:List Int):Prop:=∀i,In64 (iat l i)
theorem wf_i64 {n:Int} (h:(Lit.int .i64 n).wf=true):In64 n:=by
 have h1:IntKind.i64.min= -9223372036854775808:=rfl
 have h2:IntKind.i64.max=9223372036854775807:=rfl
 simp only[Lit.wf,Bool.and_eq_true,decide_eq_true_eq] at h
 unfold In64
 omega
theorem AllIn.of_mem {l:List Int} (h:∀x∈l,In64 x):AllIn l:=by
 intro i
 by_cases hi:i<l.length
 ·exact h _ (iat_mem hi)
 ·unfold iat;rw[List.getElem?_eq_none (by omega)];unfold In64;simp
theorem AllIn.mem {l:List Int} (h:AllIn l) {x:Int} (hx:x∈l):In64 x:=by
 obtain⟨i,hi,rfl⟩:=List.getElem_of_mem hx
 have:=h i
 unfold iat at this;rwa [List.getElem?_eq_getElem hi] at this
theorem AllIn.nil:AllIn []:=AllIn.of_mem (by simp)
section
variable {H:Type} {enc:TypeId×Value→H} {W:World}
def IsR (w:World) (v:Value) (A B C D:List Int):Prop:=∃a b c d,v= .agg #[a,b,c,d]∧IsI w a A∧IsI w b B∧IsI w c C∧IsI w d D
theorem IsR.below {w w':World} {v:Value} {A B C D:List Int} (h:IsR w v A B C D) (hb:Below w.heap.size w w'):IsR w' v A B C D:=by
 obtain⟨a,b,c,d,e,h1,h2,h3,h4⟩:=h;exact⟨a,b,c,d,e,h1.below hb,h2.below hb,h3.below hb,h4.below hb⟩
end
end Go.Proofs.YtdnjdglekifhpaaGreat
namespace Go.Proofs.YtdnjdglekifhpaaGreat
open Go.RowKit
abbrev IsR.b:= @IsR.below
end Go.Proofs.YtdnjdglekifhpaaGreat
namespace Go.Proofs.YtdnjdglekifhpaaGreat
open Go.ChangeShapes Go.WideShapes Go.ChangeAt Go.RowKit Go.Joins Go.Deep
section
variable {H:Type} {enc:TypeId×Value→H} {W:World}
theorem cells_adamin:Tryz.prog.cellsOf 66=13:=by kernel_rfl
theorem cells_adamc:Tryz.prog.cellsOf 61=6:=by kernel_rfl
theorem cells_rowsc:Tryz.prog.cellsOf 64=4:=by kernel_rfl
theorem cells_sli64:Tryz.prog.cellsOf 62=1:=by kernel_rfl
theorem cells_span:Tryz.prog.cellsOf 46=6:=by kernel_rfl
theorem cells_span2:Tryz.prog.cellsOf 67=12:=by kernel_rfl
theorem open_i64n {t:TypeId} {fuel:Nat} {v:Value} {x:DataW H×List MemPlace} (ht:Tryz.prog.underlying t=some (.slice 2))
 (h:DataW.trod enc Tryz.prog W 0 (fun _=>true) true fuel t [v]=some x) (hlt:∀p∈x.2,p.block<W.heap.size):∃l,IsI W v l∧AllIn l:=by
 rcases open_ints ht Tryz.underlying2 (by kernel_rfl:Tryz.prog.cellsOf 2=1) h with ⟨hcs,hx⟩ | ⟨a,len,cap,zs,hcs,_,hl,hm,hzl,hx,hcell,hwz⟩
 ·simp at hcs
  subst hcs
  exact⟨[],IsI.nil W,AllIn.nil⟩
 ·simp at hcs
  subst hcs
  subst hx
  simp only[if_true] at hzl
  unfold maxLen at hm
  have hll:(zs.take len).length=len:=by simp;omega
  refine ⟨zs.take len,⟨some a,cap,by rw[hll],by omega,by omega,?_⟩,AllIn.of_mem (fun n hn=>wf_i64 (hwz n (List.mem_of_mem_take hn)))⟩
  rw[hll]
  refine ⟨by rw[is_len,hll];omega,fun h0=>⟨a,rfl,?_,fun j u hu=>?_⟩⟩
  ·obtain⟨b,off,spot⟩:=a
   have hspot:spot=none:=by simpa [Addr.add] using World.cell?_spot (hcell 0 (by omega))
   subst hspot
   exact hlt (.cell b off) (MemPlace.mem_row.2 ⟨0,by omega,by simp⟩)
  ·have hj:j<len:=by
    rcases Nat.lt_or_ge j len with h' | h'
    ·exact h'
    ·rw[List.getElem?_eq_none (by rw[is_len,hll];exact h')] at hu;cases hu
   have hjz:j<zs.length:=by omega
   rw[hcell j hjz]
   rw[is_at _ j (by rw[hll];exact hj)] at hu
   rw[←Option.some.inj hu]
   have e:zs.getD j 0=zs[j]:=by simp[List.getD,hjz]
   have e2:iat (zs.take len) j=zs[j]:=by simp[iat,hj,hjz]
   rw[e,e2]
theorem open_span6c {fuel:Nat} {c0 c1 c2 c3 c4 c5:Value} {x:DataW H×List MemPlace} (h:DataW.trod enc Tryz.prog W 0 (fun _=>true) true fuel 46 [c0,c1,c2,c3,c4,c5]=some x) (hlt:∀p∈x.2,p.block<W.heap.size):
 ∃s1 s2 a1 b1 a2 b2,c0= .bool s1∧c3= .bool s2∧RawQ W s1 c1 c2 a1 b1∧RawQ W s2 c4 c5 a2 b2:=by
 obtain⟨xs,n,_,rfl,_,hlen,hg⟩:=DataW.trod_struct Tryz.underlying46 h
 match xs,hlen with
 | [y0, y1], _ =>
   have a0:DataW.trod enc Tryz.prog W 0 (fun _=>true) true n 32 (([c0,c1,c2,c3,c4,c5].drop 0).take (Tryz.prog.cellsOf 32))=some y0:=hg 0 _ rfl
   have a1:DataW.trod enc Tryz.prog W 0 (fun _=>true) true n 32 (([c0,c1,c2,c3,c4,c5].drop 3).take (Tryz.prog.cellsOf 32))=some y1:=hg 1 _ rfl
   rw[cells_ratq] at a0 a1
   obtain⟨s1,A,B,rfl,hA,hB⟩:=open_rat3c a0 (fun p hp=>hlt p (by simp[hp]))
   obtain⟨s2,C,D,rfl,hC,hD⟩:=open_rat3c a1 (fun p hp=>hlt p (by simp[hp]))
   exact⟨s1,s2,A,B,C,D,rfl,rfl,⟨hA,hB⟩,⟨hC,hD⟩⟩
theorem open_span2 {base:Nat} {v:Value} {d:DataW H} {p:List MemPlace} (hv:Value.okWide Tryz.prog W .any base 67 v) (h:DataW.Trod enc Tryz.prog W 0 (fun _=>true) true 67 v d p)
 (hlt:∀x∈p,x.block<W.heap.size):∃s1 p1 q1 s2 p2 q2 s3 p3 q3 s4 p4 q4 a1 b1 a2 b2 a3 b3 a4 b4,v= .agg #[.bool s1,p1,q1,.bool s2,p2,q2,.bool s3,p3,q3,.bool s4,p4,q4]∧RawQ W s1 p1 q1 a1 b1∧RawQ W s2 p2 q2 a2 b2∧RawQ W s3 p3 q3 a3 b3∧RawQ W s4 p4 q4 a4 b4:=by
 obtain⟨⟨l⟩,rfl,hsz⟩:=okWide_arr Tryz.underlying67 hv
 rw[cells_span2] at hsz
 match l,hsz with
 | [c0, c1, c2, c3, c4, c5, c6, c7, c8, c9, c10, c11], _ =>
   obtain⟨fuel,hf⟩:=h
   obtain⟨xs,m,_,hxp,_,hl,h1⟩:=DataW.trod_array Tryz.underlying67 hf
   match xs,hl with
   | [y0, y1], _ =>
     obtain⟨rfl,rfl⟩:=Prod.mk.inj hxp
     have a0:DataW.trod enc Tryz.prog W 0 (fun _=>true) true m 46 (([c0,c1,c2,c3,c4,c5,c6,c7,c8,c9,c10,c11].drop (0*Tryz.prog.cellsOf 46)).take (Tryz.prog.cellsOf 46))=some y0:=h1 0 (by omega)
     have a1:DataW.trod enc Tryz.prog W 0 (fun _=>true) true m 46 (([c0,c1,c2,c3,c4,c5,c6,c7,c8,c9,c10,c11].drop (1*Tryz.prog.cellsOf 46)).take (Tryz.prog.cellsOf 46))=some y1:=h1 1 (by omega)
     rw[cells_span] at a0 a1
     obtain⟨s1,s2,A1,B1,A2,B2,rfl,rfl,r1,r2⟩:=open_span6c (show DataW.trod enc Tryz.prog W 0 (fun _=>true) true m 46 [c0,c1,c2,c3,c4,c5]=some y0 from a0) (fun p hp=>hlt p (by simp[hp]))
     obtain⟨s3,s4,A3,B3,A4,B4,rfl,rfl,r3,r4⟩:=open_span6c (show DataW.trod enc Tryz.prog W 0 (fun _=>true) true m 46 [c6,c7,c8,c9,c10,c11]=some y1 from a1) (fun p hp=>hlt p (by simp[hp]))
     exact⟨s1,_,_,s2,_,_,s3,_,_,s4,_,_,A1,B1,A2,B2,A3,B3,A4,B4,rfl,r1,r2,r3,r4⟩
theorem open_adamin {base:Nat} {v:Value} {d:DataW H} {p:List MemPlace} (hv:Value.okWide Tryz.prog W .any base 66 v) (h:DataW.Trod enc Tryz.prog W 0 (fun _=>true) true 66 v d p)
 (hlt:∀x∈p,x.block<W.heap.size):
 ∃(lr b1 b2 eps wd:Int) (apart:Bool) (f p0 p1:Int) (g0 g1 g2 g3:Value) (l0 l1 l2 l3:List Int),v= .agg #[.int .i64 lr,.int .i64 b1,.int .i64 b2,.int .i64 eps,.int .i64 wd,.bool apart,.int .i64 f,.int .i64 p0,.int .i64 p1,g0,g1,g2,g3]∧(In64 lr∧In64 b1∧In64 b2∧In64 eps∧In64 wd∧In64 f)∧(IsI W g0 l0∧IsI W g1 l1∧IsI W g2 l2∧IsI W g3 l3)∧AllIn l0:=by
 obtain⟨cs,rfl,hsz⟩:=okWide_struct Tryz.underlying66 hv
 obtain⟨l⟩:=cs
 match l,hsz.trans cells_adamin with
 | [c0, c1, c2, c3, c4, c5, c6, c7, c8, c9, c10, c11, c12], _ =>
   obtain⟨fuel,hf⟩:=h
   obtain⟨xs,n,_,hx,_,hlen,hg⟩:=DataW.trod_struct Tryz.underlying66 hf
   match xs,hlen with
   | [y0, y1, y2, y3], _ =>
     obtain⟨rfl,rfl⟩:=Prod.mk.inj hx
     have a0:DataW.trod enc Tryz.prog W 0 (fun _=>true) true n 61 (([c0,c1,c2,c3,c4,c5,c6,c7,c8,c9,c10,c11,c12].drop 0).take (Tryz.prog.cellsOf 61))=some y0:=hg 0 _ rfl
     have a1:DataW.trod enc Tryz.prog W 0 (fun _=>true) true n 3 (([c0,c1,c2,c3,c4,c5,c6,c7,c8,c9,c10,c11,c12].drop 6).take (Tryz.prog.cellsOf 3))=some y1:=hg 1 _ rfl
     have a2:DataW.trod enc Tryz.prog W 0 (fun _=>true) true n 34 (([c0,c1,c2,c3,c4,c5,c6,c7,c8,c9,c10,c11,c12].drop 7).take (Tryz.prog.cellsOf 34))=some y2:=hg 2 _ rfl
     have a3:DataW.trod enc Tryz.prog W 0 (fun _=>true) true n 64 (([c0,c1,c2,c3,c4,c5,c6,c7,c8,c9,c10,c11,c12].drop 9).take (Tryz.prog.cellsOf 64))=some y3:=hg 3 _ rfl
     rw[cells_adamc] at a0
     rw[cells_intk] at a1
     rw[cells_pair] at a2
     rw[cells_rowsc] at a3
     obtain⟨f,e1,_,w1⟩:=DataW.trod_int Tryz.underlying3 a1
     obtain⟨pq,hp0,hp1,_,_⟩:=open_pair (show DataW.trod enc Tryz.prog W 0 (fun _=>true) true n 34 [c7,c8]=some y2 from a2)
     obtain⟨xs1,n1,_,_,_,hl1,hg1⟩:=DataW.trod_struct Tryz.underlying61 a0
     obtain⟨xs2,n2,_,hx2,_,hl2,hg2⟩:=DataW.trod_struct Tryz.underlying64 a3
     match xs1,hl1,xs2,hl2 with
     | [u0, u1, u2, u3, u4, u5], _, [z0, z1, z2, z3], _ =>
       have m0:DataW.trod enc Tryz.prog W 0 (fun _=>true) true n1 2 (([c0,c1,c2,c3,c4,c5].drop 0).take (Tryz.prog.cellsOf 2))=some u0:=hg1 0 _ rfl
       have m1:DataW.trod enc Tryz.prog W 0 (fun _=>true) true n1 2 (([c0,c1,c2,c3,c4,c5].drop 1).take (Tryz.prog.cellsOf 2))=some u1:=hg1 1 _ rfl
       have m2:DataW.trod enc Tryz.prog W 0 (fun _=>true) true n1 2 (([c0,c1,c2,c3,c4,c5].drop 2).take (Tryz.prog.cellsOf 2))=some u2:=hg1 2 _ rfl
       have m3:DataW.trod enc Tryz.prog W 0 (fun _=>true) true n1 2 (([c0,c1,c2,c3,c4,c5].drop 3).take (Tryz.prog.cellsOf 2))=some u3:=hg1 3 _ rfl
       have m4:DataW.trod enc Tryz.prog W 0 (fun _=>true) true n1 2 (([c0,c1,c2,c3,c4,c5].drop 4).take (Tryz.prog.cellsOf 2))=some u4:=hg1 4 _ rfl
       have m5:DataW.trod enc Tryz.prog W 0 (fun _=>true) true n1 4 (([c0,c1,c2,c3,c4,c5].drop 5).take (Tryz.prog.cellsOf 4))=some u5:=hg1 5 _ rfl
       have k0:DataW.trod enc Tryz.prog W 0 (fun _=>true) true n2 62 (([c9,c10,c11,c12].drop 0).take (Tryz.prog.cellsOf 62))=some z0:=hg2 0 _ rfl
       have k1:DataW.trod enc Tryz.prog W 0 (fun _=>true) true n2 62 (([c9,c10,c11,c12].drop 1).take (Tryz.prog.cellsOf 62))=some z1:=hg2 1 _ rfl
       have k2:DataW.trod enc Tryz.prog W 0 (fun _=>true) true n2 62 (([c9,c10,c11,c12].drop 2).take (Tryz.prog.cellsOf 62))=some z2:=hg2 2 _ rfl
       have k3:DataW.trod enc Tryz.prog W 0 (fun _=>true) true n2 62 (([c9,c10,c11,c12].drop 3).take (Tryz.prog.cellsOf 62))=some z3:=hg2 3 _ rfl
       rw[cells_i64k] at m0 m1 m2 m3 m4
       rw[cells_boolm] at m5
       rw[cells_sli64] at k0 k1 k2 k3
       obtain⟨lr,d0,_,v0⟩:=DataW.trod_int Tryz.underlying2 m0
       obtain⟨b1,d1,_,v1⟩:=DataW.trod_int Tryz.underlying2 m1
       obtain⟨b2,d2,_,v2⟩:=DataW.trod_int Tryz.underlying2 m2
       obtain⟨eps,d3,_,v3⟩:=DataW.trod_int Tryz.underlying2 m3
       obtain⟨wd,d4,_,v4⟩:=DataW.trod_int Tryz.underlying2 m4
       obtain⟨ap,d5,_⟩:=DataW.trod_bool Tryz.underlying4 m5
       simp at e1 d0 d1 d2 d3 d4 d5
       subst e1 d0 d1 d2 d3 d4 d5 hp0 hp1
       have hy:y3.2=[z0,z1,z2,z3].flatMap (·.2):=by rw[hx2]
       have hz:∀z∈[z0,z1,z2,z3],∀q∈z.2,q.block<W.heap.size:=fun z hz q hq=>hlt q (by
        simp only[List.mem_flatMap]
        exact⟨y3,by simp,by rw[hy,List.mem_flatMap];exact⟨z,hz,hq⟩⟩)
       obtain⟨l0,i0,j0⟩:=open_i64n Tryz.underlying62 (show DataW.trod enc Tryz.prog W 0 (fun _=>true) true n2 62 [c9]=some z0 from k0) (hz z0 (by simp))
       obtain⟨l1,i1,_⟩:=open_i64n Tryz.underlying62 (show DataW.trod enc Tryz.prog W 0 (fun _=>true) true n2 62 [c10]=some z1 from k1) (hz z1 (by simp))
       obtain⟨l2,i2,_⟩:=open_i64n Tryz.underlying62 (show DataW.trod enc Tryz.prog W 0 (fun _=>true) true n2 62 [c11]=some z2 from k2) (hz z2 (by simp))
       obtain⟨l3,i3,_⟩:=open_i64n Tryz.underlying62 (show DataW.trod enc Tryz.prog W 0 (fun _=>true) true n2 62 [c12]=some z3 from k3) (hz z3 (by simp))
       exact⟨lr,b1,b2,eps,wd,ap,f,pq.1,pq.2,c9,c10,c11,c12,l0,l1,l2,l3,rfl,⟨wf_i64 v0,wf_i64 v1,wf_i64 v2,wf_i64 v3,wf_i64 v4,wf_i64 w1⟩,⟨i0,i1,i2,i3⟩,j0⟩
end
end Go.Proofs.YtdnjdglekifhpaaGreat
namespace Go.Proofs.YtdnjdglekifhpaaGreat
open Go.ChangeShapes Go.WideShapes Go.ChangeAt Go.RowKit
theorem TrackUpdates_walk:LawWalk 5 Tryz.f5:=by
 intro W base args H enc ds p hval hA hlt hz
 rw[show Tryz.f5.params.toList=[66,67,3] from rfl] at hA hz
 obtain⟨va,vb,vc,da,db,dc,pa,pb,pc,rfl,rfl,rfl,ha,hb,hc⟩:=trodAll_three hA
 obtain⟨lr,b1,b2,eps,wd,apart,f,p0,p1,g0,g1,g2,g3,_,_,_,_,rfl,⟨i1,i2,i3,i4,_,_⟩,_,_⟩:=open_adamin (hval 0 66 va rfl rfl) ha (fun x hx=>hlt x (by simp[hx]))
 obtain⟨s1,v1,u1,s2,v2,u2,s3,v3,u3,s4,v4,u4,l1,m1,l2,m2,l3,m3,l4,m4,rfl,⟨h1,k1⟩,⟨h2,k2⟩,⟨h3,k3⟩,⟨h4,k4⟩⟩:=open_span2 (hval 1 67 vb rfl rfl) hb (fun x hx=>hlt x (by simp[hx]))
 obtain⟨t,rfl,rfl,rfl,_⟩:=open_int Tryz.underlying3 (hval 2 3 vc rfl rfl) hc
 obtain⟨A1,C1,rfl,_,_⟩:=id h1.frmL
 obtain⟨D1,E1,rfl,_,_⟩:=id k1.frmL
 obtain⟨A2,C2,rfl,_,_⟩:=id h2.frmL
 obtain⟨D2,E2,rfl,_,_⟩:=id k2.frmL
 obtain⟨A3,C3,rfl,_,_⟩:=id h3.frmL
 obtain⟨D3,E3,rfl,_,_⟩:=id k3.frmL
 obtain⟨A4,C4,rfl,_,_⟩:=id h4.frmL
 obtain⟨D4,E4,rfl,_,_⟩:=id k4.frmL
 exact TrackUpdates_all lr b1 b2 eps wd apart f p0 p1 t g0 g1 g2 g3 s1 s2 s3 s4 A1 D1 A2 D2 A3 D3 A4 D4 C1 E1 C2 E2 C3 E3 C4 E4 l1 m1 l2 m2 l3 m3 l4 m4 W i1 i2 i3 i4 h1 k1 h2 k2 h3 k3 h4 k4
theorem TrackUpdates_holds:Rows.TrackUpdatesSaid:=
 OpenClaim.holds_of_wide 5 Tryz.f5 rfl rfl rfl rfl rfl rfl rfl ⟨rfl,rfl,rfl,rfl,rfl⟩ rfl rfl rfl rfl rfl (by kernel_rfl) Tryz.func5 (by kernel_rfl)
  (of_decide_eq_true (by kernel_rfl)) (by unfold Func.isWrapper;first | (rw[if_pos (by decide+kernel)];kernel_rfl) | (rw[if_neg (by decide+kernel)];exact⟨rfl,rfl⟩))
  (fun os started H enc _ => law_lifted 5 Tryz.f5 Rows.trackUpdatesSpec Rows.trackUpdatesRow.domain rfl rfl rfl Tryz.func5 (by kernel_rfl) (by decide +kernel)
   (fun H ds h => by
    have h':ds.length=3:=h
    match ds,h' with
    | [_,_,_],_=>exact⟨rfl,rfl,rfl⟩)
   (fun os _ H enc=>ChangeSpec.witness6 (enc:=enc) (C:=Tryz.checked) false ⟨#[],#[.agg #[.int .i64 0,.int .i64 0,.int .i64 0,.int .i64 0,.int .i64 0,.bool false,.int .i64 0,.int .i64 0,.int .i64 0,.slice none 0 0,.slice none 0 0,.slice none 0 0,.slice none 0 0],.agg #[.bool false,.slice none 0 0,.slice none 0 0,.bool false,.slice none 0 0,.slice none 0 0,.bool false,.slice none 0 0,.slice none 0 0,.bool false,.slice none 0 0,.slice none 0 0],.int .i64 0],[]⟩ 8 (by kernel_rfl) (by kernel_rfl) (by kernel_rfl) (by kernel_rfl))
   TrackUpdates_walk os started H enc)
end Go.Proofs.YtdnjdglekifhpaaGreat
