/- The live question of layer 20. Printed by gen_alive20.py. -/
import Derived.Test.YtdnjdglekifhpaaGreatTye
set_option maxRecDepth 100000
set_option maxHeartbeats 8000000
namespace Go.Proofs.YtdnjdglekifhpaaGreat
open Go.RowKit
attribute [local go_sem ↓] Go.wp_at_zero Go.wp_at_succ
def IsS (w:World) (v:Value) (a b:Rat):Prop:=∃s p q t x y,v= .agg #[.bool s,p,q,.bool t,x,y]∧IsQ w (.agg #[.bool s,p,q]) a∧IsQ w (.agg #[.bool t,x,y]) b
theorem IsS.below {w w':World} {v:Value} {a b:Rat} (h:IsS w v a b) (hb:Below w.heap.size w w'):IsS w' v a b:=by
 obtain⟨s,p,q,t,x,y,e,h1,h2⟩:=h;exact⟨s,p,q,t,x,y,e,h1.below hb,h2.below hb⟩
theorem IsS.filled {w W:World} {v:Value} {a b:Rat} (h:IsS w v a b) (k:∀v l,IsL w v l→IsL W v l):IsS W v a b:=by
 obtain⟨s,p,q,t,x,y,e,h1,h2⟩:=h;exact⟨s,p,q,t,x,y,e,h1.filled k,h2.filled k⟩
theorem IsS.opn {w:World} {v:Value} {a b:Rat} (h:IsS w v a b):∃s A L C D M E t A' L' C' D' M' E',v= .agg #[.bool s,.slice A L C,.slice D M E,.bool t,.slice A' L' C',.slice D' M' E']∧IsQ w (.agg #[.bool s,.slice A L C,.slice D M E]) a∧IsQ w (.agg #[.bool t,.slice A' L' C',.slice D' M' E']) b:=by
 obtain⟨s,p,q,t,x,y,rfl,h1,h2⟩:=h
 obtain⟨s1,A,L,C,D,M,E,e1,h1⟩:=h1.opn
 obtain⟨t1,A',L',C',D',M',E',e2,h2⟩:=h2.opn
 cases e1;cases e2
 exact⟨_,_,_,_,_,_,_,_,_,_,_,_,_,_,rfl,h1,h2⟩
theorem paround_any (n:Int) (k:Nat) (va:Value) (a:Rat) (w:World) (hk:k≤40) (hb:In64 n) (ha:IsQ w va a) (sa:BQ a 2000) (na:decide (a.num<0)=false):
 Calls Tryz.prog 19 #[.int .i64 n,.int .i64 k,va] w fun e w'=>∃v',e= .returned (.tuple #[v',.int .i64 0])∧IsS w' v' (mkRat n (2^k) - a*mkRat 1 (2^k)) (mkRat n (2^k)+a*mkRat 1 (2^k))∧Below w.heap.size w w':=by
 have hN:=fun w=>pnum_any n k w hk hb
 have hP40:2^k≤2^40:=Nat.pow_le_pow_right (by omega) hk
 have hPp:0<2^k:=Nat.pow_pos (by omega)
 have hPi:((2^k:Nat):Int)=(2:Int)^k:=by simp
 have sx:BQ (mkRat n (2^k)) 41:=BQ.mk ((Sz.u64 (by have:=hb.1;have:=hb.2;unfold W64;omega)).more (by omega)) ((Sz.two_pow k).more (by omega)) (by omega)
 have sy:BQ (mkRat 1 (2^k)) 41:=BQ.mk (Sz.one.more (by omega)) ((Sz.two_pow k).more (by omega)) (by omega)
 have hOv:=fun w=>pover_any 1 ((2^k:Nat):Int) w ⟨by omega,by omega⟩ ⟨by omega,by omega⟩ (by omega)
 rw[Int.natAbs_natCast] at hOv
 have hMu:=fun u v w hu hv=>pmul_any u v a (mkRat 1 (2^k)) w hu hv (sa.more (by omega)) (sy.more (by omega))
 have s1:=sa.mul sy
 have hSu:=fun u v w hu hv=>prsub_any u v (mkRat n (2^k)) (a*mkRat 1 (2^k)) w hu hv (sx.more (by omega)) (s1.more (by omega))
 have hAd:=fun u v w hu hv=>pradd_any u v (mkRat n (2^k)) (a*mkRat 1 (2^k)) w hu hv (sx.more (by omega)) (s1.more (by omega))
 generalize mkRat n (2^k) - a*mkRat 1 (2^k)=r1 at *
 generalize mkRat n (2^k)+a*mkRat 1 (2^k)=r2 at *
 generalize a*mkRat 1 (2^k)=by_ at *
 generalize mkRat 1 (2^k)=st at *
 generalize mkRat n (2^k)=x at *
 obtain⟨P,hP⟩:∃P,P=2^k:=⟨_,rfl⟩
 rw[←hP] at hP40 hPi hOv
 have w1:IntKind.i64.wrap ((2:Int)^k)=(P:Int):=by rw[←hPi,IntKind.wrap_i64];omega
 have w2:IntKind.i64.wrap (1*(2:Int)^k)=(P:Int):=by rw[Int.one_mul];exact w1
 obtain⟨s1,A1,L1,C1,D1,M1,E1,rfl,q1⟩:=ha.opn
 obtain rfl:s1=false:=by rw[q1.parts.1];exact na
 clear hP hPi hP40 hPp sx sy sa na ha hb
 obtain⟨g,Y1,hA,hR,hB,hgw,EY⟩:=boxes2 w 32 #[.bool false,.slice A1 L1 C1,.slice D1 M1 E1] 46 #[.bool false,.slice none 0 0,.slice none 0 0,.bool false,.slice none 0 0,.slice none 0 0]
 replace q1:=q1.b hB
 obtain⟨c0,c1,c2⟩:=hA.q3
 obtain⟨c3,c4,c5,c6,c7,c8⟩:=hR.q6
 go_enter Tryz.func19,Tryz.ntmps19
 go_wp2_with fail
 rw[←EY.out.2,←EY.out.1]
 refine (hN _).mono ?_
 rintro e w2 ⟨v3,rfl,q3,b2⟩
 replace q1:=q1.b b2
 replace hA:=hA.b b2
 replace hR:=hR.b b2
 replace hB:=bOn hB b2
 clear c0 c1 c2 c3 c4 c5 c6 c7 c8
 obtain⟨c9,c10,c11⟩:=hA.q3
 obtain⟨c12,c13,c14,c15,c16,c17⟩:=hR.q6
 obtain⟨s3,A3,L3,C3,D3,M3,E3,rfl,q3⟩:=q3.opn
 obtain⟨X4,V4,hV,bV4,lX4,nX4,EV4⟩:=boxL hB 32 #[.bool s3,.slice A3 L3 C3,.slice D3 M3 E3]
 have dX4_hA:=nX4 _ hA.lt
 have dX4_hR:=nX4 _ hR.lt
 clear nX4
 go_upto_region 2 with fail
 rw[←EV4.out.1,←EV4.out.2]
 replace q1:=q1.b bV4
 replace hA:=hA.b bV4
 replace hR:=hR.b bV4
 replace q3:=q3.b bV4
 replace hB:=bOn hB bV4
 clear c9 c10 c11 c12 c13 c14 c15 c16 c17
 obtain⟨c18,c19,c20⟩:=hA.q3
 obtain⟨c21,c22,c23,c24,c25,c26⟩:=hR.q6
 obtain⟨c27,c28,c29⟩:=hV.q3
 go_upto_region 4 with fail
 clear c18 c19 c20 c21 c22 c23 c24 c25 c26 c27 c28 c29
 replace hB:=hB.drew
 replace q1:=q1.b (bdrew _)
 replace hA:=hA.drew
 replace hR:=hR.drew
 replace q3:=q3.b (bdrew _)
 replace hV:=hV.drew
 refine wp_region_noPanic ?_
 refine wp_region_held_drew (S:=fun w'=>World.grownBy V4.drew w' (some (V4.drew.heap.size))) (by kernel_rfl) (grown_of (Below.refl _ _) _) (fun hHeld=>?_)
 obtain⟨wd4_1,hwd⟩:∃q,q=V4.drew:=⟨_,rfl⟩
 rw[←hwd] at hB q1 hA hR q3 hV hHeld ⊢
 clear hwd
 refine tkH 0 rfl (v:=?v1) ?h1 ?r1
 case h1=>
  intro w hSw
  (try dsimp only at hSw)
  obtain⟨yhA_0,yhA_1,yhA_2⟩:=(Blk.grownT hA hSw (fun e=>absurd (Option.some.inj e) (Nat.ne_of_lt hA.lt))).q3
  go_simp
  try (with_reducible rfl)
 refine tkA 1 rfl ?_
 refine tkA 2 rfl ?_
 try simp only[lay]
 refine wpAnyH_facts [(3,28),(4,29),(5,10)] [] [] (pick [(3,fun (v:Value) (w:World)=>∃v4,v4=v∧IsQ w v4 st),(4,fun (v:Value) (w:World)=>∃v5,v5=v∧IsQ w v5 by_),(5,fun (v:Value) (w:World)=>∃X5,.pointer (some ⟨X5,0,none⟩)=v∧wd4_1.heap.size≤X5∧Blk w X5 32 #[.bool false,.slice none 0 0,.slice none 0 0])]) #[true,true,true,true,true,true,false] (fun _ h=>grown_of h _) (pick_pers (show PersAll _ from ⟨fun _ _ _ b ⟨v4,e,q4⟩=>⟨v4,e,q4.below b⟩,fun _ _ _ b ⟨v5,e,q5⟩=>⟨v5,e,q5.below b⟩,fun _ _ _ b ⟨X,e,l,h⟩=>⟨X,e,l,h.below b h.lt⟩,trivial⟩)) (hord_of (by kernel_rfl)) (by kernel_rfl) (by kernel_rfl) (by kernel_rfl) (by kernel_rfl) (fun _ _ _ _ _ h=>h) ?ops1 ?pur1 ?done1 (Below.refl _ _) (Nat.le_of_ble_eq_true (by kernel_rfl))
 case ops1=>
  refine .cons rfl (fun a w zS K hK=>?_) ?_
  ·have e27:=zS.2.1 27 _ (by kernel_rfl) rfl
   go_simp
   refine (hOv _).mono ?_
   rintro e w' ⟨v4,rfl,q4,b⟩
   exact hK _ _ ⟨v4,rfl,q4⟩ b
  refine .cons rfl (fun a w zS K hK=>?_) ?_
  ·have q1:=q1.below zS.1
   have e25:=zS.2.1 25 _ (by kernel_rfl) rfl
   obtain⟨v28,e28,v4,rfl,q4⟩:=zS.2.2 3 28 (by kernel_rfl)
   go_simp
   refine (hMu _ _ _ q1 q4).mono ?_
   rintro e w' ⟨v5,rfl,q5,b⟩
   exact hK _ _ ⟨v5,rfl,q5⟩ b
  refine .cons rfl (fun a w zS K hK=>?_) ?_
  ·go_simp
   exact hK _ _ ⟨_,rfl,zS.1.size,Blk.new w _ _⟩ ((Below.refl _ w).alloc (Nat.le_refl _) _)
  exact .nil
 case pur1=>
  exact .nil
 case done1=>
  intro fuel a wr4_1 zf zS zdf zsz zs zd
  obtain⟨fuel,rfl⟩:∃n,fuel=n+1:=⟨fuel - 1,by have h:1≤fuel:=Nat.le_trans (Nat.le_of_ble_eq_true (by kernel_rfl)) zf;omega⟩
  clear zf
  replace q1:=q1.b zS
  have nhA:=hA.lt
  replace hA:=hA.below zS nhA
  have nhR:=hR.lt
  replace hR:=hR.below zS nhR
  replace q3:=q3.b zS
  have nhV:=hV.lt
  replace hV:=hV.below zS nhV
  obtain⟨v28_,e28_,v4,rfl,q4⟩:=zd 3 28 (by kernel_rfl)
  obtain⟨v29_,e29_,v5,rfl,q5⟩:=zd 4 29 (by kernel_rfl)
  obtain⟨v10_,e10_,X5,rfl,lX5,hU⟩:=zd 5 10 (by kernel_rfl)
  obtain rfl:=act_of [(28,v4),(29,v5),(10,.pointer (some ⟨X5,0,none⟩))] ⟨e28_,e29_,e10_,trivial⟩ zdf zsz (fun s h=>zs s h)
  simp only[putAll]
  clear zdf zsz zs zd e28_ e29_ e10_
  have kX5:w.heap.size≤X5:=Nat.le_trans hB.size lX5
  have dX5_hA:g≠X5:=Nat.ne_of_lt (Nat.lt_of_lt_of_le nhA lX5)
  have dX5_hR:g+1≠X5:=Nat.ne_of_lt (Nat.lt_of_lt_of_le nhR lX5)
  have dX5_hV:X4≠X5:=Nat.ne_of_lt (Nat.lt_of_lt_of_le nhV lX5)
  replace hB:=bOn hB zS
  clear nhA nhR nhV
  obtain⟨s4,A4,L4,C4,D4,M4,E4,rfl,q4⟩:=q4.opn
  obtain⟨s5,A5,L5,C5,D5,M5,E5,rfl,q5⟩:=q5.opn
  have zG:=grown_of zS (some (wd4_1.heap.size))
  refine rd1 6 rfl fun K hK=>?_
  obtain⟨ws4_6,eu,hU',kz,kb,kB⟩:=fill3 hU (.bool s5) (.slice A5 L5 C5) (.slice D5 M5 E5) (by simp[noU])
  obtain⟨x0,x1,x2⟩:=hU.q3
  have xf:=hU.frozen
  replace zG:=(grown_set (grown_set (grown_set zG (p:=⟨X5,0,none⟩) (.inr (by assumption)) (.bool s5)) (p:=⟨X5,1,none⟩) (.inr (by assumption)) (.slice A5 L5 C5)) (p:=⟨X5,2,none⟩) (.inr (by assumption)) (.slice D5 M5 E5))
  rw[←eu] at zG
  go_simp
  rw[←eu]
  replace q1:=q1.filled kz
  replace hA:=kb _ _ _ hA (by first | assumption | exact Ne.symm (by assumption) | omega)
  replace hR:=kb _ _ _ hR (by first | assumption | exact Ne.symm (by assumption) | omega)
  replace q3:=q3.filled kz
  replace hV:=kb _ _ _ hV (by first | assumption | exact Ne.symm (by assumption) | omega)
  replace q4:=q4.filled kz
  replace q5:=q5.filled kz
  replace hB:=kB _ _ (by omega) hB
  replace hU:=hU'
  clear hU' kz kb kB eu xf x0 x1 x2
  refine hK.out _ _ zG (fun hHeld=>?_)
  clear hK K
  try simp only[lay]
  refine wpAnyH_done (by kernel_rfl) ?_ _
  refine NoPanic.normal ?_
  clear zG
  obtain⟨c30,c31,c32⟩:=hA.q3
  obtain⟨c33,c34,c35,c36,c37,c38⟩:=hR.q6
  obtain⟨c39,c40,c41⟩:=hV.q3
  obtain⟨c42,c43,c44⟩:=hU.q3
  clear c30 c31 c32
  go_upto_region 5 with fail
  replace hB:=hB.drew
  replace hR:=hR.drew
  replace q3:=q3.b (bdrew _)
  replace hV:=hV.drew
  replace hU:=hU.drew
  replace q5:=q5.b (bdrew _)
  clear c33 c34 c35 c36 c37 c38 c39 c40 c41 c42 c43 c44
  refine wp_region_noPanic ?_
  refine wp_region_held_drew (S:=fun w'=>w'.cell? ⟨X4,0,none⟩=some (.bool s3)∧w'.cell? ⟨X4,1,none⟩=some (.slice A3 L3 C3)∧w'.cell? ⟨X4,2,none⟩=some (.slice D3 M3 E3)∧w'.cell? ⟨X5,0,none⟩=some (.bool s5)∧w'.cell? ⟨X5,1,none⟩=some (.slice A5 L5 C5)∧w'.cell? ⟨X5,2,none⟩=some (.slice D5 M5 E5)) (by kernel_rfl) ?_ (fun hHeld=>?_)
  ·exact⟨hV.cell 0,hV.cell 1,hV.cell 2,hU.cell 0,hU.cell 1,hU.cell 2⟩
  obtain⟨wd5_2,hwd⟩:∃q,q=ws4_6.drew:=⟨_,rfl⟩
  rw[←hwd] at hB hR q3 hV hU q5 hHeld ⊢
  clear hwd
  refine tkA 0 rfl ?_
  refine tkA 1 rfl ?_
  refine tkA 3 rfl ?_
  refine tkA 4 rfl ?_
  try simp only[lay]
  refine rd1 2 rfl fun K hK=>?_
  go_simp
  refine (hSu _ _ _ q3 q5).mono ?_
  rintro e u5_1 ⟨v6,rfl,q6,b5_1⟩
  replace hR:=hR.b b5_1
  replace q3:=q3.b b5_1
  replace hV:=hV.b b5_1
  replace hU:=hU.b b5_1
  replace q5:=q5.b b5_1
  replace hB:=bOn hB b5_1
  obtain⟨s6,A6,L6,C6,D6,M6,E6,rfl,q6⟩:=q6.opn
  go_wp2_with fail
  refine hK.out _ _ ?_ fun hHeld=>?_
  ·exact⟨hV.cell 0,hV.cell 1,hV.cell 2,hU.cell 0,hU.cell 1,hU.cell 2⟩
  clear hK K
  try simp only[lay]
  refine rd1 5 rfl fun K hK=>?_
  go_simp
  refine (hAd _ _ _ q3 q5).mono ?_
  rintro e u5_2 ⟨v7,rfl,q7,b5_2⟩
  replace hR:=hR.b b5_2
  replace q3:=q3.b b5_2
  replace hV:=hV.b b5_2
  replace hU:=hU.b b5_2
  replace q5:=q5.b b5_2
  replace q6:=q6.b b5_2
  replace hB:=bOn hB b5_2
  obtain⟨s7,A7,L7,C7,D7,M7,E7,rfl,q7⟩:=q7.opn
  go_wp2_with fail
  refine hK.out _ _ ?_ fun hHeld=>?_
  ·exact⟨hV.cell 0,hV.cell 1,hV.cell 2,hU.cell 0,hU.cell 1,hU.cell 2⟩
  clear hK K
  refine tkA 6 rfl ?_
  try simp only[lay]
  refine rd1 7 rfl fun K hK=>?_
  obtain⟨u5_3,eu,hR',kz,kb,kB⟩:=fill6 hR (.bool s6) (.slice A6 L6 C6) (.slice D6 M6 E6) (.bool s7) (.slice A7 L7 C7) (.slice D7 M7 E7) (by simp[noU])
  obtain⟨x0,x1,x2,x3,x4,x5⟩:=hR.q6
  have xf:=hR.frozen
  go_simp
  rw[←eu]
  replace q3:=q3.filled kz
  replace hV:=kb _ _ _ hV (by omega)
  replace hU:=kb _ _ _ hU (by omega)
  replace q5:=q5.filled kz
  replace q6:=q6.filled kz
  replace q7:=q7.filled kz
  replace hB:=kB _ _ (by omega) hB
  replace hR:=hR'
  clear hR' kz kb kB eu xf x0 x1 x2 x3 x4 x5
  refine hK.out _ _ ?_ fun hHeld=>?_
  ·exact⟨hV.cell 0,hV.cell 1,hV.cell 2,hU.cell 0,hU.cell 1,hU.cell 2⟩
  clear hK K
  refine tkA 8 rfl ?_
  try simp only[lay]
  refine wpAnyH_done (by kernel_rfl) ?_ _
  refine NoPanic.normal ?_
  skip
  obtain⟨c45,c46,c47,c48,c49,c50⟩:=hR.q6
  obtain⟨c51,c52,c53⟩:=hV.q3
  obtain⟨c54,c55,c56⟩:=hU.q3
  go_wp2_with fail
  exact bodyPost_ret (v:= .tuple #[.agg #[.bool s6,.slice A6 L6 C6,.slice D6 M6 E6,.bool s7,.slice A7 L7 C7,.slice D7 M7 E7],.int .i64 0]) (by simp[results,Tryz.results19,go_sem,c45,c46,c47,c48,c49,c50]) rfl ⟨_,rfl,⟨_,_,_,_,_,_,rfl,q6,q7⟩,hB⟩
end Go.Proofs.YtdnjdglekifhpaaGreat
namespace Go.Proofs.YtdnjdglekifhpaaGreat
open Go.RowKit
abbrev IsS.b:= @IsS.below
end Go.Proofs.YtdnjdglekifhpaaGreat
namespace Go.Proofs.YtdnjdglekifhpaaGreat
open Go.RowKit
attribute [local go_sem ↓] Go.wp_at_zero Go.wp_at_succ
theorem same_sided (a b:Int):decide (a=b)=(decide (a<0) == decide (b<0) && decide (a.natAbs=b.natAbs)):=by
 rw[Bool.eq_iff_iff]
 simp only[decide_eq_true_eq,Bool.and_eq_true,beq_iff_eq,decide_eq_decide]
 omega
theorem rzsame_any (va vb:Value) (a b:Int) (w:World) (ha:IsZ w va a) (hb:IsZ w vb b):
 Calls Tryz.prog 68 #[va,vb] w fun e w'=>e= .returned (.bool (decide (a=b)))∧Below w.heap.size w w':=by
 rw[same_sided]
 obtain⟨na,rfl,ha⟩:=ha
 obtain⟨nb,rfl,hb⟩:=hb
 have hC:=fun w ha hb=>rsame_any na nb a.natAbs b.natAbs w ha hb
 generalize decide (a.natAbs=b.natAbs)=d at *
 generalize decide (a<0)=s1 at *
 generalize decide (b<0)=s2 at *
 rcases s1 with _ | _
 ·rcases s2 with _ | _
  ·obtain⟨W0,hW,hT,hB⟩:=box2 w 30 30 #[.bool false,na] #[.bool false,nb]
   obtain⟨g,hg⟩:∃g,g=w.heap.size:=⟨_,rfl⟩
   have hW':=Lib.hid (And.intro hW hg)
   rw[←hg] at hT
   have hgw:w.heap.size≤g:=by omega
   clear hW hg
   obtain⟨hX,hY⟩:=hT
   replace ha:=ha.b hB
   replace hb:=hb.b hB
   obtain⟨c1_hX_0,c1_hX_1⟩:=hX.cells2
   obtain⟨c1_hY_0,c1_hY_1⟩:=hY.cells2
   go_enter Tryz.func68,Tryz.ntmps68
   go_wp2_with fail
   rw[←hW'.out.1,←hW'.out.2]
   refine (hC _ ha hb).mono ?_
   rintro e w1 ⟨rfl,n1,hn1⟩
   have b1:Below W0.heap.size W0 w1:=by rw[hn1];exact below_drewN (Below.refl _ _) n1
   clear hn1
   replace ha:=ha.b b1
   replace hb:=hb.b b1
   replace hX:=hX.b b1
   replace hY:=hY.b b1
   replace hB:=bOn hB b1
   clear c1_hX_0 c1_hX_1 c1_hY_0 c1_hY_1
   obtain⟨c2_hX_0,c2_hX_1⟩:=hX.cells2
   obtain⟨c2_hY_0,c2_hY_1⟩:=hY.cells2
   go_wp2
   go_ret
   exact⟨rfl,hB⟩
  ·obtain⟨W0,hW,hT,hB⟩:=box2 w 30 30 #[.bool false,na] #[.bool true,nb]
   obtain⟨g,hg⟩:∃g,g=w.heap.size:=⟨_,rfl⟩
   have hW':=Lib.hid (And.intro hW hg)
   rw[←hg] at hT
   have hgw:w.heap.size≤g:=by omega
   clear hW hg
   obtain⟨hX,hY⟩:=hT
   replace ha:=ha.b hB
   replace hb:=hb.b hB
   obtain⟨c1_hX_0,c1_hX_1⟩:=hX.cells2
   obtain⟨c1_hY_0,c1_hY_1⟩:=hY.cells2
   go_enter Tryz.func68,Tryz.ntmps68
   go_wp2
   go_ret
   exact⟨rfl,by have:=hB;rw[hW'.out.1] at this;exact this⟩
 ·rcases s2 with _ | _
  ·obtain⟨W0,hW,hT,hB⟩:=box2 w 30 30 #[.bool true,na] #[.bool false,nb]
   obtain⟨g,hg⟩:∃g,g=w.heap.size:=⟨_,rfl⟩
   have hW':=Lib.hid (And.intro hW hg)
   rw[←hg] at hT
   have hgw:w.heap.size≤g:=by omega
   clear hW hg
   obtain⟨hX,hY⟩:=hT
   replace ha:=ha.b hB
   replace hb:=hb.b hB
   obtain⟨c1_hX_0,c1_hX_1⟩:=hX.cells2
   obtain⟨c1_hY_0,c1_hY_1⟩:=hY.cells2
   go_enter Tryz.func68,Tryz.ntmps68
   go_wp2
   go_ret
   exact⟨rfl,by have:=hB;rw[hW'.out.1] at this;exact this⟩
  ·obtain⟨W0,hW,hT,hB⟩:=box2 w 30 30 #[.bool true,na] #[.bool true,nb]
   obtain⟨g,hg⟩:∃g,g=w.heap.size:=⟨_,rfl⟩
   have hW':=Lib.hid (And.intro hW hg)
   rw[←hg] at hT
   have hgw:w.heap.size≤g:=by omega
   clear hW hg
   obtain⟨hX,hY⟩:=hT
   replace ha:=ha.b hB
   replace hb:=hb.b hB
   obtain⟨c1_hX_0,c1_hX_1⟩:=hX.cells2
   obtain⟨c1_hY_0,c1_hY_1⟩:=hY.cells2
   go_enter Tryz.func68,Tryz.ntmps68
   go_wp2_with fail
   rw[←hW'.out.1,←hW'.out.2]
   refine (hC _ ha hb).mono ?_
   rintro e w1 ⟨rfl,n1,hn1⟩
   have b1:Below W0.heap.size W0 w1:=by rw[hn1];exact below_drewN (Below.refl _ _) n1
   clear hn1
   replace ha:=ha.b b1
   replace hb:=hb.b b1
   replace hX:=hX.b b1
   replace hY:=hY.b b1
   replace hB:=bOn hB b1
   clear c1_hX_0 c1_hX_1 c1_hY_0 c1_hY_1
   obtain⟨c2_hX_0,c2_hX_1⟩:=hX.cells2
   obtain⟨c2_hY_0,c2_hY_1⟩:=hY.cells2
   go_wp2
   go_ret
   exact⟨rfl,hB⟩
def sameR (z1 z2:Int) (d1 d2:Nat):Bool:=decide (z1=z2) && decide (d1=d2)
theorem rqsame_t (s t:Bool) (p q x y:Value) (z1 z2:Int) (d1 d2:Nat) (w:World) (h1:IsZ w (.agg #[.bool s,p]) z1) (h2:IsZ w (.agg #[.bool t,x]) z2) (h3:IsN w q d1) (h4:IsN w y d2) (hz:z1=z2):
 Calls Tryz.prog 21 #[.agg #[.bool s,p,q],.agg #[.bool t,x,y]] w fun e w'=>e= .returned (.bool (decide (d1=d2)))∧Below w.heap.size w w':=by
 have hZ:=fun w h1 h2=>rzsame_any (.agg #[.bool s,p]) (.agg #[.bool t,x]) z1 z2 w h1 h2
 have hN:=fun w h3 h4=>rsame_any q y d1 d2 w h3 h4
 rw[decide_eq_true hz] at hZ
 obtain⟨_,A1,L1,C1,e1, -⟩:=h1.opn
 obtain⟨_,A2,L2,C2,e2, -⟩:=h2.opn
 obtain⟨A3,L3,C3,rfl, -⟩:=h3.opn
 obtain⟨A4,L4,C4,rfl, -⟩:=h4.opn
 obtain rfl:p= .slice A1 L1 C1:=by cases e1;rfl
 obtain rfl:x= .slice A2 L2 C2:=by cases e2;rfl
 clear e1 e2
 generalize decide (d1=d2)=dd at *
 clear hz
 obtain⟨g,hg⟩:∃g,g=w.heap.size:=⟨_,rfl⟩
 obtain⟨Y0,eY0,hA,bY0⟩:=box1 w 32 #[.bool s,.slice A1 L1 C1,.slice A3 L3 C3]
 have zY0:Y0.heap.size=g+1:=by rw[eY0,World.size_alloc,←hg]
 rw[←hg] at hA
 replace h1:=h1.b bY0
 replace h2:=h2.b bY0
 replace h3:=h3.b bY0
 replace h4:=h4.b bY0
 have hB:=bY0
 obtain⟨Y1,eY1,hC,bY1⟩:=box1 Y0 32 #[.bool t,.slice A2 L2 C2,.slice A4 L4 C4]
 have zY1:Y1.heap.size=g+1+1:=by rw[eY1,World.size_alloc,zY0]
 rw[zY0] at hC
 replace hA:=hA.b bY1
 replace h1:=h1.b bY1
 replace h2:=h2.b bY1
 replace h3:=h3.b bY1
 replace h4:=h4.b bY1
 replace hB:=bOn hB bY1
 have hgw:w.heap.size≤g:=by omega
 have EY:=Lib.hid (And.intro hg (And.intro eY0 eY1))
 clear hg eY0 zY0 eY1 zY1
 obtain⟨c0,c1,c2⟩:=hA.q3
 obtain⟨c3,c4,c5⟩:=hC.q3
 go_enter Tryz.func21,Tryz.ntmps21
 go_wp2_with fail
 rw[←EY.out.2.1,←EY.out.2.2,←EY.out.1]
 refine (hZ _ h1 h2).mono ?_
 rintro e w2 ⟨rfl,b2⟩
 replace h1:=h1.b b2
 replace h2:=h2.b b2
 replace h3:=h3.b b2
 replace h4:=h4.b b2
 replace hA:=hA.b b2
 replace hC:=hC.b b2
 replace hB:=bOn hB b2
 clear c0 c1 c2 c3 c4 c5
 obtain⟨c6,c7,c8⟩:=hA.q3
 obtain⟨c9,c10,c11⟩:=hC.q3
 go_wp2_with fail
 refine (hN _ h3 h4).mono ?_
 rintro e w4 ⟨rfl,n4,hn4⟩
 have b4:Below w2.heap.size w2 w4:=by rw[hn4];exact below_drewN (Below.refl _ _) n4
 clear hn4
 replace h1:=h1.b b4
 replace h2:=h2.b b4
 replace h3:=h3.b b4
 replace h4:=h4.b b4
 replace hA:=hA.b b4
 replace hC:=hC.b b4
 replace hB:=bOn hB b4
 clear c6 c7 c8 c9 c10 c11
 obtain⟨c12,c13,c14⟩:=hA.q3
 obtain⟨c15,c16,c17⟩:=hC.q3
 go_wp2
 go_ret
 exact⟨rfl,hB⟩
theorem rqsame_f (s t:Bool) (p q x y:Value) (z1 z2:Int) (d1 d2:Nat) (w:World) (h1:IsZ w (.agg #[.bool s,p]) z1) (h2:IsZ w (.agg #[.bool t,x]) z2) (h3:IsN w q d1) (h4:IsN w y d2) (hz:¬z1=z2):
 Calls Tryz.prog 21 #[.agg #[.bool s,p,q],.agg #[.bool t,x,y]] w fun e w'=>e= .returned (.bool false)∧Below w.heap.size w w':=by
 have hZ:=fun w h1 h2=>rzsame_any (.agg #[.bool s,p]) (.agg #[.bool t,x]) z1 z2 w h1 h2
 have hN:=fun w h3 h4=>rsame_any q y d1 d2 w h3 h4
 rw[decide_eq_false hz] at hZ
 obtain⟨_,A1,L1,C1,e1, -⟩:=h1.opn
 obtain⟨_,A2,L2,C2,e2, -⟩:=h2.opn
 obtain⟨A3,L3,C3,rfl, -⟩:=h3.opn
 obtain⟨A4,L4,C4,rfl, -⟩:=h4.opn
 obtain rfl:p= .slice A1 L1 C1:=by cases e1;rfl
 obtain rfl:x= .slice A2 L2 C2:=by cases e2;rfl
 clear e1 e2
 generalize decide (d1=d2)=dd at *
 clear hz
 obtain⟨g,hg⟩:∃g,g=w.heap.size:=⟨_,rfl⟩
 obtain⟨Y0,eY0,hA,bY0⟩:=box1 w 32 #[.bool s,.slice A1 L1 C1,.slice A3 L3 C3]
 have zY0:Y0.heap.size=g+1:=by rw[eY0,World.size_alloc,←hg]
 rw[←hg] at hA
 replace h1:=h1.b bY0
 replace h2:=h2.b bY0
 replace h3:=h3.b bY0
 replace h4:=h4.b bY0
 have hB:=bY0
 obtain⟨Y1,eY1,hC,bY1⟩:=box1 Y0 32 #[.bool t,.slice A2 L2 C2,.slice A4 L4 C4]
 have zY1:Y1.heap.size=g+1+1:=by rw[eY1,World.size_alloc,zY0]
 rw[zY0] at hC
 replace hA:=hA.b bY1
 replace h1:=h1.b bY1
 replace h2:=h2.b bY1
 replace h3:=h3.b bY1
 replace h4:=h4.b bY1
 replace hB:=bOn hB bY1
 have hgw:w.heap.size≤g:=by omega
 have EY:=Lib.hid (And.intro hg (And.intro eY0 eY1))
 clear hg eY0 zY0 eY1 zY1
 obtain⟨c0,c1,c2⟩:=hA.q3
 obtain⟨c3,c4,c5⟩:=hC.q3
 go_enter Tryz.func21,Tryz.ntmps21
 go_wp2_with fail
 rw[←EY.out.2.1,←EY.out.2.2,←EY.out.1]
 refine (hZ _ h1 h2).mono ?_
 rintro e w2 ⟨rfl,b2⟩
 replace h1:=h1.b b2
 replace h2:=h2.b b2
 replace h3:=h3.b b2
 replace h4:=h4.b b2
 replace hA:=hA.b b2
 replace hC:=hC.b b2
 replace hB:=bOn hB b2
 clear c0 c1 c2 c3 c4 c5
 obtain⟨c6,c7,c8⟩:=hA.q3
 obtain⟨c9,c10,c11⟩:=hC.q3
 go_wp2
 go_ret
 exact⟨rfl,hB⟩
theorem rqsame_raw (s t:Bool) (p q x y:Value) (z1 z2:Int) (d1 d2:Nat) (w:World) (h1:IsZ w (.agg #[.bool s,p]) z1) (h2:IsZ w (.agg #[.bool t,x]) z2) (h3:IsN w q d1) (h4:IsN w y d2):
 Calls Tryz.prog 21 #[.agg #[.bool s,p,q],.agg #[.bool t,x,y]] w fun e w'=>e= .returned (.bool (sameR z1 z2 d1 d2))∧Below w.heap.size w w':=by
 unfold sameR
 by_cases h:z1=z2
 ·rw[decide_eq_true h,Bool.true_and];exact rqsame_t s t p q x y z1 z2 d1 d2 w h1 h2 h3 h4 h
 ·rw[decide_eq_false h,Bool.false_and];exact rqsame_f s t p q x y z1 z2 d1 d2 w h1 h2 h3 h4 h
theorem sameR_eq (a b:Rat):sameR a.num b.num a.den b.den=decide (a=b):=by
 unfold sameR
 rw[Bool.eq_iff_iff]
 simp only[Bool.and_eq_true,decide_eq_true_eq]
 exact⟨fun h=>Rat.ext h.1 h.2,fun h=>by rw[h];exact⟨rfl,rfl⟩⟩
theorem rqsame_any (va vb:Value) (a b:Rat) (w:World) (ha:IsQ w va a) (hb:IsQ w vb b):
 Calls Tryz.prog 21 #[va,vb] w fun e w'=>e= .returned (.bool (decide (a=b)))∧Below w.heap.size w w':=by
 obtain⟨s,A,L,C,D,M,E,rfl,q1⟩:=ha.opn
 obtain⟨t,A',L',C',D',M',E',rfl,q2⟩:=hb.opn
 rw[←sameR_eq]
 exact rqsame_raw _ _ _ _ _ _ _ _ _ _ w q1.parts.2.1 q2.parts.2.1 q1.parts.2.2 q2.parts.2.2
theorem rssame_t (s1 t1 s2 t2:Bool) (B1 B2 B3 B4 B5 B6 B7 B8:Option Addr) (M1 M2 M3 M4 M5 M6 M7 M8 E1 E2 E3 E4 E5 E6 E7 E8:Nat) (b1 b2:Bool) (w:World) (hz:b1=true)
 (h1:∀W,Below w.heap.size w W→Calls Tryz.prog 21 #[.agg #[.bool s1,.slice B1 M1 E1,.slice B2 M2 E2],.agg #[.bool s2,.slice B5 M5 E5,.slice B6 M6 E6]] W fun e w'=>e= .returned (.bool b1)∧Below W.heap.size W w')
 (h2:∀W,Below w.heap.size w W→Calls Tryz.prog 21 #[.agg #[.bool t1,.slice B3 M3 E3,.slice B4 M4 E4],.agg #[.bool t2,.slice B7 M7 E7,.slice B8 M8 E8]] W fun e w'=>e= .returned (.bool b2)∧Below W.heap.size W w'):
 Calls Tryz.prog 22 #[.agg #[.bool s1,.slice B1 M1 E1,.slice B2 M2 E2,.bool t1,.slice B3 M3 E3,.slice B4 M4 E4],.agg #[.bool s2,.slice B5 M5 E5,.slice B6 M6 E6,.bool t2,.slice B7 M7 E7,.slice B8 M8 E8]] w fun e w'=>e= .returned (.bool (b1 && b2))∧Below w.heap.size w w':=by
 subst hz
 rw[Bool.true_and]
 obtain⟨g,hg⟩:∃g,g=w.heap.size:=⟨_,rfl⟩
 obtain⟨Y0,eY0,hA,bY0⟩:=box1 w 46 #[.bool s1,.slice B1 M1 E1,.slice B2 M2 E2,.bool t1,.slice B3 M3 E3,.slice B4 M4 E4]
 have zY0:Y0.heap.size=g+1:=by rw[eY0,World.size_alloc,←hg]
 rw[←hg] at hA
 have hB:=bY0
 obtain⟨Y1,eY1,hC,bY1⟩:=box1 Y0 46 #[.bool s2,.slice B5 M5 E5,.slice B6 M6 E6,.bool t2,.slice B7 M7 E7,.slice B8 M8 E8]
 have zY1:Y1.heap.size=g+1+1:=by rw[eY1,World.size_alloc,zY0]
 rw[zY0] at hC
 replace hA:=hA.b bY1
 replace hB:=bOn hB bY1
 have hgw:w.heap.size≤g:=by omega
 have EY:=Lib.hid (And.intro hg (And.intro eY0 eY1))
 clear hg eY0 zY0 eY1 zY1
 obtain⟨c0,c1,c2,c3,c4,c5⟩:=hA.q6
 obtain⟨c6,c7,c8,c9,c10,c11⟩:=hC.q6
 go_enter Tryz.func22,Tryz.ntmps22
 go_wp2_with fail
 rw[←EY.out.2.1,←EY.out.2.2,←EY.out.1]
 refine (h1 _ hB).mono ?_
 rintro e w2 ⟨rfl,b2⟩
 replace hA:=hA.b b2
 replace hC:=hC.b b2
 replace hB:=bOn hB b2
 clear c0 c1 c2 c3 c4 c5 c6 c7 c8 c9 c10 c11
 obtain⟨c12,c13,c14,c15,c16,c17⟩:=hA.q6
 obtain⟨c18,c19,c20,c21,c22,c23⟩:=hC.q6
 go_wp2_with fail
 refine (h2 _ hB).mono ?_
 rintro e w4 ⟨rfl,b4⟩
 replace hA:=hA.b b4
 replace hC:=hC.b b4
 replace hB:=bOn hB b4
 clear c12 c13 c14 c15 c16 c17 c18 c19 c20 c21 c22 c23
 obtain⟨c24,c25,c26,c27,c28,c29⟩:=hA.q6
 obtain⟨c30,c31,c32,c33,c34,c35⟩:=hC.q6
 go_wp2
 go_ret
 exact⟨rfl,hB⟩
theorem rssame_f (s1 t1 s2 t2:Bool) (B1 B2 B3 B4 B5 B6 B7 B8:Option Addr) (M1 M2 M3 M4 M5 M6 M7 M8 E1 E2 E3 E4 E5 E6 E7 E8:Nat) (b1 b2:Bool) (w:World) (hz:b1=false)
 (h1:∀W,Below w.heap.size w W→Calls Tryz.prog 21 #[.agg #[.bool s1,.slice B1 M1 E1,.slice B2 M2 E2],.agg #[.bool s2,.slice B5 M5 E5,.slice B6 M6 E6]] W fun e w'=>e= .returned (.bool b1)∧Below W.heap.size W w')
 (_h2:∀W,Below w.heap.size w W→Calls Tryz.prog 21 #[.agg #[.bool t1,.slice B3 M3 E3,.slice B4 M4 E4],.agg #[.bool t2,.slice B7 M7 E7,.slice B8 M8 E8]] W fun e w'=>e= .returned (.bool b2)∧Below W.heap.size W w'):
 Calls Tryz.prog 22 #[.agg #[.bool s1,.slice B1 M1 E1,.slice B2 M2 E2,.bool t1,.slice B3 M3 E3,.slice B4 M4 E4],.agg #[.bool s2,.slice B5 M5 E5,.slice B6 M6 E6,.bool t2,.slice B7 M7 E7,.slice B8 M8 E8]] w fun e w'=>e= .returned (.bool (b1 && b2))∧Below w.heap.size w w':=by
 subst hz
 rw[Bool.false_and]
 obtain⟨g,hg⟩:∃g,g=w.heap.size:=⟨_,rfl⟩
 obtain⟨Y0,eY0,hA,bY0⟩:=box1 w 46 #[.bool s1,.slice B1 M1 E1,.slice B2 M2 E2,.bool t1,.slice B3 M3 E3,.slice B4 M4 E4]
 have zY0:Y0.heap.size=g+1:=by rw[eY0,World.size_alloc,←hg]
 rw[←hg] at hA
 have hB:=bY0
 obtain⟨Y1,eY1,hC,bY1⟩:=box1 Y0 46 #[.bool s2,.slice B5 M5 E5,.slice B6 M6 E6,.bool t2,.slice B7 M7 E7,.slice B8 M8 E8]
 have zY1:Y1.heap.size=g+1+1:=by rw[eY1,World.size_alloc,zY0]
 rw[zY0] at hC
 replace hA:=hA.b bY1
 replace hB:=bOn hB bY1
 have hgw:w.heap.size≤g:=by omega
 have EY:=Lib.hid (And.intro hg (And.intro eY0 eY1))
 clear hg eY0 zY0 eY1 zY1
 obtain⟨c0,c1,c2,c3,c4,c5⟩:=hA.q6
 obtain⟨c6,c7,c8,c9,c10,c11⟩:=hC.q6
 go_enter Tryz.func22,Tryz.ntmps22
 go_wp2_with fail
 rw[←EY.out.2.1,←EY.out.2.2,←EY.out.1]
 refine (h1 _ hB).mono ?_
 rintro e w2 ⟨rfl,b2⟩
 replace hA:=hA.b b2
 replace hC:=hC.b b2
 replace hB:=bOn hB b2
 clear c0 c1 c2 c3 c4 c5 c6 c7 c8 c9 c10 c11
 obtain⟨c12,c13,c14,c15,c16,c17⟩:=hA.q6
 obtain⟨c18,c19,c20,c21,c22,c23⟩:=hC.q6
 go_wp2
 go_ret
 exact⟨rfl,hB⟩
theorem rssame_any (va vb:Value) (a b c d:Rat) (w:World) (ha:IsS w va a b) (hb:IsS w vb c d):
 Calls Tryz.prog 22 #[va,vb] w fun e w'=>e= .returned (.bool (decide (a=c) && decide (b=d)))∧Below w.heap.size w w':=by
 obtain⟨s,A,L,C,D,M,E,t,A',L',C',D',M',E',rfl,q1,q2⟩:=ha.opn
 obtain⟨s',B,N,G,H,O,I,t',B',N',G',H',O',I',rfl,q3,q4⟩:=hb.opn
 have h1:=fun W (h:Below w.heap.size w W)=>rqsame_any _ _ a c W (q1.below h) (q3.below h)
 have h2:=fun W (h:Below w.heap.size w W)=>rqsame_any _ _ b d W (q2.below h) (q4.below h)
 by_cases e:a=c
 ·rw[decide_eq_true e] at h1 ⊢;exact rssame_t _ _ _ _ _ _ _ _ _ _ _ _ _ _ _ _ _ _ _ _ _ _ _ _ _ _ _ _ _ _ w rfl h1 h2
 ·rw[decide_eq_false e] at h1 ⊢;exact rssame_f _ _ _ _ _ _ _ _ _ _ _ _ _ _ _ _ _ _ _ _ _ _ _ _ _ _ _ _ _ _ w rfl h1 h2
theorem rfrac5_any (p q:Int) (w:World) (hp:In64 p) (hq:In64 q) (h0:0<q):
 Calls Tryz.prog 27 #[.int .i64 p,.int .i64 q] w fun e w'=>∃v',e= .returned v'∧IsQ w' v' (mkRat p q.natAbs)∧Below w.heap.size w w':=by
 have hO1:=fun w=>rzof_any p hp.1 hp.2 w
 have hO2:=fun w=>rzof_any q hq.1 hq.2 w
 have sp:Sz p.natAbs 1:=Sz.u64 (by have:=hp.1;have:=hp.2;unfold W64;omega)
 have sq:Sz q.natAbs 1:=Sz.u64 (by have:=hq.1;have:=hq.2;unfold W64;omega)
 have hM:=fun u v w hu hv=>rqmake_any u v p q.natAbs w hu hv (sp.more (by omega)) (sq.more (by omega)) (by omega)
 generalize mkRat p q.natAbs=r at *
 clear sp sq hp hq h0
 obtain⟨g,Y0,hR,hB,hgw,EY⟩:=boxes1 w 32 #[.bool false,.slice none 0 0,.slice none 0 0]
 obtain⟨c0,c1,c2⟩:=hR.q3
 go_enter Tryz.func27,Tryz.ntmps27
 go_wp2_with fail
 rw[←EY.out.2,←EY.out.1]
 refine (hO1 _).mono ?_
 rintro e w2 ⟨v1,rfl,z1,b2⟩
 replace hR:=hR.b b2
 replace hB:=bOn hB b2
 clear c0 c1 c2
 obtain⟨c3,c4,c5⟩:=hR.q3
 go_wp2_with fail
 refine (hO2 _).mono ?_
 rintro e w4 ⟨v2,rfl,z2,b4⟩
 replace hR:=hR.b b4
 replace z1:=z1.b b4
 replace hB:=bOn hB b4
 clear c3 c4 c5
 obtain⟨c6,c7,c8⟩:=hR.q3
 obtain⟨s2,A2,L2,C2,rfl,z2⟩:=z2.opn
 have n2:=z2.parts.2
 have hfl:=fun w=>field_zed s2 (.slice A2 L2 C2) w
 go_wp2_with fail
 refine (hM _ _ _ z1 n2).mono ?_
 rintro e w6 ⟨v3,rfl,q3,b6⟩
 replace hR:=hR.b b6
 replace z1:=z1.b b6
 replace n2:=n2.b b6
 replace z2:=z2.b b6
 replace hB:=bOn hB b6
 clear c6 c7 c8
 obtain⟨c9,c10,c11⟩:=hR.q3
 obtain⟨s3,A3,L3,C3,D3,M3,E3,rfl,q3⟩:=q3.opn
 obtain⟨X8,V8,hV,bV8,lX8,nX8,EV8⟩:=boxL hB 32 #[.bool s3,.slice A3 L3 C3,.slice D3 M3 E3]
 have dX8_hR:=nX8 _ hR.lt
 clear nX8
 go_upto_region 2 with fail
 rw[←EV8.out.1,←EV8.out.2]
 replace hR:=hR.b bV8
 replace z1:=z1.b bV8
 replace n2:=n2.b bV8
 replace z2:=z2.b bV8
 replace q3:=q3.b bV8
 replace hB:=bOn hB bV8
 clear c9 c10 c11
 obtain⟨c12,c13,c14⟩:=hR.q3
 obtain⟨c15,c16,c17⟩:=hV.q3
 obtain⟨p1,p2,p3⟩:=put3 hR (.bool s3) (.slice A3 L3 C3) (.slice D3 M3 E3) (by simp[noU]) hB (by omega)
 have rc0:World.cell? _ ⟨g,0,none⟩=some (.bool false):=hR.cell 0
 have rf0:=hR.frozen 0
 have rc1:World.cell? _ ⟨g,1,none⟩=some (.slice none 0 0):=hR.cell 1
 have rf1:=hR.frozen 1
 have rc2:World.cell? _ ⟨g,2,none⟩=some (.slice none 0 0):=hR.cell 2
 have rf2:=hR.frozen 2
 have P:=Lib.hid (And.intro (q3.kept p2) (And.intro p3 p1.cells3))
 clear p1 p2 p3
 go_wp2_with fail
 obtain⟨P1,P2,P3,P4,P5⟩:=P.out
 exact bodyPost_ret (v:= .agg #[.bool s3,.slice A3 L3 C3,.slice D3 M3 E3]) (by simp[results,Tryz.results27,go_sem,P3,P4,P5]) rfl ⟨_,rfl,P1,P2⟩
end Go.Proofs.YtdnjdglekifhpaaGreat
namespace Go.Proofs.YtdnjdglekifhpaaGreat
open Go.RowKit
theorem cellAU {w w':World} {a:Addr} {v:Value} (h:Below w.heap.size w w') (hc:w.cell? a=some v):w'.cell? a=some v:=(h.cell (World.block_lt_of_cell? w _ hc)).trans hc
attribute [local go_sem ↓] Go.wp_at_zero Go.wp_at_succ
theorem alive20_vals:nextQ 1 1 3 1=mkRat 5 2∧mkRat 2 (2^1) - 1*mkRat 1 (2^1)=mkRat 1 2∧mkRat 2 (2^1)+1*mkRat 1 (2^1)=mkRat 3 2∧quantS [(3,255,[255],[])]=[1]:=by decide+kernel
theorem alive20_any (w:World):Calls Tryz.prog 12 #[] w fun e w'=>e= .returned (.bool true)∧Below w.heap.size w w':=by
 obtain⟨e1,e2,e3,e4⟩:=alive20_vals
 have b1:BQ (1:Rat) 1:=BQ.int (n:=1) (by unfold W64;omega)
 have b3:BQ (3:Rat) 1:=BQ.int (n:=3) (by unfold W64;omega)
 have hO3:=fun w=>rqof_any 3 (by omega) (by omega) w
 have hO1:=fun w=>rqof_any 1 (by omega) (by omega) w
 rw[show (((3:Int):Rat))=3 from rfl] at hO3
 rw[show (((1:Int):Rat))=1 from rfl] at hO1
 have hNx:=fun u v w h1 h2=>pnext_any 1 1 u v 3 1 w (by omega) ⟨by omega,by omega⟩ (by omega) (by decide) h1 h2 (b3.more (by omega)) (b1.more (by omega)) (by decide) (by decide)
 rw[e1] at hNx
 have hAr:=fun u w h1=>paround_any 2 1 u 1 w (by omega) ⟨by omega,by omega⟩ h1 (b1.more (by omega)) (by decide)
 rw[e2,e3] at hAr
 have hF1:=fun w=>rfrac5_any 1 2 w ⟨by omega,by omega⟩ ⟨by omega,by omega⟩ (by omega)
 have hF3:=fun w=>rfrac5_any 3 2 w ⟨by omega,by omega⟩ ⟨by omega,by omega⟩ (by omega)
 have hF5:=fun w=>rfrac5_any 5 2 w ⟨by omega,by omega⟩ ⟨by omega,by omega⟩ (by omega)
 rw[show (2:Int).natAbs=2 from rfl] at hF1 hF3 hF5
 have hQu:=fun v w h=>quant_any v (3,1,0,0,1,[(3,255,[255],[])]) w h ⟨by simp,by simp[bkLen]⟩ (by decide) (by simp[LoadB])
 simp only at hQu
 rw[e4] at hQu
 have hS1:=fun u v w h1 h2=>rqsame_any u v (mkRat 5 2) (mkRat 5 2) w h1 h2
 have hS2:=fun u v w h1 h2=>rqsame_any u v 1 1 w h1 h2
 have hS3:=fun u v w h1 h2=>rssame_any u v (mkRat 1 2) (mkRat 3 2) (mkRat 1 2) (mkRat 3 2) w h1 h2
 rw[decide_eq_true rfl] at hS1 hS2
 rw[decide_eq_true rfl,decide_eq_true rfl,Bool.true_and] at hS3
 generalize mkRat 1 2=r12 at *
 generalize mkRat 3 2=r32 at *
 generalize mkRat 5 2=r52 at *
 generalize (1:Rat)=r1 at *
 generalize (3:Rat)=r3 at *
 clear e1 e2 e3 e4 b1 b3
 have hB:=Below.refl w.heap.size w
 go_enter Tryz.func12,Tryz.ntmps12
 go_wp2_with fail
 refine (hO3 _).mono ?_
 rintro e w1 ⟨v1,rfl,q1,b1⟩
 replace hB:=bOn hB b1
 obtain⟨s1,A1,L1,C1,D1,M1,E1,rfl,q1⟩:=q1.opn
 go_wp2_with fail
 refine (hO1 _).mono ?_
 rintro e w3 ⟨v2,rfl,q2,b3⟩
 replace q1:=q1.b b3
 replace hB:=bOn hB b3
 obtain⟨s2,A2,L2,C2,D2,M2,E2,rfl,q2⟩:=q2.opn
 go_wp2_with fail
 refine (hNx _ _ _ q1 q2).mono ?_
 rintro e w5 ⟨v3,rfl,q3,b5⟩
 replace q1:=q1.b b5
 replace q2:=q2.b b5
 replace hB:=bOn hB b5
 obtain⟨s3,A3,L3,C3,D3,M3,E3,rfl,q3⟩:=q3.opn
 obtain⟨X7,V7,h1,bV7,lX7,nX7,EV7⟩:=boxL hB 32 #[.bool s3,.slice A3 L3 C3,.slice D3 M3 E3]
 clear nX7
 go_upto_region 2 with fail
 rw[←EV7.out.1,←EV7.out.2]
 replace q3:=q3.b bV7
 replace hB:=bOn hB bV7
 obtain⟨c0,c1,c2⟩:=h1.q3
 go_wp2_with fail
 refine (hO1 _).mono ?_
 rintro e w9 ⟨v4,rfl,q4,b9⟩
 replace q3:=q3.b b9
 replace h1:=h1.b b9
 replace hB:=bOn hB b9
 clear c0 c1 c2
 obtain⟨c3,c4,c5⟩:=h1.q3
 obtain⟨s4,A4,L4,C4,D4,M4,E4,rfl,q4⟩:=q4.opn
 go_wp2_with fail
 refine (hAr _ _ q4).mono ?_
 rintro e w11 ⟨v5,rfl,z5,b11⟩
 replace q3:=q3.b b11
 replace h1:=h1.b b11
 replace q4:=q4.b b11
 replace hB:=bOn hB b11
 clear c3 c4 c5
 obtain⟨c6,c7,c8⟩:=h1.q3
 obtain⟨s5,A5,L5,C5,D5,M5,E5,s6,A6,L6,C6,D6,M6,E6,rfl,q5,q6⟩:=z5.opn
 obtain⟨X13,V13,h3,bV13,lX13,nX13,EV13⟩:=boxL hB 46 #[.bool s5,.slice A5 L5 C5,.slice D5 M5 E5,.bool s6,.slice A6 L6 C6,.slice D6 M6 E6]
 have dX13_h1:=nX13 _ h1.lt
 clear nX13
 go_upto_region 3 with fail
 rw[←EV13.out.1,←EV13.out.2]
 replace q3:=q3.b bV13
 replace h1:=h1.b bV13
 replace q5:=q5.b bV13
 replace q6:=q6.b bV13
 replace hB:=bOn hB bV13
 clear c6 c7 c8
 obtain⟨c9,c10,c11⟩:=h1.q3
 obtain⟨c12,c13,c14,c15,c16,c17⟩:=h3.q6
 go_wp2_with fail
 refine (hF1 _).mono ?_
 rintro e w15 ⟨v7,rfl,q7,b15⟩
 replace q3:=q3.b b15
 replace h1:=h1.b b15
 replace q5:=q5.b b15
 replace q6:=q6.b b15
 replace h3:=h3.b b15
 replace hB:=bOn hB b15
 clear c9 c10 c11 c12 c13 c14 c15 c16 c17
 obtain⟨c18,c19,c20⟩:=h1.q3
 obtain⟨c21,c22,c23,c24,c25,c26⟩:=h3.q6
 obtain⟨s7,A7,L7,C7,D7,M7,E7,rfl,q7⟩:=q7.opn
 go_wp2_with fail
 refine (hF3 _).mono ?_
 rintro e w17 ⟨v8,rfl,q8,b17⟩
 replace q3:=q3.b b17
 replace h1:=h1.b b17
 replace q5:=q5.b b17
 replace q6:=q6.b b17
 replace h3:=h3.b b17
 replace q7:=q7.b b17
 replace hB:=bOn hB b17
 clear c18 c19 c20 c21 c22 c23 c24 c25 c26
 obtain⟨c27,c28,c29⟩:=h1.q3
 obtain⟨c30,c31,c32,c33,c34,c35⟩:=h3.q6
 obtain⟨s8,A8,L8,C8,D8,M8,E8,rfl,q8⟩:=q8.opn
 obtain⟨X19,V19,h5,bV19,lX19,nX19,EV19⟩:=boxL hB 46 #[.bool s7,.slice A7 L7 C7,.slice D7 M7 E7,.bool s8,.slice A8 L8 C8,.slice D8 M8 E8]
 have dX19_h1:=nX19 _ h1.lt
 have dX19_h3:=nX19 _ h3.lt
 clear nX19
 go_upto_region 4 with fail
 rw[←EV19.out.1,←EV19.out.2]
 replace q3:=q3.b bV19
 replace h1:=h1.b bV19
 replace q5:=q5.b bV19
 replace q6:=q6.b bV19
 replace h3:=h3.b bV19
 replace q7:=q7.b bV19
 replace q8:=q8.b bV19
 replace hB:=bOn hB bV19
 clear c27 c28 c29 c30 c31 c32 c33 c34 c35
 obtain⟨c36,c37,c38⟩:=h1.q3
 obtain⟨c39,c40,c41,c42,c43,c44⟩:=h3.q6
 obtain⟨c45,c46,c47,c48,c49,c50⟩:=h5.q6
 obtain⟨U1,eU1,hU1,bU1⟩:=box1 V19 5 #[.int .u8 255]
 obtain⟨X1,eX1⟩:∃X,X=V19.heap.size:=⟨_,rfl⟩
 rw[←eX1] at hU1
 have hy:IsY U1 (.slice (some ⟨X1,0,none⟩) 1 1) [255]:=by rw[eU1,eX1];exact IsY.fresh V19 5 [255] (by intro x hx;simp at hx;omega) (by simp)
 obtain⟨U2,eU2,hU2,bU2⟩:=box1 U1 103 #[.int .i64 3,.int .i64 255,.slice (some ⟨X1,0,none⟩) 1 1,.slice none 0 0]
 obtain⟨X2,eX2⟩:∃X,X=U1.heap.size:=⟨_,rfl⟩
 have eX3:V19.heap.size+1=X2:=by rw[eX2,eU1,World.size_alloc]
 have hbs:IsBs U2 (.slice (some ⟨X2,0,none⟩) 1 1) [(3,255,[255],[])]:=by
  have:=World.ownsRow_lit U1 #[.int .i64 3,.int .i64 255,.slice (some ⟨X1,0,none⟩) 1 1,.slice none 0 0] 1 (base:=0) (e:=103) (size:=4) (by omega) (by unfold maxLen;omega) rfl
  rw[←eX2,←eU2] at this
  obtain⟨A9,c9,e9,_,_,hr9⟩:=own4_form this
  obtain⟨rfl,_,rfl⟩:=Value.slice.inj e9
  refine ⟨[((3,255,[255],[]),.slice (some ⟨X1,0,none⟩) 1 1,.slice none 0 0)],some ⟨X2,0,none⟩,1,rfl,rfl,by simp,by omega,fun e he=>?_,hr9⟩
  obtain rfl:=List.mem_singleton.1 he
  exact⟨hy.below bU2,IsI.nil U2⟩
 have hst:IsSt U2 (.agg #[.int .i64 3,.int .i64 1,.int .i64 0,.int .i64 0,.int .i64 1,.slice (some ⟨X2,0,none⟩) 1 1]) (3,1,0,0,1,[(3,255,[255],[])]):=⟨_,rfl,hbs⟩
 have EU:=Lib.hid (And.intro eU1 (And.intro eX1 (And.intro eU2 (And.intro eX2 eX3))))
 clear eU1 eX1 eU2 eX2 eX3 hU1 hU2 hy hbs
 go_wp2_with fail
 rw[←EU.out.1]
 first | rw[EU.out.2.2.2.2] | rw[←EU.out.2.2.2.1]
 rw[←EU.out.2.1,←EU.out.2.2.1]
 replace q3:=q3.b bU1
 replace h1:=h1.b bU1
 replace q5:=q5.b bU1
 replace q6:=q6.b bU1
 replace h3:=h3.b bU1
 replace q7:=q7.b bU1
 replace q8:=q8.b bU1
 replace h5:=h5.b bU1
 replace hB:=bOn hB bU1
 clear c36 c37 c38 c39 c40 c41 c42 c43 c44 c45 c46 c47 c48 c49 c50
 obtain⟨c51,c52,c53⟩:=h1.q3
 obtain⟨c54,c55,c56,c57,c58,c59⟩:=h3.q6
 obtain⟨c60,c61,c62,c63,c64,c65⟩:=h5.q6
 replace q3:=q3.b bU2
 replace h1:=h1.b bU2
 replace q5:=q5.b bU2
 replace q6:=q6.b bU2
 replace h3:=h3.b bU2
 replace q7:=q7.b bU2
 replace q8:=q8.b bU2
 replace h5:=h5.b bU2
 replace hB:=bOn hB bU2
 clear c51 c52 c53 c54 c55 c56 c57 c58 c59 c60 c61 c62 c63 c64 c65
 obtain⟨c66,c67,c68⟩:=h1.q3
 obtain⟨c69,c70,c71,c72,c73,c74⟩:=h3.q6
 obtain⟨c75,c76,c77,c78,c79,c80⟩:=h5.q6
 refine (hQu _ _ hst).mono ?_
 rintro e w30 ⟨v9,rfl,z9,b30⟩
 clear hst
 replace q3:=q3.b b30
 replace h1:=h1.b b30
 replace q5:=q5.b b30
 replace q6:=q6.b b30
 replace h3:=h3.b b30
 replace q7:=q7.b b30
 replace q8:=q8.b b30
 replace h5:=h5.b b30
 replace hB:=bOn hB b30
 clear c66 c67 c68 c69 c70 c71 c72 c73 c74 c75 c76 c77 c78 c79 c80
 obtain⟨c81,c82,c83⟩:=h1.q3
 obtain⟨c84,c85,c86,c87,c88,c89⟩:=h3.q6
 obtain⟨c90,c91,c92,c93,c94,c95⟩:=h5.q6
 obtain⟨ad,c9,u9,p9,t9,rfl,_,x0,x1,x2,q9⟩:=z9.at_ (i:=0) (by simp)
 rw[Nat.zero_mul,show ad.add 0=ad by simp[Addr.add]] at x0 x1 x2
 obtain⟨s9,A9,L9,C9,D9,M9,E9,e9,q9⟩:=q9.opn
 obtain⟨rfl,rfl,rfl⟩:s9=u9∧p9= .slice A9 L9 C9∧t9= .slice D9 M9 E9:=by
  injection e9 with e9;simp only[Array.mk.injEq,List.cons.injEq,and_true] at e9;exact⟨by have:=e9.1;injection this with this;exact this.symm,e9.2.1,e9.2.2⟩
 clear e9 z9
 go_upto_region 5 with fail
 replace hB:=hB.drew
 replace q3:=q3.b (bdrew _)
 replace h1:=h1.drew
 replace q5:=q5.b (bdrew _)
 replace q6:=q6.b (bdrew _)
 replace h3:=h3.drew
 replace q7:=q7.b (bdrew _)
 replace q8:=q8.b (bdrew _)
 replace h5:=h5.drew
 replace q9:=q9.b (bdrew _)
 replace x0:=cellAU (bdrew _) x0
 replace x1:=cellAU (bdrew _) x1
 replace x2:=cellAU (bdrew _) x2
 clear c81 c82 c83 c84 c85 c86 c87 c88 c89 c90 c91 c92 c93 c94 c95
 refine wp_region_noPanic ?_
 refine wp_region_held_drew (S:=fun w'=>w'.cell? ⟨X7,0,none⟩=some (.bool s3)∧w'.cell? ⟨X7,1,none⟩=some (.slice A3 L3 C3)∧w'.cell? ⟨X7,2,none⟩=some (.slice D3 M3 E3)∧w'.cell? ⟨X13,0,none⟩=some (.bool s5)∧w'.cell? ⟨X13,1,none⟩=some (.slice A5 L5 C5)∧w'.cell? ⟨X13,2,none⟩=some (.slice D5 M5 E5)∧w'.cell? ⟨X13,3,none⟩=some (.bool s6)∧w'.cell? ⟨X13,4,none⟩=some (.slice A6 L6 C6)∧w'.cell? ⟨X13,5,none⟩=some (.slice D6 M6 E6)∧w'.cell? ⟨X19,0,none⟩=some (.bool s7)∧w'.cell? ⟨X19,1,none⟩=some (.slice A7 L7 C7)∧w'.cell? ⟨X19,2,none⟩=some (.slice D7 M7 E7)∧w'.cell? ⟨X19,3,none⟩=some (.bool s8)∧w'.cell? ⟨X19,4,none⟩=some (.slice A8 L8 C8)∧w'.cell? ⟨X19,5,none⟩=some (.slice D8 M8 E8)∧w'.cell? ad=some (.bool s9)∧w'.cell? ⟨ad.block,ad.off+1,none⟩=some (.slice A9 L9 C9)∧w'.cell? ⟨ad.block,ad.off+2,none⟩=some (.slice D9 M9 E9)) (by kernel_rfl) ?_ (fun hHeld=>?_)
 ·exact⟨h1.cell 0,h1.cell 1,h1.cell 2,h3.cell 0,h3.cell 1,h3.cell 2,h3.cell 3,h3.cell 4,h3.cell 5,h5.cell 0,h5.cell 1,h5.cell 2,h5.cell 3,h5.cell 4,h5.cell 5,x0,x1,x2⟩
 obtain⟨wd5_1,hwd⟩:∃q,q=w30.drew:=⟨_,rfl⟩
 rw[←hwd] at hB q3 h1 q5 q6 h3 q7 q8 h5 q9 x0 x1 x2 hHeld ⊢
 clear hwd
 refine tkA 0 rfl ?_
 refine tkA 1 rfl ?_
 refine tkA 2 rfl ?_
 refine tkA 3 rfl ?_
 refine tkA 4 rfl ?_
 refine tkA 5 rfl ?_
 refine tkA 6 rfl ?_
 refine tkA 7 rfl ?_
 try simp only[lay]
 refine rd1 8 rfl fun K hK=>?_
 go_simp
 refine (hF5 _).mono ?_
 rintro e u5_1 ⟨v10,rfl,q10,b5_1⟩
 replace q3:=q3.b b5_1
 replace h1:=h1.b b5_1
 replace q5:=q5.b b5_1
 replace q6:=q6.b b5_1
 replace h3:=h3.b b5_1
 replace q7:=q7.b b5_1
 replace q8:=q8.b b5_1
 replace h5:=h5.b b5_1
 replace q9:=q9.b b5_1
 replace x0:=cellAU b5_1 x0
 replace x1:=cellAU b5_1 x1
 replace x2:=cellAU b5_1 x2
 replace hB:=bOn hB b5_1
 obtain⟨s10,A10,L10,C10,D10,M10,E10,rfl,q10⟩:=q10.opn
 go_wp2_with fail
 refine hK.out _ _ ?_ fun hHeld=>?_
 ·exact⟨h1.cell 0,h1.cell 1,h1.cell 2,h3.cell 0,h3.cell 1,h3.cell 2,h3.cell 3,h3.cell 4,h3.cell 5,h5.cell 0,h5.cell 1,h5.cell 2,h5.cell 3,h5.cell 4,h5.cell 5,x0,x1,x2⟩
 clear hK K
 try simp only[lay]
 refine rd1 9 rfl fun K hK=>?_
 go_simp
 refine (hS1 _ _ _ q3 q10).mono ?_
 rintro e u5_2 ⟨rfl,b5_2⟩
 replace q3:=q3.b b5_2
 replace h1:=h1.b b5_2
 replace q5:=q5.b b5_2
 replace q6:=q6.b b5_2
 replace h3:=h3.b b5_2
 replace q7:=q7.b b5_2
 replace q8:=q8.b b5_2
 replace h5:=h5.b b5_2
 replace q9:=q9.b b5_2
 replace x0:=cellAU b5_2 x0
 replace x1:=cellAU b5_2 x1
 replace x2:=cellAU b5_2 x2
 replace q10:=q10.b b5_2
 replace hB:=bOn hB b5_2
 go_wp2_with fail
 refine hK.out _ _ ?_ fun hHeld=>?_
 ·exact⟨h1.cell 0,h1.cell 1,h1.cell 2,h3.cell 0,h3.cell 1,h3.cell 2,h3.cell 3,h3.cell 4,h3.cell 5,h5.cell 0,h5.cell 1,h5.cell 2,h5.cell 3,h5.cell 4,h5.cell 5,x0,x1,x2⟩
 clear hK K
 refine tkA 10 rfl ?_
 refine tkA 11 rfl ?_
 refine tkA 12 rfl ?_
 refine tkA 13 rfl ?_
 try simp only[lay]
 refine rd1 14 rfl fun K hK=>?_
 go_simp
 refine (hS3 _ _ _ ⟨_,_,_,_,_,_,rfl,q5,q6⟩ ⟨_,_,_,_,_,_,rfl,q7,q8⟩).mono ?_
 rintro e u5_3 ⟨rfl,b5_3⟩
 replace q3:=q3.b b5_3
 replace h1:=h1.b b5_3
 replace q5:=q5.b b5_3
 replace q6:=q6.b b5_3
 replace h3:=h3.b b5_3
 replace q7:=q7.b b5_3
 replace q8:=q8.b b5_3
 replace h5:=h5.b b5_3
 replace q9:=q9.b b5_3
 replace x0:=cellAU b5_3 x0
 replace x1:=cellAU b5_3 x1
 replace x2:=cellAU b5_3 x2
 replace q10:=q10.b b5_3
 replace hB:=bOn hB b5_3
 go_wp2_with fail
 refine hK.out _ _ ?_ fun hHeld=>?_
 ·exact⟨h1.cell 0,h1.cell 1,h1.cell 2,h3.cell 0,h3.cell 1,h3.cell 2,h3.cell 3,h3.cell 4,h3.cell 5,h5.cell 0,h5.cell 1,h5.cell 2,h5.cell 3,h5.cell 4,h5.cell 5,x0,x1,x2⟩
 clear hK K
 refine tkA 15 rfl ?_
 refine tkA 16 rfl ?_
 refine tkA 17 rfl ?_
 refine tkA 18 rfl ?_
 refine tkA 19 rfl ?_
 refine tkA 20 rfl ?_
 refine tkA 21 rfl ?_
 refine tkA 22 rfl ?_
 refine tkA 23 rfl ?_
 refine tkA 24 rfl ?_
 try simp only[lay]
 refine rd1 25 rfl fun K hK=>?_
 go_simp
 refine (hO1 _).mono ?_
 rintro e u5_4 ⟨v11,rfl,q11,b5_4⟩
 replace q3:=q3.b b5_4
 replace h1:=h1.b b5_4
 replace q5:=q5.b b5_4
 replace q6:=q6.b b5_4
 replace h3:=h3.b b5_4
 replace q7:=q7.b b5_4
 replace q8:=q8.b b5_4
 replace h5:=h5.b b5_4
 replace q9:=q9.b b5_4
 replace x0:=cellAU b5_4 x0
 replace x1:=cellAU b5_4 x1
 replace x2:=cellAU b5_4 x2
 replace q10:=q10.b b5_4
 replace hB:=bOn hB b5_4
 obtain⟨s11,A11,L11,C11,D11,M11,E11,rfl,q11⟩:=q11.opn
 go_wp2_with fail
 refine hK.out _ _ ?_ fun hHeld=>?_
 ·exact⟨h1.cell 0,h1.cell 1,h1.cell 2,h3.cell 0,h3.cell 1,h3.cell 2,h3.cell 3,h3.cell 4,h3.cell 5,h5.cell 0,h5.cell 1,h5.cell 2,h5.cell 3,h5.cell 4,h5.cell 5,x0,x1,x2⟩
 clear hK K
 try simp only[lay]
 refine rd1 26 rfl fun K hK=>?_
 go_simp
 refine (hS2 _ _ _ q9 q11).mono ?_
 rintro e u5_5 ⟨rfl,b5_5⟩
 replace q3:=q3.b b5_5
 replace h1:=h1.b b5_5
 replace q5:=q5.b b5_5
 replace q6:=q6.b b5_5
 replace h3:=h3.b b5_5
 replace q7:=q7.b b5_5
 replace q8:=q8.b b5_5
 replace h5:=h5.b b5_5
 replace q9:=q9.b b5_5
 replace x0:=cellAU b5_5 x0
 replace x1:=cellAU b5_5 x1
 replace x2:=cellAU b5_5 x2
 replace q10:=q10.b b5_5
 replace q11:=q11.b b5_5
 replace hB:=bOn hB b5_5
 go_wp2_with fail
 refine hK.out _ _ ?_ fun hHeld=>?_
 ·exact⟨h1.cell 0,h1.cell 1,h1.cell 2,h3.cell 0,h3.cell 1,h3.cell 2,h3.cell 3,h3.cell 4,h3.cell 5,h5.cell 0,h5.cell 1,h5.cell 2,h5.cell 3,h5.cell 4,h5.cell 5,x0,x1,x2⟩
 clear hK K
 refine tkA 27 rfl ?_
 refine tkA 28 rfl ?_
 try simp only[lay]
 refine wpAnyH_done (by kernel_rfl) ?_ _
 refine NoPanic.normal ?_
 skip
 obtain⟨c96,c97,c98⟩:=h1.q3
 obtain⟨c99,c100,c101,c102,c103,c104⟩:=h3.q6
 obtain⟨c105,c106,c107,c108,c109,c110⟩:=h5.q6
 go_wp2
 go_ret
 exact⟨rfl,hB⟩
end Go.Proofs.YtdnjdglekifhpaaGreat
