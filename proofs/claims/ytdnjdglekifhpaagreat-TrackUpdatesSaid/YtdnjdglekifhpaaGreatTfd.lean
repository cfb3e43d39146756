/- A part of the proof of: All updates of some moments are as the document says. No conditions: every input. -/
import Derived.Test.YtdnjdglekifhpaaGreatTfc
set_option maxRecDepth 100000
set_option maxHeartbeats 8000000
namespace Go.Proofs.YtdnjdglekifhpaaGreat
open Go.RowKit
attribute [local go_sem ↓] Go.wp_at_zero Go.wp_at_succ
theorem rlack_any (beta:Int) (k t:Nat) (w:World) (hk:k≤40) (hb:In64 beta) (ht:t≤100):
 Calls Tryz.prog 91 #[.int .i64 beta,.int .i64 k,.int .i64 t] w fun e w'=>∃v',e= .returned v'∧IsQ w' v' (1 - powQ (mkRat beta (2^k)) t)∧Below w.heap.size w w':=by
 have hN:=fun w=>rrat_any beta k w hk hb
 have hO:=fun w=>rqof_any 1 (by omega) (by omega) w
 rw[show ((1:Int):Rat)=1 from rfl] at hO
 have sx:BQ (mkRat beta (2^k)) 1:=BQ.mk (Sz.u64 (by have:=hb.1;have:=hb.2;unfold W64;omega)) ((Sz.two_pow k).more (by omega)) (by omega)
 have b1:BQ (1:Rat) 1:=BQ.int (n:=1) (by unfold W64;omega)
 have sp:=sz_powQ sx
 generalize mkRat beta (2^k)=x at *
 clear hb
 obtain⟨g,Y0,hR,hB,hgw,EY⟩:=boxes1 w 32 #[.bool false,.slice none 0 0,.slice none 0 0]
 obtain⟨c0,c1,c2⟩:=hR.q3
 go_enter Tryz.func91,Tryz.ntmps91
 go_wp2_with fail
 rw[←EY.out.2,←EY.out.1]
 refine (hN _).mono ?_
 rintro e w2 ⟨v7,rfl,q7,b2⟩
 replace hR:=hR.b b2
 replace hB:=bOn hB b2
 clear c0 c1 c2
 obtain⟨c3,c4,c5⟩:=hR.q3
 obtain⟨s7,A7,L7,C7,D7,M7,E7,rfl,q7⟩:=q7.opn
 obtain⟨X4,V4,h7,bV4,lX4,nX4,EV4⟩:=boxL hB 32 #[.bool s7,.slice A7 L7 C7,.slice D7 M7 E7]
 have dX4_hR:=nX4 _ hR.lt
 clear nX4
 go_upto_region 2 with fail
 rw[←EV4.out.1,←EV4.out.2]
 replace hR:=hR.b bV4
 replace q7:=q7.b bV4
 replace hB:=bOn hB bV4
 clear c3 c4 c5
 obtain⟨c6,c7,c8⟩:=hR.q3
 obtain⟨c9,c10,c11⟩:=h7.q3
 go_wp2_with fail
 refine (hO _).mono ?_
 rintro e w6 ⟨v9,rfl,q9,b6⟩
 replace hR:=hR.b b6
 replace q7:=q7.b b6
 replace h7:=h7.b b6
 replace hB:=bOn hB b6
 clear c6 c7 c8 c9 c10 c11
 obtain⟨c12,c13,c14⟩:=hR.q3
 obtain⟨c15,c16,c17⟩:=h7.q3
 obtain⟨s9,A9,L9,C9,D9,M9,E9,rfl,q9⟩:=q9.opn
 obtain⟨X8,V8,h9,bV8,lX8,nX8,EV8⟩:=boxL hB 32 #[.bool s9,.slice A9 L9 C9,.slice D9 M9 E9]
 have dX8_hR:=nX8 _ hR.lt
 have dX8_h7:=nX8 _ h7.lt
 clear nX8
 go_upto_region 3 with fail
 rw[←EV8.out.1,←EV8.out.2]
 replace hR:=hR.b bV8
 replace q7:=q7.b bV8
 replace h7:=h7.b bV8
 replace q9:=q9.b bV8
 replace hB:=bOn hB bV8
 clear c12 c13 c14 c15 c16 c17
 obtain⟨c18,c19,c20⟩:=hR.q3
 obtain⟨c21,c22,c23⟩:=h7.q3
 obtain⟨c24,c25,c26⟩:=h9.q3
 go_wp2_with fail
 go_loopw [10] (fun iV wr=>∃(i:Nat) (s9:Bool) (A9 D9:Option Addr) (L9 C9 M9 E9:Nat),iV= .int .i64 i∧i≤t∧Blk wr g 32 #[.bool false,.slice none 0 0,.slice none 0 0]∧Blk wr X4 32 #[.bool s7,.slice A7 L7 C7,.slice D7 M7 E7]∧IsQ wr (.agg #[.bool s7,.slice A7 L7 C7,.slice D7 M7 E7]) x∧Blk wr X8 32 #[.bool s9,.slice A9 L9 C9,.slice D9 M9 E9]∧IsQ wr (.agg #[.bool s9,.slice A9 L9 C9,.slice D9 M9 E9]) (powQ x i)∧Below w.heap.size w wr) (fun iV _=>t - (intOf iV).toNat)
 case atStart=>exact⟨0,_,_,_,_,_,_,_,rfl,Nat.zero_le _,hR,h7,q7,h9,q9,hB⟩
 case round=>
  clear hR h7 q7 h9 q9 hB
  obtain⟨i,s9,A9,D9,L9,C9,M9,E9,rfl,hi,hR,h7,q7,h9,q9,hB⟩:=hrel
  by_cases hlt:i<t
  ·clear c18 c19 c20 c21 c22 c23 c24 c25 c26
   obtain⟨c27,c28,c29⟩:=hR.q3
   obtain⟨c30,c31,c32⟩:=h7.q3
   obtain⟨c33,c34,c35⟩:=h9.q3
   have i1:(i:Int)<(t:Int):=by omega
   have hM:=fun u v w h h'=>rqmul_any u v (powQ x i) x w h h' ((sp i).more (by omega)) (sx.more (by omega))
   rw[show powQ x i*x=powQ x (i+1) from rfl] at hM
   go_wp2_with fail
   refine (hM _ _ _ q9 q7).mono ?_
   rintro e w11 ⟨v10,rfl,q10,b11⟩
   replace hR:=hR.b b11
   replace q7:=q7.b b11
   replace h7:=h7.b b11
   replace q9:=q9.b b11
   replace h9:=h9.b b11
   replace hB:=bOn hB b11
   clear c27 c28 c29 c30 c31 c32 c33 c34 c35
   obtain⟨c36,c37,c38⟩:=hR.q3
   obtain⟨c39,c40,c41⟩:=h7.q3
   obtain⟨c42,c43,c44⟩:=h9.q3
   obtain⟨s10,A10,L10,C10,D10,M10,E10,rfl,q10⟩:=q10.opn
   obtain⟨W8,eW,f1,f2,f3,f4⟩:=fill3 h9 (.bool s10) (.slice A10 L10 C10) (.slice D10 M10 E10) (by simp[noU])
   have xf:=h9.frozen
   go_upto_region 5 with fail
   rw[←eW]
   replace hR:=f3 _ _ _ hR (by omega)
   replace h7:=f3 _ _ _ h7 (by omega)
   replace q7:=q7.filled f2
   replace q10:=q10.filled f2
   replace hB:=f4 _ _ (by omega) hB
   clear eW f2 f3 f4 xf h9 q9
   clear c36 c37 c38 c39 c40 c41 c42 c43 c44
   go_wp2
   exact⟨⟨i+1,_,_,_,_,_,_,_,by go_num,by omega,hR,h7,q7,f1,q10,hB⟩,by simp[intOf];omega⟩
  ·obtain rfl:i=t:=by omega
   clear c18 c19 c20 c21 c22 c23 c24 c25 c26
   obtain⟨c27,c28,c29⟩:=hR.q3
   obtain⟨c30,c31,c32⟩:=h7.q3
   obtain⟨c33,c34,c35⟩:=h9.q3
   have hS:=fun u v w h h'=>rqsub_any u v 1 (powQ x i) w h h' (b1.more (by omega)) ((sp i).more (by omega))
   generalize hrs:(1:Rat) - powQ x i=rs at *
   have HRS:=Lib.hid hrs
   clear hrs
   generalize hrp:powQ x i=rp at *
   have HRP:=Lib.hid hrp
   clear hrp
   go_upto_region 7 with fail
   clear c27 c28 c29 c30 c31 c32 c33 c34 c35
   replace hB:=hB.drew
   replace hR:=hR.drew
   replace q9:=q9.b (bdrew _)
   replace h9:=h9.drew
   refine wp_region_noPanic ?_
   refine wp_region_held_drew (S:=fun w'=>World.grownBy wr.drew w' (some (g))) (by kernel_rfl) (grown_of (Below.refl _ _) _) (fun hHeld=>?_)
   obtain⟨wd7_1,hwd⟩:∃q,q=wr.drew:=⟨_,rfl⟩
   rw[←hwd] at hB hR q9 h9 hHeld ⊢
   clear hwd
   refine tkH 1 rfl (v:=?v1) ?h1 ?r1
   case h1=>
    intro w hSw
    (try dsimp only at hSw)
    obtain⟨yh9_0,yh9_1,yh9_2⟩:=(Blk.grownT h9 hSw (fun e=>absurd (Option.some.inj e) (by first | assumption | exact Ne.symm (by assumption) | omega))).q3
    go_simp
    try (with_reducible rfl)
   try simp only[Act.put,lay]
   refine wpAnyH_facts [(0,26),(2,28)] [] [] (pick [(0,fun (v:Value) (w:World)=>∃v11,v11=v∧IsQ w v11 1),(2,fun (v:Value) (w:World)=>∃v12,v12=v∧IsQ w v12 rs)]) #[true,true,true,false] (fun _ h=>grown_of h _) (pick_pers (show PersAll _ from ⟨fun _ _ _ b ⟨v11,e,q11⟩=>⟨v11,e,q11.below b⟩,fun _ _ _ b ⟨v12,e,q12⟩=>⟨v12,e,q12.below b⟩,trivial⟩)) (hord_of (by kernel_rfl)) (by kernel_rfl) (by kernel_rfl) (by kernel_rfl) (by kernel_rfl) (fun _ _ _ _ _ h=>h) ?ops1 ?pur1 ?done1 (Below.refl _ _) (Nat.le_of_ble_eq_true (by kernel_rfl))
   case ops1=>
    refine .cons rfl (fun a w zS K hK=>?_) ?_
    ·go_simp
     refine (hO _).mono ?_
     rintro e w' ⟨v11,rfl,q11,b⟩
     exact hK _ _ ⟨v11,rfl,q11⟩ b
    refine .cons rfl (fun a w zS K hK=>?_) ?_
    ·have q9:=q9.below zS.1
     obtain⟨v26,e26,v11,rfl,q11⟩:=zS.2.2 0 26 (by kernel_rfl)
     have e27:=zS.2.1 27 _ (by kernel_rfl) rfl
     go_simp
     refine (hS _ _ _ q11 q9).mono ?_
     rintro e w' ⟨v12,rfl,q12,b⟩
     exact hK _ _ ⟨v12,rfl,q12⟩ b
    exact .nil
   case pur1=>
    exact .nil
   case done1=>
    intro fuel a wr7_1 zf zS zdf zsz zs zd
    obtain⟨fuel,rfl⟩:∃n,fuel=n+1:=⟨fuel - 1,by have h:1≤fuel:=Nat.le_trans (Nat.le_of_ble_eq_true (by kernel_rfl)) zf;omega⟩
    clear zf
    have nhR:=hR.lt
    replace hR:=hR.below zS nhR
    replace q9:=q9.b zS
    have nh9:=h9.lt
    replace h9:=h9.below zS nh9
    obtain⟨v26_,e26_,v11,rfl,q11⟩:=zd 0 26 (by kernel_rfl)
    obtain⟨v28_,e28_,v12,rfl,q12⟩:=zd 2 28 (by kernel_rfl)
    obtain rfl:=act_of [(26,v11),(28,v12)] ⟨e26_,e28_,trivial⟩ zdf zsz (fun s h=>zs s h)
    simp only[putAll,List.set_cons_zero,List.set_cons_succ]
    clear zdf zsz zs zd e26_ e28_
    replace hB:=bOn hB zS
    clear nhR nh9
    obtain⟨s12,A12,L12,C12,D12,M12,E12,rfl,q12⟩:=q12.opn
    have zG:=grown_of zS (some (g))
    refine rd1 3 rfl fun K hK=>?_
    obtain⟨ws7_3,eu,hR',kz,kb,kB⟩:=fill3 hR (.bool s12) (.slice A12 L12 C12) (.slice D12 M12 E12) (by simp[noU])
    obtain⟨x0,x1,x2⟩:=hR.q3
    have xf:=hR.frozen
    replace zG:=(grown_set (grown_set (grown_set zG (p:=⟨g,0,none⟩) (.inl rfl) (.bool s12)) (p:=⟨g,1,none⟩) (.inl rfl) (.slice A12 L12 C12)) (p:=⟨g,2,none⟩) (.inl rfl) (.slice D12 M12 E12))
    rw[←eu] at zG
    go_simp
    rw[←eu]
    replace q9:=q9.filled kz
    replace h9:=kb _ _ _ h9 (by first | assumption | exact Ne.symm (by assumption) | omega)
    replace q11:=q11.filled kz
    replace q12:=q12.filled kz
    replace hB:=kB _ _ (by omega) hB
    replace hR:=hR'
    clear hR' kz kb kB eu xf x0 x1 x2
    refine hK.out _ _ zG (fun hHeld=>?_)
    clear hK K
    try simp only[lay]
    try dsimp only
    try simp only[Act.put,lay]
    refine wpAnyH_done (by kernel_rfl) ?_ _
    refine NoPanic.normal ?_
    clear zG
    obtain⟨c36,c37,c38⟩:=hR.q3
    obtain⟨c39,c40,c41⟩:=h9.q3
    go_wp2_with fail
    exact bodyPost_ret (v:= .agg #[.bool s12,.slice A12 L12 C12,.slice D12 M12 E12]) (by simp[results,Tryz.results91,go_sem,c36,c37,c38]) rfl ⟨_,rfl,by rw[HRP.out,HRS.out];exact q12,hB⟩
theorem raright_f0 (lr b1 b2 eps wd f:Int) (apart:Bool) (w:World) (h:f<0):
 Calls Tryz.prog 41 #[.agg #[.int .i64 lr,.int .i64 b1,.int .i64 b2,.int .i64 eps,.int .i64 wd,.bool apart],.int .i64 f] w fun e w'=>e= .returned (.bool false)∧Below w.heap.size w w':=by
 have d0:decide (f<0)=true:=decide_eq_true h
 obtain⟨g,Y0,hA,hB,hgw,EY⟩:=boxes1 w 61 #[.int .i64 lr,.int .i64 b1,.int .i64 b2,.int .i64 eps,.int .i64 wd,.bool apart]
 obtain⟨c0,c1,c2,c3,c4,c5⟩:=hA.q6
 go_enter Tryz.func41,Tryz.ntmps41
 go_wp2_with fail
 rw[←EY.out.2,←EY.out.1]
 go_wp2
 go_ret
 exact⟨rfl,by first | exact hB | (rw[EY.out.1];exact hB)⟩
theorem raright_f1 (lr b1 b2 eps wd f:Int) (apart:Bool) (w:World) (h0:¬f<0) (h:40<f):
 Calls Tryz.prog 41 #[.agg #[.int .i64 lr,.int .i64 b1,.int .i64 b2,.int .i64 eps,.int .i64 wd,.bool apart],.int .i64 f] w fun e w'=>e= .returned (.bool false)∧Below w.heap.size w w':=by
 have d0:decide (f<0)=false:=decide_eq_false h0
 have d1:decide (40<f)=true:=decide_eq_true h
 obtain⟨g,Y0,hA,hB,hgw,EY⟩:=boxes1 w 61 #[.int .i64 lr,.int .i64 b1,.int .i64 b2,.int .i64 eps,.int .i64 wd,.bool apart]
 obtain⟨c0,c1,c2,c3,c4,c5⟩:=hA.q6
 go_enter Tryz.func41,Tryz.ntmps41
 go_wp2_with fail
 rw[←EY.out.2,←EY.out.1]
 go_wp2
 go_ret
 exact⟨rfl,by first | exact hB | (rw[EY.out.1];exact hB)⟩
theorem raright_c0 (lr b1 b2 eps wd f:Int) (apart:Bool) (w:World) (f0:0≤f) (f1:f≤40) (hx:¬(0≤lr)):
 Calls Tryz.prog 41 #[.agg #[.int .i64 lr,.int .i64 b1,.int .i64 b2,.int .i64 eps,.int .i64 wd,.bool apart],.int .i64 f] w fun e w'=>e= .returned (.bool false)∧Below w.heap.size w w':=by
 obtain⟨k,rfl⟩:∃k:Nat,f=(k:Int):=⟨f.toNat,by omega⟩
 have hk:k≤40:=by omega
 try simp only[Int.toNat_natCast] at *
 have d0:decide ((k:Int)<0)=false:=decide_eq_false (by omega)
 have d1:decide (40<(k:Int))=false:=decide_eq_false (by omega)
 have hO:=fun w=>one17_any k hk w
 have e0:decide (lr<0)=true:=decide_eq_true (by omega)
 generalize 2^k=P at *
 clear hx
 obtain⟨g,Y0,hA,hB,hgw,EY⟩:=boxes1 w 61 #[.int .i64 lr,.int .i64 b1,.int .i64 b2,.int .i64 eps,.int .i64 wd,.bool apart]
 obtain⟨c0,c1,c2,c3,c4,c5⟩:=hA.q6
 go_enter Tryz.func41,Tryz.ntmps41
 go_wp2_with fail
 rw[←EY.out.2,←EY.out.1]
 go_wp2
 go_ret
 exact⟨rfl,by first | exact hB | (rw[EY.out.1];exact hB)⟩
theorem raright_c1 (lr b1 b2 eps wd f:Int) (apart:Bool) (w:World) (f0:0≤f) (f1:f≤40) (h0:0≤lr) (hx:¬(0<eps)):
 Calls Tryz.prog 41 #[.agg #[.int .i64 lr,.int .i64 b1,.int .i64 b2,.int .i64 eps,.int .i64 wd,.bool apart],.int .i64 f] w fun e w'=>e= .returned (.bool false)∧Below w.heap.size w w':=by
 obtain⟨k,rfl⟩:∃k:Nat,f=(k:Int):=⟨f.toNat,by omega⟩
 have hk:k≤40:=by omega
 try simp only[Int.toNat_natCast] at *
 have d0:decide ((k:Int)<0)=false:=decide_eq_false (by omega)
 have d1:decide (40<(k:Int))=false:=decide_eq_false (by omega)
 have hO:=fun w=>one17_any k hk w
 have e0:decide (lr<0)=false:=decide_eq_false (by omega)
 have e1:decide (eps<1)=true:=decide_eq_true (by omega)
 generalize 2^k=P at *
 clear h0 hx
 obtain⟨g,Y0,hA,hB,hgw,EY⟩:=boxes1 w 61 #[.int .i64 lr,.int .i64 b1,.int .i64 b2,.int .i64 eps,.int .i64 wd,.bool apart]
 obtain⟨c0,c1,c2,c3,c4,c5⟩:=hA.q6
 go_enter Tryz.func41,Tryz.ntmps41
 go_wp2_with fail
 rw[←EY.out.2,←EY.out.1]
 go_wp2
 go_ret
 exact⟨rfl,by first | exact hB | (rw[EY.out.1];exact hB)⟩
theorem raright_c2 (lr b1 b2 eps wd f:Int) (apart:Bool) (w:World) (f0:0≤f) (f1:f≤40) (h0:0≤lr) (h1:0<eps) (hx:¬(0≤b1)):
 Calls Tryz.prog 41 #[.agg #[.int .i64 lr,.int .i64 b1,.int .i64 b2,.int .i64 eps,.int .i64 wd,.bool apart],.int .i64 f] w fun e w'=>e= .returned (.bool false)∧Below w.heap.size w w':=by
 obtain⟨k,rfl⟩:∃k:Nat,f=(k:Int):=⟨f.toNat,by omega⟩
 have hk:k≤40:=by omega
 try simp only[Int.toNat_natCast] at *
 have d0:decide ((k:Int)<0)=false:=decide_eq_false (by omega)
 have d1:decide (40<(k:Int))=false:=decide_eq_false (by omega)
 have hO:=fun w=>one17_any k hk w
 have e0:decide (lr<0)=false:=decide_eq_false (by omega)
 have e1:decide (eps<1)=false:=decide_eq_false (by omega)
 have e2:decide (0≤b1)=false:=decide_eq_false hx
 generalize 2^k=P at *
 clear h0 h1 hx
 obtain⟨g,Y0,hA,hB,hgw,EY⟩:=boxes1 w 61 #[.int .i64 lr,.int .i64 b1,.int .i64 b2,.int .i64 eps,.int .i64 wd,.bool apart]
 obtain⟨c0,c1,c2,c3,c4,c5⟩:=hA.q6
 go_enter Tryz.func41,Tryz.ntmps41
 go_wp2_with fail
 rw[←EY.out.2,←EY.out.1]
 go_wp2_with fail
 refine (hO _).mono ?_
 rintro e w2 ⟨rfl,rfl⟩
 go_wp2
 go_ret
 exact⟨rfl,by first | exact hB | (rw[EY.out.1];exact hB)⟩
theorem raright_c3 (lr b1 b2 eps wd f:Int) (apart:Bool) (w:World) (f0:0≤f) (f1:f≤40) (h0:0≤lr) (h1:0<eps) (h2:0≤b1) (hx:¬(b1<((2^f.toNat:Nat):Int))):
 Calls Tryz.prog 41 #[.agg #[.int .i64 lr,.int .i64 b1,.int .i64 b2,.int .i64 eps,.int .i64 wd,.bool apart],.int .i64 f] w fun e w'=>e= .returned (.bool false)∧Below w.heap.size w w':=by
 obtain⟨k,rfl⟩:∃k:Nat,f=(k:Int):=⟨f.toNat,by omega⟩
 have hk:k≤40:=by omega
 try simp only[Int.toNat_natCast] at *
 have d0:decide ((k:Int)<0)=false:=decide_eq_false (by omega)
 have d1:decide (40<(k:Int))=false:=decide_eq_false (by omega)
 have hO:=fun w=>one17_any k hk w
 have e0:decide (lr<0)=false:=decide_eq_false (by omega)
 have e1:decide (eps<1)=false:=decide_eq_false (by omega)
 have e2:decide (0≤b1)=true:=decide_eq_true h2
 have e3:decide (b1<((2^k:Nat):Int))=false:=decide_eq_false hx
 generalize 2^k=P at *
 clear h0 h1 h2 hx
 obtain⟨g,Y0,hA,hB,hgw,EY⟩:=boxes1 w 61 #[.int .i64 lr,.int .i64 b1,.int .i64 b2,.int .i64 eps,.int .i64 wd,.bool apart]
 obtain⟨c0,c1,c2,c3,c4,c5⟩:=hA.q6
 go_enter Tryz.func41,Tryz.ntmps41
 go_wp2_with fail
 rw[←EY.out.2,←EY.out.1]
 go_wp2_with fail
 refine (hO _).mono ?_
 rintro e w2 ⟨rfl,rfl⟩
 go_wp2
 go_ret
 exact⟨rfl,by first | exact hB | (rw[EY.out.1];exact hB)⟩
theorem raright_c4 (lr b1 b2 eps wd f:Int) (apart:Bool) (w:World) (f0:0≤f) (f1:f≤40) (h0:0≤lr) (h1:0<eps) (h2:0≤b1) (h3:b1<((2^f.toNat:Nat):Int)) (hx:¬(0≤b2)):
 Calls Tryz.prog 41 #[.agg #[.int .i64 lr,.int .i64 b1,.int .i64 b2,.int .i64 eps,.int .i64 wd,.bool apart],.int .i64 f] w fun e w'=>e= .returned (.bool false)∧Below w.heap.size w w':=by
 obtain⟨k,rfl⟩:∃k:Nat,f=(k:Int):=⟨f.toNat,by omega⟩
 have hk:k≤40:=by omega
 try simp only[Int.toNat_natCast] at *
 have d0:decide ((k:Int)<0)=false:=decide_eq_false (by omega)
 have d1:decide (40<(k:Int))=false:=decide_eq_false (by omega)
 have hO:=fun w=>one17_any k hk w
 have e0:decide (lr<0)=false:=decide_eq_false (by omega)
 have e1:decide (eps<1)=false:=decide_eq_false (by omega)
 have e2:decide (0≤b1)=true:=decide_eq_true h2
 have e3:decide (b1<((2^k:Nat):Int))=true:=decide_eq_true h3
 have e4:decide (0≤b2)=false:=decide_eq_false hx
 generalize 2^k=P at *
 clear h0 h1 h2 h3 hx
 obtain⟨g,Y0,hA,hB,hgw,EY⟩:=boxes1 w 61 #[.int .i64 lr,.int .i64 b1,.int .i64 b2,.int .i64 eps,.int .i64 wd,.bool apart]
 obtain⟨c0,c1,c2,c3,c4,c5⟩:=hA.q6
 go_enter Tryz.func41,Tryz.ntmps41
 go_wp2_with fail
 rw[←EY.out.2,←EY.out.1]
 go_wp2_with fail
 refine (hO _).mono ?_
 rintro e w2 ⟨rfl,rfl⟩
 go_wp2
 go_ret
 exact⟨rfl,by first | exact hB | (rw[EY.out.1];exact hB)⟩
theorem raright_c5 (lr b1 b2 eps wd f:Int) (apart:Bool) (w:World) (f0:0≤f) (f1:f≤40) (h0:0≤lr) (h1:0<eps) (h2:0≤b1) (h3:b1<((2^f.toNat:Nat):Int)) (h4:0≤b2) (hx:¬(b2<((2^f.toNat:Nat):Int))):
 Calls Tryz.prog 41 #[.agg #[.int .i64 lr,.int .i64 b1,.int .i64 b2,.int .i64 eps,.int .i64 wd,.bool apart],.int .i64 f] w fun e w'=>e= .returned (.bool false)∧Below w.heap.size w w':=by
 obtain⟨k,rfl⟩:∃k:Nat,f=(k:Int):=⟨f.toNat,by omega⟩
 have hk:k≤40:=by omega
 try simp only[Int.toNat_natCast] at *
 have d0:decide ((k:Int)<0)=false:=decide_eq_false (by omega)
 have d1:decide (40<(k:Int))=false:=decide_eq_false (by omega)
 have hO:=fun w=>one17_any k hk w
 have e0:decide (lr<0)=false:=decide_eq_false (by omega)
 have e1:decide (eps<1)=false:=decide_eq_false (by omega)
 have e2:decide (0≤b1)=true:=decide_eq_true h2
 have e3:decide (b1<((2^k:Nat):Int))=true:=decide_eq_true h3
 have e4:decide (0≤b2)=true:=decide_eq_true h4
 have e5:decide (b2<((2^k:Nat):Int))=false:=decide_eq_false hx
 generalize 2^k=P at *
 clear h0 h1 h2 h3 h4 hx
 obtain⟨g,Y0,hA,hB,hgw,EY⟩:=boxes1 w 61 #[.int .i64 lr,.int .i64 b1,.int .i64 b2,.int .i64 eps,.int .i64 wd,.bool apart]
 obtain⟨c0,c1,c2,c3,c4,c5⟩:=hA.q6
 go_enter Tryz.func41,Tryz.ntmps41
 go_wp2_with fail
 rw[←EY.out.2,←EY.out.1]
 go_wp2_with fail
 refine (hO _).mono ?_
 rintro e w2 ⟨rfl,rfl⟩
 go_wp2
 go_ret
 exact⟨rfl,by first | exact hB | (rw[EY.out.1];exact hB)⟩
theorem raright_c6 (lr b1 b2 eps wd f:Int) (apart:Bool) (w:World) (f0:0≤f) (f1:f≤40) (h0:0≤lr) (h1:0<eps) (h2:0≤b1) (h3:b1<((2^f.toNat:Nat):Int)) (h4:0≤b2) (h5:b2<((2^f.toNat:Nat):Int)) (hx:¬(0≤wd)):
 Calls Tryz.prog 41 #[.agg #[.int .i64 lr,.int .i64 b1,.int .i64 b2,.int .i64 eps,.int .i64 wd,.bool apart],.int .i64 f] w fun e w'=>e= .returned (.bool false)∧Below w.heap.size w w':=by
 obtain⟨k,rfl⟩:∃k:Nat,f=(k:Int):=⟨f.toNat,by omega⟩
 have hk:k≤40:=by omega
 try simp only[Int.toNat_natCast] at *
 have d0:decide ((k:Int)<0)=false:=decide_eq_false (by omega)
 have d1:decide (40<(k:Int))=false:=decide_eq_false (by omega)
 have hO:=fun w=>one17_any k hk w
 have e0:decide (lr<0)=false:=decide_eq_false (by omega)
 have e1:decide (eps<1)=false:=decide_eq_false (by omega)
 have e2:decide (0≤b1)=true:=decide_eq_true h2
 have e3:decide (b1<((2^k:Nat):Int))=true:=decide_eq_true h3
 have e4:decide (0≤b2)=true:=decide_eq_true h4
 have e5:decide (b2<((2^k:Nat):Int))=true:=decide_eq_true h5
 have e6:decide (0≤wd)=false:=decide_eq_false hx
 generalize 2^k=P at *
 clear h0 h1 h2 h3 h4 h5 hx
 obtain⟨g,Y0,hA,hB,hgw,EY⟩:=boxes1 w 61 #[.int .i64 lr,.int .i64 b1,.int .i64 b2,.int .i64 eps,.int .i64 wd,.bool apart]
 obtain⟨c0,c1,c2,c3,c4,c5⟩:=hA.q6
 go_enter Tryz.func41,Tryz.ntmps41
 go_wp2_with fail
 rw[←EY.out.2,←EY.out.1]
 go_wp2_with fail
 refine (hO _).mono ?_
 rintro e w2 ⟨rfl,rfl⟩
 go_wp2
 go_ret
 exact⟨rfl,by first | exact hB | (rw[EY.out.1];exact hB)⟩
theorem raright_c7 (lr b1 b2 eps wd f:Int) (apart:Bool) (w:World) (f0:0≤f) (f1:f≤40) (h0:0≤lr) (h1:0<eps) (h2:0≤b1) (h3:b1<((2^f.toNat:Nat):Int)) (h4:0≤b2) (h5:b2<((2^f.toNat:Nat):Int)) (h6:0≤wd) (hx:¬(wd≤((2^f.toNat:Nat):Int))):
 Calls Tryz.prog 41 #[.agg #[.int .i64 lr,.int .i64 b1,.int .i64 b2,.int .i64 eps,.int .i64 wd,.bool apart],.int .i64 f] w fun e w'=>e= .returned (.bool false)∧Below w.heap.size w w':=by
 obtain⟨k,rfl⟩:∃k:Nat,f=(k:Int):=⟨f.toNat,by omega⟩
 have hk:k≤40:=by omega
 try simp only[Int.toNat_natCast] at *
 have d0:decide ((k:Int)<0)=false:=decide_eq_false (by omega)
 have d1:decide (40<(k:Int))=false:=decide_eq_false (by omega)
 have hO:=fun w=>one17_any k hk w
 have e0:decide (lr<0)=false:=decide_eq_false (by omega)
 have e1:decide (eps<1)=false:=decide_eq_false (by omega)
 have e2:decide (0≤b1)=true:=decide_eq_true h2
 have e3:decide (b1<((2^k:Nat):Int))=true:=decide_eq_true h3
 have e4:decide (0≤b2)=true:=decide_eq_true h4
 have e5:decide (b2<((2^k:Nat):Int))=true:=decide_eq_true h5
 have e6:decide (0≤wd)=true:=decide_eq_true h6
 have e7:decide (wd≤((2^k:Nat):Int))=false:=decide_eq_false hx
 generalize 2^k=P at *
 clear h0 h1 h2 h3 h4 h5 h6 hx
 obtain⟨g,Y0,hA,hB,hgw,EY⟩:=boxes1 w 61 #[.int .i64 lr,.int .i64 b1,.int .i64 b2,.int .i64 eps,.int .i64 wd,.bool apart]
 obtain⟨c0,c1,c2,c3,c4,c5⟩:=hA.q6
 go_enter Tryz.func41,Tryz.ntmps41
 go_wp2_with fail
 rw[←EY.out.2,←EY.out.1]
 go_wp2_with fail
 refine (hO _).mono ?_
 rintro e w2 ⟨rfl,rfl⟩
 go_wp2
 go_ret
 exact⟨rfl,by first | exact hB | (rw[EY.out.1];exact hB)⟩
theorem raright_c8 (lr b1 b2 eps wd f:Int) (apart:Bool) (w:World) (f0:0≤f) (f1:f≤40) (h0:0≤lr) (h1:0<eps) (h2:0≤b1) (h3:b1<((2^f.toNat:Nat):Int)) (h4:0≤b2) (h5:b2<((2^f.toNat:Nat):Int)) (h6:0≤wd) (h7:wd≤((2^f.toNat:Nat):Int)):
 Calls Tryz.prog 41 #[.agg #[.int .i64 lr,.int .i64 b1,.int .i64 b2,.int .i64 eps,.int .i64 wd,.bool apart],.int .i64 f] w fun e w'=>e= .returned (.bool true)∧Below w.heap.size w w':=by
 obtain⟨k,rfl⟩:∃k:Nat,f=(k:Int):=⟨f.toNat,by omega⟩
 have hk:k≤40:=by omega
 try simp only[Int.toNat_natCast] at *
 have d0:decide ((k:Int)<0)=false:=decide_eq_false (by omega)
 have d1:decide (40<(k:Int))=false:=decide_eq_false (by omega)
 have hO:=fun w=>one17_any k hk w
 have e0:decide (lr<0)=false:=decide_eq_false (by omega)
 have e1:decide (eps<1)=false:=decide_eq_false (by omega)
 have e2:decide (0≤b1)=true:=decide_eq_true h2
 have e3:decide (b1<((2^k:Nat):Int))=true:=decide_eq_true h3
 have e4:decide (0≤b2)=true:=decide_eq_true h4
 have e5:decide (b2<((2^k:Nat):Int))=true:=decide_eq_true h5
 have e6:decide (0≤wd)=true:=decide_eq_true h6
 have e7:decide (wd≤((2^k:Nat):Int))=true:=decide_eq_true h7
 generalize 2^k=P at *
 clear h0 h1 h2 h3 h4 h5 h6 h7
 obtain⟨g,Y0,hA,hB,hgw,EY⟩:=boxes1 w 61 #[.int .i64 lr,.int .i64 b1,.int .i64 b2,.int .i64 eps,.int .i64 wd,.bool apart]
 obtain⟨c0,c1,c2,c3,c4,c5⟩:=hA.q6
 go_enter Tryz.func41,Tryz.ntmps41
 go_wp2_with fail
 rw[←EY.out.2,←EY.out.1]
 go_wp2_with fail
 refine (hO _).mono ?_
 rintro e w2 ⟨rfl,rfl⟩
 go_wp2
 go_ret
 exact⟨rfl,by first | exact hB | (rw[EY.out.1];exact hB)⟩
theorem raright_any (lr b1 b2 eps wd f:Int) (apart:Bool) (w:World):
 Calls Tryz.prog 41 #[.agg #[.int .i64 lr,.int .i64 b1,.int .i64 b2,.int .i64 eps,.int .i64 wd,.bool apart],.int .i64 f] w fun e w'=>e= .returned (.bool (rightA lr b1 b2 eps wd f))∧Below w.heap.size w w':=by
 have no:¬(0≤f∧f≤40∧0≤lr∧0<eps∧(0≤b1∧b1<((2^f.toNat:Nat):Int))∧(0≤b2∧b2<((2^f.toNat:Nat):Int))∧0≤wd∧wd≤((2^f.toNat:Nat):Int))→rightA lr b1 b2 eps wd f=false:=fun h=>decide_eq_false h
 by_cases f0:f<0
 ·rw[no (by omega)];exact raright_f0 lr b1 b2 eps wd f apart w f0
 by_cases f1:40<f
 ·rw[no (by omega)];exact raright_f1 lr b1 b2 eps wd f apart w f0 f1
 by_cases h0:0≤lr;rotate_left
 ·rw[no (fun h=>h0 (h.2.2.1))];exact raright_c0 lr b1 b2 eps wd f apart w (by omega) (by omega) h0
 by_cases h1:0<eps;rotate_left
 ·rw[no (fun h=>h1 (h.2.2.2.1))];exact raright_c1 lr b1 b2 eps wd f apart w (by omega) (by omega) h0 h1
 by_cases h2:0≤b1;rotate_left
 ·rw[no (fun h=>h2 (h.2.2.2.2.1.1))];exact raright_c2 lr b1 b2 eps wd f apart w (by omega) (by omega) h0 h1 h2
 by_cases h3:b1<((2^f.toNat:Nat):Int);rotate_left
 ·rw[no (fun h=>h3 (h.2.2.2.2.1.2))];exact raright_c3 lr b1 b2 eps wd f apart w (by omega) (by omega) h0 h1 h2 h3
 by_cases h4:0≤b2;rotate_left
 ·rw[no (fun h=>h4 (h.2.2.2.2.2.1.1))];exact raright_c4 lr b1 b2 eps wd f apart w (by omega) (by omega) h0 h1 h2 h3 h4
 by_cases h5:b2<((2^f.toNat:Nat):Int);rotate_left
 ·rw[no (fun h=>h5 (h.2.2.2.2.2.1.2))];exact raright_c5 lr b1 b2 eps wd f apart w (by omega) (by omega) h0 h1 h2 h3 h4 h5
 by_cases h6:0≤wd;rotate_left
 ·rw[no (fun h=>h6 (h.2.2.2.2.2.2.1))];exact raright_c6 lr b1 b2 eps wd f apart w (by omega) (by omega) h0 h1 h2 h3 h4 h5 h6
 by_cases h7:wd≤((2^f.toNat:Nat):Int);rotate_left
 ·rw[no (fun h=>h7 (h.2.2.2.2.2.2.2))];exact raright_c7 lr b1 b2 eps wd f apart w (by omega) (by omega) h0 h1 h2 h3 h4 h5 h6 h7
 rw[show rightA lr b1 b2 eps wd f=true from decide_eq_true ⟨by omega,by omega,h0,h1,⟨h2,h3⟩,⟨h4,h5⟩,h6,h7⟩]
 exact raright_c8 lr b1 b2 eps wd f apart w (by omega) (by omega) h0 h1 h2 h3 h4 h5 h6 h7
theorem rupd_any (lr b1 b2 eps wd:Int) (apart:Bool) (k t:Nat) (v1 v2:Value) (ra rb rc rd:Rat) (w:World) (hr:rightA lr b1 b2 eps wd (k:Int)=true) (i1:In64 lr) (i2:In64 b1) (i3:In64 b2) (i4:In64 eps) (ht1:1≤t) (ht2:t≤30) (h1:IsS w v1 ra rb) (h2:IsS w v2 rc rd) (b0:BQ ra 10) (b0':BQ rb 10) (b2':BQ rc 10) (b3:BQ rd 10) (n1:¬rd.num<0)
 (A1 D1 A2 D2 A3 D3 A4 D4:Option Addr) (L1 C1 M1 E1 L2 C2 M2 E2 L3 C3 M3 E3 L4 C4 M4 E4:Nat) (s1 s2 s3 s4:Bool) (e1:v1= .agg #[.bool s1,.slice A1 L1 C1,.slice D1 M1 E1,.bool s2,.slice A2 L2 C2,.slice D2 M2 E2]) (e2:v2= .agg #[.bool s3,.slice A3 L3 C3,.slice D3 M3 E3,.bool s4,.slice A4 L4 C4,.slice D4 M4 E4]):
 Calls Tryz.prog 33 #[.agg #[.int .i64 lr,.int .i64 b1,.int .i64 b2,.int .i64 eps,.int .i64 wd,.bool apart],.int .i64 k,.int .i64 t,.agg #[.bool s1,.slice A1 L1 C1,.slice D1 M1 E1,.bool s2,.slice A2 L2 C2,.slice D2 M2 E2,.bool s3,.slice A3 L3 C3,.slice D3 M3 E3,.bool s4,.slice A4 L4 C4,.slice D4 M4 E4]] w fun e w'=>∃v',e= .returned (.tuple #[v',.int .i64 0])∧IsS w' v' (updLo (1 - powQ (mkRat b1 (2^k)) t) (1 - powQ (mkRat b2 (2^k)) t) (mkRat eps (2^k)) (mkRat lr (2^k)) ra rb (if rc.num<0 then 0 else rc) rd) (updHi (1 - powQ (mkRat b1 (2^k)) t) (1 - powQ (mkRat b2 (2^k)) t) (mkRat eps (2^k)) (mkRat lr (2^k)) ra rb (if rc.num<0 then 0 else rc) rd)∧Below w.heap.size w w':=by
 subst e1
 subst e2
 obtain⟨s1_,p,q,s2_,x,y,e,q1,q2⟩:=h1
 cases e
 obtain⟨s3_,p,q,s4_,x,y,e,q3,q4⟩:=h2
 cases e
 have e3:=q3.parts.1
 obtain⟨z,ez⟩:∃z:Rat,z=if rc.num<0 then 0 else rc:=⟨_,rfl⟩
 have HZ:=Lib.hid (show (s3=true→z=0)∧(s3=false→z=rc) from ⟨fun h=>by rw[ez,if_pos (of_decide_eq_true (e3.symm.trans h))],fun h=>by rw[ez,if_neg (of_decide_eq_false (e3.symm.trans h))]⟩)
 obtain rfl:s4=false:=by rw[q4.parts.1];exact decide_eq_false n1
 have hr0:=hr
 unfold rightA at hr
 have hr':=of_decide_eq_true hr
 obtain⟨_,hk40,hlr,heps,⟨hb10,hb11⟩,⟨hb20,hb21⟩,_⟩:=hr'
 rw[Int.toNat_natCast] at hb11 hb21
 have hk:k≤40:=by omega
 have hRi:=fun w=>raright_any lr b1 b2 eps wd (k:Int) apart w
 rw[hr0] at hRi
 have t1:decide ((t:Int)<1)=false:=decide_eq_false (by omega)
 have t2:decide (30<(t:Int))=false:=decide_eq_false (by omega)
 have hE:=fun w=>rnum_any eps k w hk i4
 have hL:=fun w=>rnum_any lr k w hk i1
 have hK1:=fun w=>rlack_any b1 k t w hk i2 (by omega)
 have hK2:=fun w=>rlack_any b2 k t w hk i3 (by omega)
 have lp1:=lack_pos hb10 hb11 ht1
 have lp2:=lack_pos hb20 hb21 ht1
 have sone:BQ (1:Rat) 1:=BQ.int (n:=1) (by unfold W64;omega)
 have sm:=fun (b:Int) (hb:In64 b)=>(BQ.mk (Sz.u64 (by have:=hb.1;have:=hb.2;unfold W64;omega)) ((Sz.two_pow k).more (by omega)) (by omega):BQ (mkRat b (2^k)) 1)
 have sl:=fun (b:Int) (hb:In64 b)=>(show BQ (1 - powQ (mkRat b (2^k)) t) 130 by rw[Rat.sub_eq_add_neg];exact (sone.add (sz_powQ (sm b hb) t).neg).more (by omega))
 have sl1:=sl b1 i2
 have sl2:=sl b2 i3
 have se:=sm eps i4
 have sr:=sm lr i1
 have pe:0<mkRat eps (2^k):=by
  rw[Rat.mkRat_eq_div,Rat.div_def]
  exact Rat.mul_pos (by have : ((0 : Int) : Rat) < (eps : Rat) := by rw [Rat.intCast_lt_intCast]; exact heps
                        exact this) (Rat.inv_pos.2 (by have:=powQ_pos k;simpa using this))
 have hO:=fun w=>rqof_any 0 (by omega) (by omega) w
 rw[show ((0:Int):Rat)=0 from rfl] at hO
 have bz0:BQ (0:Rat) 10:=(BQ.int (n:=0) (by unfold W64;omega)).more (by omega)
 have bz:BQ z 10:=by rw[ez];split<;>assumption
 have z0n:0≤z:=by
  rw[ez];split
  ·exact Rat.le_refl
  ·rw[←Rat.num_nonneg];omega
 rw[←ez]
 clear bz0 ez e3
 obtain⟨l1,el1⟩:∃l,l=(1 - powQ (mkRat b1 (2^k)) t):=⟨_,rfl⟩
 obtain⟨l2,el2⟩:∃l,l=(1 - powQ (mkRat b2 (2^k)) t):=⟨_,rfl⟩
 rw[←el1] at hK1 lp1 sl1 ⊢
 rw[←el2] at hK2 lp2 sl2 ⊢
 obtain⟨re,ere⟩:∃l,l=mkRat eps (2^k):=⟨_,rfl⟩
 obtain⟨rl,erl⟩:∃l,l=mkRat lr (2^k):=⟨_,rfl⟩
 rw[←ere] at hE se pe ⊢
 rw[←erl] at hL sr ⊢
 have hDv1:=fun u v w h h'=>rivdiv_any u v ra rb l1 l1 w h h' (b0.more (by omega)) (b0'.more (by omega)) (sl1.more (by omega)) (sl1.more (by omega)) (pos_has lp1) (pos_num lp1) (pos_num lp1)
 obtain⟨sx1,sx2⟩:=sz_div b0 b0' sl1 sl1
 have hDv2:=fun u v w h h'=>rivdiv_any u v z rd l2 l2 w h h' (bz.more (by omega)) (b3.more (by omega)) (sl2.more (by omega)) (sl2.more (by omega)) (pos_has lp2) (pos_num lp2) (pos_num lp2)
 obtain⟨sy1,sy2⟩:=sz_div bz b3 sl2 sl2
 have p1':0≤rd:=by rw[←Rat.num_nonneg];omega
 have p0':0≤z:=z0n
 have yn:0≤divLo z rd l2 l2:=(four_all (P:=fun q=>0≤q) (div_nonneg p0' lp2) (div_nonneg p0' lp2) (div_nonneg p1' lp2) (div_nonneg p1' lp2)).1
 have yn':¬(divLo z rd l2 l2).num<0:=by rw[num_neg_iff,Rat.not_lt];exact yn
 have yh0:0≤divHi z rd l2 l2:=(four_all (P:=fun q=>0≤q) (div_nonneg p0' lp2) (div_nonneg p0' lp2) (div_nonneg p1' lp2) (div_nonneg p1' lp2)).2
 have hSq:=fun v w h=>rsqrt_any v (divLo z rd l2 l2) (divHi z rd l2 l2) w h (sy1.more (by omega)) (sy2.more (by omega)) yn' yh0
 have sg1:=sz_sqLo sy1
 have sg2:=sz_sqHi sy2
 have dp1:0<sqLo (divLo z rd l2 l2)+re:=add_posQ (sqLo_nonneg _) pe
 have dp2:0<sqHi (divHi z rd l2 l2)+re:=add_posQ (sqHi_nonneg _) pe
 have hIv:=fun v r w h=>rivof_any v r w h
 have hAd:=fun u v w h h'=>rivadd_any u v (sqLo (divLo z rd l2 l2)) (sqHi (divHi z rd l2 l2)) re re w h h' (sg1.more (by omega)) (sg2.more (by omega)) (se.more (by omega)) (se.more (by omega))
 have sd1:=(sg1.add se).more (m:=400) (by omega)
 have sd2:=(sg2.add se).more (m:=400) (by omega)
 have hDv3:=fun u v w h h'=>rivdiv_any u v (divLo ra rb l1 l1) (divHi ra rb l1 l1) (sqLo (divLo z rd l2 l2)+re) (sqHi (divHi z rd l2 l2)+re) w h h' (sx1.more (by omega)) (sx2.more (by omega)) (sd1.more (by omega)) (sd2.more (by omega)) (pos_has dp1) (pos_num dp1) (pos_num dp2)
 obtain⟨su1,su2⟩:=sz_div sx1 sx2 sd1 sd2
 have hMu:=fun u v w h h'=>rivmul_any u v rl rl (divLo (divLo ra rb l1 l1) (divHi ra rb l1 l1) (sqLo (divLo z rd l2 l2)+re) (sqHi (divHi z rd l2 l2)+re)) (divHi (divLo ra rb l1 l1) (divHi ra rb l1 l1) (sqLo (divLo z rd l2 l2)+re) (sqHi (divHi z rd l2 l2)+re)) w h h' (sr.more (by omega)) (sr.more (by omega)) (su1.more (by omega)) (su2.more (by omega))
 obtain⟨sp1,sp2⟩:=sz_mul sr sr su1 su2
 have hOu:=fun v w h=>rout_any v _ _ w h (sp1.more (by omega)) (sp2.more (by omega))
 unfold updLo updHi
 rw[rdiv_lo lp1 lp1,rdiv_hi lp1 lp1] at hDv1
 rw[rdiv_lo dp1 dp2,rdiv_hi dp1 dp2] at hDv3
 rw[rdiv_lo lp2 lp2,rdiv_hi lp2 lp2] at hDv2
 generalize divLo ra rb l1 l1=xl at *
 generalize divHi ra rb l1 l1=xh at *
 generalize divLo z rd l2 l2=yl at *
 generalize divHi z rd l2 l2=yh at *
 generalize sqLo yl=gl at *
 generalize sqHi yh=gh at *
 generalize gl+re=dl at *
 generalize gh+re=dh at *
 generalize divLo xl xh dl dh=ul at *
 generalize divHi xl xh dl dh=uh at *
 rw[show mnTo [rl*ul,rl*uh,rl*ul,rl*uh] 3=mulLo rl rl ul uh from rfl,show mxTo [rl*ul,rl*uh,rl*ul,rl*uh] 3=mulHi rl rl ul uh from rfl] at hMu
 generalize mulLo rl rl ul uh=pl at *
 generalize mulHi rl rl ul uh=ph at *
 generalize mkRat (flr pl 60) (2^60)=ol at *
 generalize mkRat (cel ph 60) (2^60)=oh at *
 clear hr hr0 el1 el2 ere erl lp1 lp2 sone sm sl sl1 sl2 se sr pe sx1 sx2 sy1 sy2 p1' p0' yn yn' yh0 sg1 sg2 dp1 dp2 sd1 sd2 su1 su2 sp1 sp2 i1 i2 i3 i4 b0 b0' b2' b3 bz z0n n1 hb10 hb11 hb20 hb21 hlr heps
 obtain⟨g,Y2,hA,h7,hR,hB,hgw,EY⟩:=boxes3 w 61 #[.int .i64 lr,.int .i64 b1,.int .i64 b2,.int .i64 eps,.int .i64 wd,.bool apart] 67 #[.bool s1,.slice A1 L1 C1,.slice D1 M1 E1,.bool s2,.slice A2 L2 C2,.slice D2 M2 E2,.bool s3,.slice A3 L3 C3,.slice D3 M3 E3,.bool false,.slice A4 L4 C4,.slice D4 M4 E4] 46 #[.bool false,.slice none 0 0,.slice none 0 0,.bool false,.slice none 0 0,.slice none 0 0]
 replace q1:=q1.b hB
 replace q2:=q2.b hB
 replace q3:=q3.b hB
 replace q4:=q4.b hB
 obtain⟨c0,c1,c2,c3,c4,c5⟩:=hA.q6
 obtain⟨c6,c7,c8,c9,c10,c11,c12,c13,c14,c15,c16,c17⟩:=h7.q12
 obtain⟨c18,c19,c20,c21,c22,c23⟩:=hR.q6
 go_enter Tryz.func33,Tryz.ntmps33
 go_wp2_with fail
 rw[←EY.out.2,←EY.out.1]
 refine (hRi _).mono ?_
 rintro e w22 ⟨rfl,b22⟩
 replace q1:=q1.b b22
 replace q2:=q2.b b22
 replace q3:=q3.b b22
 replace q4:=q4.b b22
 replace hA:=hA.b b22
 replace h7:=h7.b b22
 replace hR:=hR.b b22
 replace hB:=bOn hB b22
 clear c0 c1 c2 c3 c4 c5 c6 c7 c8 c9 c10 c11 c12 c13 c14 c15 c16 c17 c18 c19 c20 c21 c22 c23
 obtain⟨c24,c25,c26,c27,c28,c29⟩:=hA.q6
 obtain⟨c30,c31,c32,c33,c34,c35,c36,c37,c38,c39,c40,c41⟩:=h7.q12
 obtain⟨c42,c43,c44,c45,c46,c47⟩:=hR.q6
 obtain⟨X24,V24,h10,bV24,lX24,nX24,EV24⟩:=boxL hB 46 #[.bool s3,.slice A3 L3 C3,.slice D3 M3 E3,.bool false,.slice A4 L4 C4,.slice D4 M4 E4]
 have dX24_hA:=nX24 _ hA.lt
 have dX24_h7:=nX24 _ h7.lt
 have dX24_hR:=nX24 _ hR.lt
 clear nX24
 go_upto_region 4 with fail
 rw[←EV24.out.1,←EV24.out.2]
 replace q1:=q1.b bV24
 replace q2:=q2.b bV24
 replace q3:=q3.b bV24
 replace q4:=q4.b bV24
 replace hA:=hA.b bV24
 replace h7:=h7.b bV24
 replace hR:=hR.b bV24
 replace hB:=bOn hB bV24
 clear c24 c25 c26 c27 c28 c29 c30 c31 c32 c33 c34 c35 c36 c37 c38 c39 c40 c41 c42 c43 c44 c45 c46 c47
 obtain⟨c48,c49,c50,c51,c52,c53⟩:=hA.q6
 obtain⟨c54,c55,c56,c57,c58,c59,c60,c61,c62,c63,c64,c65⟩:=h7.q12
 obtain⟨c66,c67,c68,c69,c70,c71⟩:=hR.q6
 obtain⟨c72,c73,c74,c75,c76,c77⟩:=h10.q6
 go_upto_if 44 with fail
 go_cut [10] (fun s10 wx=>∃(X:Nat) (s20:Bool) (A20:Option Addr) (L20 C20:Nat) (D20:Option Addr) (M20 E20:Nat),s10= .pointer (some ⟨X,0,none⟩)∧w.heap.size≤X∧Blk wx g 61 #[.int .i64 lr,.int .i64 b1,.int .i64 b2,.int .i64 eps,.int .i64 wd,.bool apart]∧Blk wx (g+1+1) 46 #[.bool false,.slice none 0 0,.slice none 0 0,.bool false,.slice none 0 0,.slice none 0 0]∧Blk wx (g+1) 67 #[.bool s1,.slice A1 L1 C1,.slice D1 M1 E1,.bool s2,.slice A2 L2 C2,.slice D2 M2 E2,.bool s3,.slice A3 L3 C3,.slice D3 M3 E3,.bool false,.slice A4 L4 C4,.slice D4 M4 E4]∧IsQ wx (.agg #[.bool s1,.slice A1 L1 C1,.slice D1 M1 E1]) ra∧IsQ wx (.agg #[.bool s2,.slice A2 L2 C2,.slice D2 M2 E2]) rb∧IsQ wx (.agg #[.bool false,.slice A4 L4 C4,.slice D4 M4 E4]) rd∧Blk wx X 46 #[.bool s20,.slice A20 L20 C20,.slice D20 M20 E20,.bool false,.slice A4 L4 C4,.slice D4 M4 E4]∧IsQ wx (.agg #[.bool s20,.slice A20 L20 C20,.slice D20 M20 E20]) z∧Below w.heap.size w wx)
 case first=>
  cases s3
  case false=>
   have q3':IsQ V24 (.agg #[.bool false,.slice A3 L3 C3,.slice D3 M3 E3]) z:=by rw[HZ.out.2 rfl];exact q3
   go_wp2_with fail
   go_meet
   exact⟨_,_,_,_,_,_,_,_,rfl,lX24,hA,hR,h7,q1,q2,q4,h10,q3',hB⟩
  case true=>
   have HZ0:=Lib.hid (HZ.out.1 rfl)
   go_wp2_with fail
   refine (hO _).mono ?_
   rintro e w26 ⟨v20,rfl,q20,b26⟩
   replace q1:=q1.b b26
   replace q2:=q2.b b26
   replace q3:=q3.b b26
   replace q4:=q4.b b26
   replace hA:=hA.b b26
   replace h7:=h7.b b26
   replace hR:=hR.b b26
   replace h10:=h10.b b26
   replace hB:=bOn hB b26
   clear c48 c49 c50 c51 c52 c53 c54 c55 c56 c57 c58 c59 c60 c61 c62 c63 c64 c65 c66 c67 c68 c69 c70 c71 c72 c73 c74 c75 c76 c77
   obtain⟨c78,c79,c80,c81,c82,c83⟩:=hA.q6
   obtain⟨c84,c85,c86,c87,c88,c89,c90,c91,c92,c93,c94,c95⟩:=h7.q12
   obtain⟨c96,c97,c98,c99,c100,c101⟩:=hR.q6
   obtain⟨c102,c103,c104,c105,c106,c107⟩:=h10.q6
   obtain⟨s20,A20,L20,C20,D20,M20,E20,rfl,q20⟩:=q20.opn
   obtain⟨W6,eW,f1',f2',f3',f4'⟩:=fillHead h10 (.bool s20) (.slice A20 L20 C20) (.slice D20 M20 E20) (by simp[noU])
   have xf:=h10.frozen
   go_wp2_with fail
   rw[←eW]
   replace hA:=f3' _ _ _ hA (by omega)
   replace hR:=f3' _ _ _ hR (by omega)
   replace h7:=f3' _ _ _ h7 (by omega)
   replace q1:=q1.filled f2'
   replace q2:=q2.filled f2'
   replace q20:=q20.filled f2'
   replace q4:=q4.filled f2'
   replace hB:=f4' _ _ (by omega) hB
   go_meet
   exact⟨_,_,_,_,_,_,_,_,rfl,lX24,hA,hR,h7,q1,q2,q4,f1',by rw[HZ0.out];exact q20,hB⟩
 obtain⟨XX,s20,A20,L20,C20,D20,M20,E20,rfl,lXX,hA,hR,h7,q1,q2,q4,h10,q20,hB⟩:=hcut
 obtain⟨c78,c79,c80,c81,c82,c83⟩:=hA.q6
 obtain⟨c84,c85,c86,c87,c88,c89,c90,c91,c92,c93,c94,c95⟩:=h7.q12
 obtain⟨c96,c97,c98,c99,c100,c101⟩:=hR.q6
 obtain⟨c102,c103,c104,c105,c106,c107⟩:=h10.q6
 go_upto_region 6 with fail
 clear c78 c79 c80 c81 c82 c83 c84 c85 c86 c87 c88 c89 c90 c91 c92 c93 c94 c95 c96 c97 c98 c99 c100 c101 c102 c103 c104 c105 c106 c107
 replace hB:=hB.drew
 replace q1:=q1.b (bdrew _)
 replace q2:=q2.b (bdrew _)
 replace q4:=q4.b (bdrew _)
 replace hA:=hA.drew
 replace h7:=h7.drew
 replace hR:=hR.drew
 replace h10:=h10.drew
 replace q20:=q20.b (bdrew _)
 refine wp_region_noPanic ?_
 refine wp_region_held_drew (S:=fun w'=>World.grownBy wc.drew w' (some (wc.drew.heap.size))) (by kernel_rfl) (grown_of (Below.refl _ _) _) (fun hHeld=>?_)
 obtain⟨wd6_1,hwd⟩:∃q,q=wc.drew:=⟨_,rfl⟩
 rw[←hwd] at hB q1 q2 q4 hA h7 hR h10 q20 hHeld ⊢
 clear hwd
 refine tkA 0 rfl ?_
 refine tkH 1 rfl (v:=?v2) ?h2 ?r2
 case h2=>
  intro w hSw
  (try dsimp only at hSw)
  obtain⟨yh7_0,yh7_1,yh7_2,yh7_3,yh7_4,yh7_5,yh7_6,yh7_7,yh7_8,yh7_9,yh7_10,yh7_11⟩:=(Blk.grownT h7 hSw (fun e=>absurd (Option.some.inj e) (Nat.ne_of_lt h7.lt))).q12
  obtain⟨yhA_0,yhA_1,yhA_2,yhA_3,yhA_4,yhA_5⟩:=(Blk.grownT hA hSw (fun e=>absurd (Option.some.inj e) (Nat.ne_of_lt hA.lt))).q6
  go_simp
  try (with_reducible rfl)
 refine tkA 2 rfl ?_
 refine tkH 3 rfl (v:=?v4) ?h4 ?r4
 case h4=>
  intro w hSw
  (try dsimp only at hSw)
  obtain⟨yh7_0,yh7_1,yh7_2,yh7_3,yh7_4,yh7_5,yh7_6,yh7_7,yh7_8,yh7_9,yh7_10,yh7_11⟩:=(Blk.grownT h7 hSw (fun e=>absurd (Option.some.inj e) (Nat.ne_of_lt h7.lt))).q12
  obtain⟨yhA_0,yhA_1,yhA_2,yhA_3,yhA_4,yhA_5⟩:=(Blk.grownT hA hSw (fun e=>absurd (Option.some.inj e) (Nat.ne_of_lt hA.lt))).q6
  go_simp
  try (with_reducible rfl)
 refine tkA 4 rfl ?_
 refine tkA 5 rfl ?_
 try simp only[Act.put,lay]
 refine wpAnyH_facts [(6,54),(7,55),(8,56),(12,11)] [(9,47),(10,57),(11,58)] [11] (pick [(6,fun (v:Value) (w:World)=>∃u6,u6=v∧IsQ w u6 l1),(7,fun (v:Value) (w:World)=>∃u7,u7=v∧IsS w u7 l1 l1),(8,fun (v:Value) (w:World)=>∃u8,.tuple #[u8,.int .i64 0]=v∧IsS w u8 xl xh),(9,fun (v:Value) (w:World)=>∃u8,.tuple #[u8,.int .i64 0]=v∧IsS w u8 xl xh),(10,fun (v:Value) (w:World)=>∃u8,u8=v∧IsS w u8 xl xh),(11,fun (v:Value) (w:World)=>.int .i64 0=v),(12,fun (v:Value) (w:World)=>∃XPC,.pointer (some ⟨XPC,0,none⟩)=v∧wd6_1.heap.size≤XPC∧Blk w XPC 46 #[.bool false,.slice none 0 0,.slice none 0 0,.bool false,.slice none 0 0,.slice none 0 0])]) #[true,true,true,true,true,true,true,true,true,true,true,true,true,false,false] (fun _ h=>grown_of h _) (pick_pers (show PersAll _ from ⟨fun _ _ _ b ⟨u6,e,g6⟩=>⟨u6,e,g6.below b⟩,fun _ _ _ b ⟨u7,e,g7⟩=>⟨u7,e,g7.below b⟩,fun _ _ _ b ⟨u8,e,g8⟩=>⟨u8,e,g8.below b⟩,fun _ _ _ b ⟨u8,e,g8⟩=>⟨u8,e,g8.below b⟩,fun _ _ _ b ⟨u8,e,g8⟩=>⟨u8,e,g8.below b⟩,fun _ _ _ _ e=>e,fun _ _ _ b ⟨X,e,l,h⟩=>⟨X,e,l,h.below b h.lt⟩,trivial⟩)) (hord_of (by kernel_rfl)) (by kernel_rfl) (by kernel_rfl) (by kernel_rfl) (by kernel_rfl) (fun _ _ _ _ _ h=>h) ?ops1 ?pur1 ?done1 (Below.refl _ _) (Nat.le_of_ble_eq_true (by kernel_rfl))
 case ops1=>
  refine .cons rfl (fun a w zS K hK=>?_) ?_
  ·have e51:=zS.2.1 51 _ (by kernel_rfl) rfl
   have e52:=zS.2.1 52 _ (by kernel_rfl) rfl
   have e53:=zS.2.1 53 _ (by kernel_rfl) rfl
   go_simp
   refine (hK1 _).mono ?_
   rintro e w' ⟨u6,rfl,g6,b⟩
   exact hK _ _ ⟨u6,rfl,g6⟩ b
  refine .cons rfl (fun a w zS K hK=>?_) ?_
  ·obtain⟨v54,e54,u6,rfl,g6⟩:=zS.2.2 6 54 (by kernel_rfl)
   go_simp
   refine (hIv _ _ _ g6).mono ?_
   rintro e w' ⟨u7,rfl,g7,b⟩
   exact hK _ _ ⟨u7,rfl,g7⟩ b
  refine .cons rfl (fun a w zS K hK=>?_) ?_
  ·have q1:=q1.below zS.1
   have q2:=q2.below zS.1
   have e49:=zS.2.1 49 _ (by kernel_rfl) rfl
   obtain⟨v55,e55,u7,rfl,g7⟩:=zS.2.2 7 55 (by kernel_rfl)
   go_simp
   refine (hDv1 _ _ _ ⟨_,_,_,_,_,_,rfl,q1,q2⟩ g7).mono ?_
   rintro e w' ⟨u8,rfl,g8,b⟩
   exact hK _ _ ⟨u8,rfl,g8⟩ b
  refine .cons rfl (fun a w zS K hK=>?_) ?_
  ·go_simp
   exact hK _ _ ⟨_,rfl,zS.1.size,Blk.new w _ _⟩ ((Below.refl _ w).alloc (Nat.le_refl _) _)
  exact .nil
 case pur1=>
  refine .cons rfl (fun a w zS=>?_) ?_
  ·obtain⟨v56,e56,u8,rfl,g8⟩:=zS.2.2 8 56 (by kernel_rfl)
   exact⟨_,fun w'=>by go_simp<;>rfl,⟨u8,rfl,g8⟩⟩
  refine .cons rfl (fun a w zS=>?_) ?_
  ·obtain⟨v47,e47,u8,rfl,g8⟩:=zS.2.2 9 47 (by kernel_rfl)
   exact⟨_,fun w'=>by go_simp<;>rfl,⟨u8,rfl,g8⟩⟩
  refine .cons rfl (fun a w zS=>?_) ?_
  ·obtain⟨v47,e47,u8,rfl,g8⟩:=zS.2.2 9 47 (by kernel_rfl)
   exact⟨_,fun w'=>by go_simp<;>rfl,rfl⟩
  exact .nil
 case done1=>
  intro fuel a wr6_1 zf zS zdf zsz zs zd
  obtain⟨fuel,rfl⟩:∃n,fuel=n+2:=⟨fuel - 2,by have h:2≤fuel:=Nat.le_trans (Nat.le_of_ble_eq_true (by kernel_rfl)) zf;omega⟩
  clear zf
  replace q1:=q1.b zS
  replace q2:=q2.b zS
  replace q4:=q4.b zS
  have nhA:=hA.lt
  replace hA:=hA.below zS nhA
  have nh7:=h7.lt
  replace h7:=h7.below zS nh7
  have nhR:=hR.lt
  replace hR:=hR.below zS nhR
  have nh10:=h10.lt
  replace h10:=h10.below zS nh10
  replace q20:=q20.b zS
  obtain⟨v54_,e54_,u6,rfl,g6⟩:=zd 6 54 (by kernel_rfl)
  obtain⟨v55_,e55_,u7,rfl,g7⟩:=zd 7 55 (by kernel_rfl)
  obtain⟨v56_,e56_,u8_8,rfl, -⟩:=zd 8 56 (by kernel_rfl)
  obtain⟨v47_,e47_,u8_9,rfl, -⟩:=zd 9 47 (by kernel_rfl)
  obtain⟨v57_,e57_,u8,rfl,g8⟩:=zd 10 57 (by kernel_rfl)
  obtain⟨v58_,e58_,rfl⟩:=zd 11 58 (by kernel_rfl)
  obtain⟨v11_,e11_,XPC,rfl,lXPC,h11⟩:=zd 12 11 (by kernel_rfl)
  obtain rfl:=act_of [(54,u6),(55,u7),(56,.tuple #[u8_8,.int .i64 0]),(11,.pointer (some ⟨XPC,0,none⟩)),(47,.tuple #[u8_9,.int .i64 0]),(57,u8),(58,.int .i64 0)] ⟨e54_,e55_,e56_,e11_,e47_,e57_,e58_,trivial⟩ zdf zsz (fun s h=>zs s h)
  simp only[putAll,List.set_cons_zero,List.set_cons_succ]
  clear zdf zsz zs zd e54_ e55_ e56_ e11_ e47_ e57_ e58_
  have kXPC:w.heap.size≤XPC:=Nat.le_trans hB.size lXPC
  have dXPC_hA:g≠XPC:=Nat.ne_of_lt (Nat.lt_of_lt_of_le nhA lXPC)
  have dXPC_h7:g+1≠XPC:=Nat.ne_of_lt (Nat.lt_of_lt_of_le nh7 lXPC)
  have dXPC_hR:g+1+1≠XPC:=Nat.ne_of_lt (Nat.lt_of_lt_of_le nhR lXPC)
  have dXPC_h10:XX≠XPC:=Nat.ne_of_lt (Nat.lt_of_lt_of_le nh10 lXPC)
  replace hB:=bOn hB zS
  clear nhA nh7 nhR nh10
  obtain⟨s9,A9,L9,C9,D9,M9,E9,s10,A10,L10,C10,D10,M10,E10,rfl,q9,q10⟩:=g8.opn
  clear g6
  clear g7
  clear q1
  clear q2
  clear h7
  have zG:=grown_of zS (some (wd6_1.heap.size))
  refine rd1 13 rfl fun K hK=>?_
  obtain⟨ws6_13,eu,h11',kz,kb,kB⟩:=fill6 h11 (.bool s9) (.slice A9 L9 C9) (.slice D9 M9 E9) (.bool s10) (.slice A10 L10 C10) (.slice D10 M10 E10) (by simp[noU])
  obtain⟨x0,x1,x2,x3,x4,x5⟩:=h11.q6
  have xf:=h11.frozen
  replace zG:=(grown_set (grown_set (grown_set (grown_set (grown_set (grown_set zG (p:=⟨XPC,0,none⟩) (.inr (by assumption)) (.bool s9)) (p:=⟨XPC,1,none⟩) (.inr (by assumption)) (.slice A9 L9 C9)) (p:=⟨XPC,2,none⟩) (.inr (by assumption)) (.slice D9 M9 E9)) (p:=⟨XPC,3,none⟩) (.inr (by assumption)) (.bool s10)) (p:=⟨XPC,4,none⟩) (.inr (by assumption)) (.slice A10 L10 C10)) (p:=⟨XPC,5,none⟩) (.inr (by assumption)) (.slice D10 M10 E10))
  rw[←eu] at zG
  go_simp
  rw[←eu]
  replace q4:=q4.filled kz
  replace hA:=kb _ _ _ hA (by first | assumption | exact Ne.symm (by assumption) | omega)
  replace hR:=kb _ _ _ hR (by first | assumption | exact Ne.symm (by assumption) | omega)
  replace h10:=kb _ _ _ h10 (by first | assumption | exact Ne.symm (by assumption) | omega)
  replace q20:=q20.filled kz
  replace q9:=q9.filled kz
  replace q10:=q10.filled kz
  replace hB:=kB _ _ (by omega) hB
  replace h11:=h11'
  clear h11' kz kb kB eu xf x0 x1 x2 x3 x4 x5
  refine hK.out _ _ zG (fun hHeld=>?_)
  clear hK K
  refine tkH 14 rfl (v:=?v7) ?h7 ?r7 (hS:=zG)
  case h7=>intro w s;go_simp;try (with_reducible rfl)
  try simp only[Act.put,lay]
  try dsimp only
  try simp only[Act.put,lay]
  refine wpAnyH_done (by kernel_rfl) ?_ _
  refine NoPanic.normal ?_
  clear zG
  obtain⟨c108,c109,c110,c111,c112,c113⟩:=hA.q6
  obtain⟨c114,c115,c116,c117,c118,c119⟩:=hR.q6
  obtain⟨c120,c121,c122,c123,c124,c125⟩:=h10.q6
  obtain⟨c126,c127,c128,c129,c130,c131⟩:=h11.q6
  go_upto_region 7 with fail
  clear c108 c109 c110 c111 c112 c113 c114 c115 c116 c117 c118 c119 c120 c121 c122 c123 c124 c125 c126 c127 c128 c129 c130 c131
  replace hB:=hB.drew
  replace q4:=q4.b (bdrew _)
  replace hA:=hA.drew
  replace hR:=hR.drew
  replace h10:=h10.drew
  replace q20:=q20.b (bdrew _)
  replace h11:=h11.drew
  replace q9:=q9.b (bdrew _)
  replace q10:=q10.b (bdrew _)
  refine wp_region_noPanic ?_
  refine wp_region_held_drew (S:=fun w'=>World.grownBy ws6_13.drew w' (some (ws6_13.drew.heap.size))) (by kernel_rfl) (grown_of (Below.refl _ _) _) (fun hHeld=>?_)
  obtain⟨wd7_2,hwd⟩:∃q,q=ws6_13.drew:=⟨_,rfl⟩
  rw[←hwd] at hB q4 hA hR h10 q20 h11 q9 q10 hHeld ⊢
  clear hwd
  refine tkH 0 rfl (v:=?v8) ?h8 ?r8
  case h8=>
   intro w hSw
   (try dsimp only at hSw)
   obtain⟨yh10_0,yh10_1,yh10_2,yh10_3,yh10_4,yh10_5⟩:=(Blk.grownT h10 hSw (fun e=>absurd (Option.some.inj e) (Nat.ne_of_lt h10.lt))).q6
   obtain⟨yhA_0,yhA_1,yhA_2,yhA_3,yhA_4,yhA_5⟩:=(Blk.grownT hA hSw (fun e=>absurd (Option.some.inj e) (Nat.ne_of_lt hA.lt))).q6
   go_simp
   try (with_reducible rfl)
  refine tkA 1 rfl ?_
  refine tkH 2 rfl (v:=?v10) ?h10 ?r10
  case h10=>
   intro w hSw
   (try dsimp only at hSw)
   obtain⟨yh10_0,yh10_1,yh10_2,yh10_3,yh10_4,yh10_5⟩:=(Blk.grownT h10 hSw (fun e=>absurd (Option.some.inj e) (Nat.ne_of_lt h10.lt))).q6
   obtain⟨yhA_0,yhA_1,yhA_2,yhA_3,yhA_4,yhA_5⟩:=(Blk.grownT hA hSw (fun e=>absurd (Option.some.inj e) (Nat.ne_of_lt hA.lt))).q6
   go_simp
   try (with_reducible rfl)
  refine tkA 3 rfl ?_
  refine tkA 4 rfl ?_
  try simp only[Act.put,lay]
  refine wpAnyH_facts [(5,65),(6,66),(7,67),(11,13)] [(8,59),(9,68),(10,69)] [10] (pick [(5,fun (v:Value) (w:World)=>∃u6,u6=v∧IsQ w u6 l2),(6,fun (v:Value) (w:World)=>∃u7,u7=v∧IsS w u7 l2 l2),(7,fun (v:Value) (w:World)=>∃u8,.tuple #[u8,.int .i64 0]=v∧IsS w u8 yl yh),(8,fun (v:Value) (w:World)=>∃u8,.tuple #[u8,.int .i64 0]=v∧IsS w u8 yl yh),(9,fun (v:Value) (w:World)=>∃u8,u8=v∧IsS w u8 yl yh),(10,fun (v:Value) (w:World)=>.int .i64 0=v),(11,fun (v:Value) (w:World)=>∃XPD,.pointer (some ⟨XPD,0,none⟩)=v∧wd7_2.heap.size≤XPD∧Blk w XPD 46 #[.bool false,.slice none 0 0,.slice none 0 0,.bool false,.slice none 0 0,.slice none 0 0])]) #[true,true,true,true,true,true,true,true,true,true,true,true,false,false] (fun _ h=>grown_of h _) (pick_pers (show PersAll _ from ⟨fun _ _ _ b ⟨u6,e,g6⟩=>⟨u6,e,g6.below b⟩,fun _ _ _ b ⟨u7,e,g7⟩=>⟨u7,e,g7.below b⟩,fun _ _ _ b ⟨u8,e,g8⟩=>⟨u8,e,g8.below b⟩,fun _ _ _ b ⟨u8,e,g8⟩=>⟨u8,e,g8.below b⟩,fun _ _ _ b ⟨u8,e,g8⟩=>⟨u8,e,g8.below b⟩,fun _ _ _ _ e=>e,fun _ _ _ b ⟨X,e,l,h⟩=>⟨X,e,l,h.below b h.lt⟩,trivial⟩)) (hord_of (by kernel_rfl)) (by kernel_rfl) (by kernel_rfl) (by kernel_rfl) (by kernel_rfl) (fun _ _ _ _ _ h=>h) ?ops2 ?pur2 ?done2 (Below.refl _ _) (Nat.le_of_ble_eq_true (by kernel_rfl))
  case ops2=>
   refine .cons rfl (fun a w zS K hK=>?_) ?_
   ·have e62:=zS.2.1 62 _ (by kernel_rfl) rfl
    have e63:=zS.2.1 63 _ (by kernel_rfl) rfl
    have e64:=zS.2.1 64 _ (by kernel_rfl) rfl
    go_simp
    refine (hK2 _).mono ?_
    rintro e w' ⟨u6,rfl,g6,b⟩
    exact hK _ _ ⟨u6,rfl,g6⟩ b
   refine .cons rfl (fun a w zS K hK=>?_) ?_
   ·obtain⟨v65,e65,u6,rfl,g6⟩:=zS.2.2 5 65 (by kernel_rfl)
    go_simp
    refine (hIv _ _ _ g6).mono ?_
    rintro e w' ⟨u7,rfl,g7,b⟩
    exact hK _ _ ⟨u7,rfl,g7⟩ b
   refine .cons rfl (fun a w zS K hK=>?_) ?_
   ·have q4:=q4.below zS.1
    have q20:=q20.below zS.1
    have e60:=zS.2.1 60 _ (by kernel_rfl) rfl
    obtain⟨v66,e66,u7,rfl,g7⟩:=zS.2.2 6 66 (by kernel_rfl)
    go_simp
    refine (hDv2 _ _ _ ⟨_,_,_,_,_,_,rfl,q20,q4⟩ g7).mono ?_
    rintro e w' ⟨u8,rfl,g8,b⟩
    exact hK _ _ ⟨u8,rfl,g8⟩ b
   refine .cons rfl (fun a w zS K hK=>?_) ?_
   ·go_simp
    exact hK _ _ ⟨_,rfl,zS.1.size,Blk.new w _ _⟩ ((Below.refl _ w).alloc (Nat.le_refl _) _)
   exact .nil
  case pur2=>
   refine .cons rfl (fun a w zS=>?_) ?_
   ·obtain⟨v67,e67,u8,rfl,g8⟩:=zS.2.2 7 67 (by kernel_rfl)
    exact⟨_,fun w'=>by go_simp<;>rfl,⟨u8,rfl,g8⟩⟩
   refine .cons rfl (fun a w zS=>?_) ?_
   ·obtain⟨v59,e59,u8,rfl,g8⟩:=zS.2.2 8 59 (by kernel_rfl)
    exact⟨_,fun w'=>by go_simp<;>rfl,⟨u8,rfl,g8⟩⟩
   refine .cons rfl (fun a w zS=>?_) ?_
   ·obtain⟨v59,e59,u8,rfl,g8⟩:=zS.2.2 8 59 (by kernel_rfl)
    exact⟨_,fun w'=>by go_simp<;>rfl,rfl⟩
   exact .nil
  case done2=>
   intro fuel a wr7_2 zf zS zdf zsz zs zd
   obtain⟨fuel,rfl⟩:∃n,fuel=n+2:=⟨fuel - 2,by have h:2≤fuel:=Nat.le_trans (Nat.le_of_ble_eq_true (by kernel_rfl)) zf;omega⟩
   clear zf
   replace q4:=q4.b zS
   have nhA:=hA.lt
   replace hA:=hA.below zS nhA
   have nhR:=hR.lt
   replace hR:=hR.below zS nhR
   have nh10:=h10.lt
   replace h10:=h10.below zS nh10
   replace q20:=q20.b zS
   have nh11:=h11.lt
   replace h11:=h11.below zS nh11
   replace q9:=q9.b zS
   replace q10:=q10.b zS
   obtain⟨v65_,e65_,u6,rfl,g6⟩:=zd 5 65 (by kernel_rfl)
   obtain⟨v66_,e66_,u7,rfl,g7⟩:=zd 6 66 (by kernel_rfl)
   obtain⟨v67_,e67_,u8_7,rfl, -⟩:=zd 7 67 (by kernel_rfl)
   obtain⟨v59_,e59_,u8_8,rfl, -⟩:=zd 8 59 (by kernel_rfl)
   obtain⟨v68_,e68_,u8,rfl,g8⟩:=zd 9 68 (by kernel_rfl)
   obtain⟨v69_,e69_,rfl⟩:=zd 10 69 (by kernel_rfl)
   obtain⟨v13_,e13_,XPD,rfl,lXPD,h13⟩:=zd 11 13 (by kernel_rfl)
   obtain rfl:=act_of [(65,u6),(66,u7),(67,.tuple #[u8_7,.int .i64 0]),(13,.pointer (some ⟨XPD,0,none⟩)),(59,.tuple #[u8_8,.int .i64 0]),(68,u8),(69,.int .i64 0)] ⟨e65_,e66_,e67_,e13_,e59_,e68_,e69_,trivial⟩ zdf zsz (fun s h=>zs s h)
   simp only[putAll,List.set_cons_zero,List.set_cons_succ]
   clear zdf zsz zs zd e65_ e66_ e67_ e13_ e59_ e68_ e69_
   have kXPD:w.heap.size≤XPD:=Nat.le_trans hB.size lXPD
   have dXPD_hA:g≠XPD:=Nat.ne_of_lt (Nat.lt_of_lt_of_le nhA lXPD)
   have dXPD_hR:g+1+1≠XPD:=Nat.ne_of_lt (Nat.lt_of_lt_of_le nhR lXPD)
   have dXPD_h10:XX≠XPD:=Nat.ne_of_lt (Nat.lt_of_lt_of_le nh10 lXPD)
   have dXPD_h11:XPC≠XPD:=Nat.ne_of_lt (Nat.lt_of_lt_of_le nh11 lXPD)
   replace hB:=bOn hB zS
   clear nhA nhR nh10 nh11
   obtain⟨s11,A11,L11,C11,D11,M11,E11,s12,A12,L12,C12,D12,M12,E12,rfl,q11,q12⟩:=g8.opn
   clear g6
   clear g7
   clear q20
   clear q4
   clear h10
   have zG:=grown_of zS (some (wd7_2.heap.size))
   refine rd1 12 rfl fun K hK=>?_
   obtain⟨ws7_12,eu,h13',kz,kb,kB⟩:=fill6 h13 (.bool s11) (.slice A11 L11 C11) (.slice D11 M11 E11) (.bool s12) (.slice A12 L12 C12) (.slice D12 M12 E12) (by simp[noU])
   obtain⟨x0,x1,x2,x3,x4,x5⟩:=h13.q6
   have xf:=h13.frozen
   replace zG:=(grown_set (grown_set (grown_set (grown_set (grown_set (grown_set zG (p:=⟨XPD,0,none⟩) (.inr (by assumption)) (.bool s11)) (p:=⟨XPD,1,none⟩) (.inr (by assumption)) (.slice A11 L11 C11)) (p:=⟨XPD,2,none⟩) (.inr (by assumption)) (.slice D11 M11 E11)) (p:=⟨XPD,3,none⟩) (.inr (by assumption)) (.bool s12)) (p:=⟨XPD,4,none⟩) (.inr (by assumption)) (.slice A12 L12 C12)) (p:=⟨XPD,5,none⟩) (.inr (by assumption)) (.slice D12 M12 E12))
   rw[←eu] at zG
   go_simp
   rw[←eu]
   replace hA:=kb _ _ _ hA (by first | assumption | exact Ne.symm (by assumption) | omega)
   replace hR:=kb _ _ _ hR (by first | assumption | exact Ne.symm (by assumption) | omega)
   replace h11:=kb _ _ _ h11 (by first | assumption | exact Ne.symm (by assumption) | omega)
   replace q9:=q9.filled kz
   replace q10:=q10.filled kz
   replace q11:=q11.filled kz
   replace q12:=q12.filled kz
   replace hB:=kB _ _ (by omega) hB
   replace h13:=h13'
   clear h13' kz kb kB eu xf x0 x1 x2 x3 x4 x5
   refine hK.out _ _ zG (fun hHeld=>?_)
   clear hK K
   refine tkH 13 rfl (v:=?v13) ?h13 ?r13 (hS:=zG)
   case h13=>intro w s;go_simp;try (with_reducible rfl)
   try simp only[Act.put,lay]
   try dsimp only
   try simp only[Act.put,lay]
   refine wpAnyH_done (by kernel_rfl) ?_ _
   refine NoPanic.normal ?_
   clear zG
   obtain⟨c132,c133,c134,c135,c136,c137⟩:=hA.q6
   obtain⟨c138,c139,c140,c141,c142,c143⟩:=hR.q6
   obtain⟨c144,c145,c146,c147,c148,c149⟩:=h11.q6
   obtain⟨c150,c151,c152,c153,c154,c155⟩:=h13.q6
   go_wp2_with fail
   refine (hSq _ _ ⟨_,_,_,_,_,_,rfl,q11,q12⟩).mono ?_
   rintro e w31 ⟨v13,rfl,g13,b31⟩
   replace hA:=hA.b b31
   replace hR:=hR.b b31
   replace h11:=h11.b b31
   replace q9:=q9.b b31
   replace q10:=q10.b b31
   replace h13:=h13.b b31
   replace q11:=q11.b b31
   replace q12:=q12.b b31
   replace hB:=bOn hB b31
   clear c132 c133 c134 c135 c136 c137 c138 c139 c140 c141 c142 c143 c144 c145 c146 c147 c148 c149 c150 c151 c152 c153 c154 c155
   obtain⟨c156,c157,c158,c159,c160,c161⟩:=hA.q6
   obtain⟨c162,c163,c164,c165,c166,c167⟩:=hR.q6
   obtain⟨c168,c169,c170,c171,c172,c173⟩:=h11.q6
   obtain⟨c174,c175,c176,c177,c178,c179⟩:=h13.q6
   obtain⟨s13,A13,L13,C13,D13,M13,E13,s14,A14,L14,C14,D14,M14,E14,rfl,q13,q14⟩:=g13.opn
   obtain⟨X33,V33,h15,bV33,lX33,nX33,EV33⟩:=boxL hB 46 #[.bool s13,.slice A13 L13 C13,.slice D13 M13 E13,.bool s14,.slice A14 L14 C14,.slice D14 M14 E14]
   have dX33_hA:=nX33 _ hA.lt
   have dX33_hR:=nX33 _ hR.lt
   have dX33_h11:=nX33 _ h11.lt
   clear nX33
   go_upto_region 9 with fail
   rw[←EV33.out.1,←EV33.out.2]
   replace hA:=hA.b bV33
   replace hR:=hR.b bV33
   replace h11:=h11.b bV33
   replace q9:=q9.b bV33
   replace q10:=q10.b bV33
   replace q13:=q13.b bV33
   replace q14:=q14.b bV33
   replace hB:=bOn hB bV33
   clear c156 c157 c158 c159 c160 c161 c162 c163 c164 c165 c166 c167 c168 c169 c170 c171 c172 c173 c174 c175 c176 c177 c178 c179
   obtain⟨c180,c181,c182,c183,c184,c185⟩:=hA.q6
   obtain⟨c186,c187,c188,c189,c190,c191⟩:=hR.q6
   obtain⟨c192,c193,c194,c195,c196,c197⟩:=h11.q6
   obtain⟨c198,c199,c200,c201,c202,c203⟩:=h15.q6
   clear c180 c181 c182 c183 c184 c185 c186 c187 c188 c189 c190 c191 c192 c193 c194 c195 c196 c197 c198 c199 c200 c201 c202 c203
   replace hB:=hB.drew
   replace hA:=hA.drew
   replace hR:=hR.drew
   replace h11:=h11.drew
   replace q9:=q9.b (bdrew _)
   replace q10:=q10.b (bdrew _)
   replace q13:=q13.b (bdrew _)
   replace q14:=q14.b (bdrew _)
   replace h15:=h15.drew
   refine wp_region_noPanic ?_
   refine wp_region_held_drew (S:=fun w'=>World.grownBy V33.drew w' (some (V33.drew.heap.size))) (by kernel_rfl) (grown_of (Below.refl _ _) _) (fun hHeld=>?_)
   obtain⟨wd9_3,hwd⟩:∃q,q=V33.drew:=⟨_,rfl⟩
   rw[←hwd] at hB hA hR h11 q9 q10 q13 q14 h15 hHeld ⊢
   clear hwd
   refine tkH 0 rfl (v:=?v14) ?h14 ?r14
   case h14=>
    intro w hSw
    (try dsimp only at hSw)
    obtain⟨yh11_0,yh11_1,yh11_2,yh11_3,yh11_4,yh11_5⟩:=(Blk.grownT h11 hSw (fun e=>absurd (Option.some.inj e) (Nat.ne_of_lt h11.lt))).q6
    obtain⟨yh15_0,yh15_1,yh15_2,yh15_3,yh15_4,yh15_5⟩:=(Blk.grownT h15 hSw (fun e=>absurd (Option.some.inj e) (Nat.ne_of_lt h15.lt))).q6
    obtain⟨yhA_0,yhA_1,yhA_2,yhA_3,yhA_4,yhA_5⟩:=(Blk.grownT hA hSw (fun e=>absurd (Option.some.inj e) (Nat.ne_of_lt hA.lt))).q6
    go_simp
    try (with_reducible rfl)
   refine tkH 1 rfl (v:=?v15) ?h15 ?r15
   case h15=>
    intro w hSw
    (try dsimp only at hSw)
    obtain⟨yh11_0,yh11_1,yh11_2,yh11_3,yh11_4,yh11_5⟩:=(Blk.grownT h11 hSw (fun e=>absurd (Option.some.inj e) (Nat.ne_of_lt h11.lt))).q6
    obtain⟨yh15_0,yh15_1,yh15_2,yh15_3,yh15_4,yh15_5⟩:=(Blk.grownT h15 hSw (fun e=>absurd (Option.some.inj e) (Nat.ne_of_lt h15.lt))).q6
    obtain⟨yhA_0,yhA_1,yhA_2,yhA_3,yhA_4,yhA_5⟩:=(Blk.grownT hA hSw (fun e=>absurd (Option.some.inj e) (Nat.ne_of_lt hA.lt))).q6
    go_simp
    try (with_reducible rfl)
   refine tkA 2 rfl ?_
   refine tkH 3 rfl (v:=?v17) ?h17 ?r17
   case h17=>
    intro w hSw
    (try dsimp only at hSw)
    obtain⟨yh11_0,yh11_1,yh11_2,yh11_3,yh11_4,yh11_5⟩:=(Blk.grownT h11 hSw (fun e=>absurd (Option.some.inj e) (Nat.ne_of_lt h11.lt))).q6
    obtain⟨yh15_0,yh15_1,yh15_2,yh15_3,yh15_4,yh15_5⟩:=(Blk.grownT h15 hSw (fun e=>absurd (Option.some.inj e) (Nat.ne_of_lt h15.lt))).q6
    obtain⟨yhA_0,yhA_1,yhA_2,yhA_3,yhA_4,yhA_5⟩:=(Blk.grownT hA hSw (fun e=>absurd (Option.some.inj e) (Nat.ne_of_lt hA.lt))).q6
    go_simp
    try (with_reducible rfl)
   refine tkA 4 rfl ?_
   try simp only[Act.put,lay]
   refine wpAnyH_facts [(5,81),(6,82),(7,83),(11,17)] [(8,75),(9,84),(10,85)] [10] (pick [(5,fun (v:Value) (w:World)=>∃u5,u5=v∧IsS w u5 re re),(6,fun (v:Value) (w:World)=>∃u6,u6=v∧IsS w u6 dl dh),(7,fun (v:Value) (w:World)=>∃u7,.tuple #[u7,.int .i64 0]=v∧IsS w u7 ul uh),(8,fun (v:Value) (w:World)=>∃u7,.tuple #[u7,.int .i64 0]=v∧IsS w u7 ul uh),(9,fun (v:Value) (w:World)=>∃u7,u7=v∧IsS w u7 ul uh),(10,fun (v:Value) (w:World)=>.int .i64 0=v),(11,fun (v:Value) (w:World)=>∃XPE,.pointer (some ⟨XPE,0,none⟩)=v∧wd9_3.heap.size≤XPE∧Blk w XPE 46 #[.bool false,.slice none 0 0,.slice none 0 0,.bool false,.slice none 0 0,.slice none 0 0])]) #[true,true,true,true,true,true,true,true,true,true,true,true,false,false] (fun _ h=>grown_of h _) (pick_pers (show PersAll _ from ⟨fun _ _ _ b ⟨u5,e,g5⟩=>⟨u5,e,g5.below b⟩,fun _ _ _ b ⟨u6,e,g6⟩=>⟨u6,e,g6.below b⟩,fun _ _ _ b ⟨u7,e,g7⟩=>⟨u7,e,g7.below b⟩,fun _ _ _ b ⟨u7,e,g7⟩=>⟨u7,e,g7.below b⟩,fun _ _ _ b ⟨u7,e,g7⟩=>⟨u7,e,g7.below b⟩,fun _ _ _ _ e=>e,fun _ _ _ b ⟨X,e,l,h⟩=>⟨X,e,l,h.below b h.lt⟩,trivial⟩)) (hord_of (by kernel_rfl)) (by kernel_rfl) (by kernel_rfl) (by kernel_rfl) (by kernel_rfl) (fun _ _ _ _ _ h=>h) ?ops3 ?pur3 ?done3 (Below.refl _ _) (Nat.le_of_ble_eq_true (by kernel_rfl))
   case ops3=>
    refine .cons rfl (fun a w zS K hK=>?_) ?_
    ·have e79:=zS.2.1 79 _ (by kernel_rfl) rfl
     have e80:=zS.2.1 80 _ (by kernel_rfl) rfl
     go_simp
     refine (hE _).mono ?_
     rintro e w' ⟨u5,rfl,g5,b⟩
     exact hK _ _ ⟨u5,rfl,g5⟩ b
    refine .cons rfl (fun a w zS K hK=>?_) ?_
    ·have q13:=q13.below zS.1
     have q14:=q14.below zS.1
     have e77:=zS.2.1 77 _ (by kernel_rfl) rfl
     obtain⟨v81,e81,u5,rfl,g5⟩:=zS.2.2 5 81 (by kernel_rfl)
     go_simp
     refine (hAd _ _ _ ⟨_,_,_,_,_,_,rfl,q13,q14⟩ g5).mono ?_
     rintro e w' ⟨u6,rfl,g6,b⟩
     exact hK _ _ ⟨u6,rfl,g6⟩ b
    refine .cons rfl (fun a w zS K hK=>?_) ?_
    ·have q9:=q9.below zS.1
     have q10:=q10.below zS.1
     have e76:=zS.2.1 76 _ (by kernel_rfl) rfl
     obtain⟨v82,e82,u6,rfl,g6⟩:=zS.2.2 6 82 (by kernel_rfl)
     go_simp
     refine (hDv3 _ _ _ ⟨_,_,_,_,_,_,rfl,q9,q10⟩ g6).mono ?_
     rintro e w' ⟨u7,rfl,g7,b⟩
     exact hK _ _ ⟨u7,rfl,g7⟩ b
    refine .cons rfl (fun a w zS K hK=>?_) ?_
    ·go_simp
     exact hK _ _ ⟨_,rfl,zS.1.size,Blk.new w _ _⟩ ((Below.refl _ w).alloc (Nat.le_refl _) _)
    exact .nil
   case pur3=>
    refine .cons rfl (fun a w zS=>?_) ?_
    ·obtain⟨v83,e83,u7,rfl,g7⟩:=zS.2.2 7 83 (by kernel_rfl)
     exact⟨_,fun w'=>by go_simp<;>rfl,⟨u7,rfl,g7⟩⟩
    refine .cons rfl (fun a w zS=>?_) ?_
    ·obtain⟨v75,e75,u7,rfl,g7⟩:=zS.2.2 8 75 (by kernel_rfl)
     exact⟨_,fun w'=>by go_simp<;>rfl,⟨u7,rfl,g7⟩⟩
    refine .cons rfl (fun a w zS=>?_) ?_
    ·obtain⟨v75,e75,u7,rfl,g7⟩:=zS.2.2 8 75 (by kernel_rfl)
     exact⟨_,fun w'=>by go_simp<;>rfl,rfl⟩
    exact .nil
   case done3=>
    intro fuel a wr9_3 zf zS zdf zsz zs zd
    obtain⟨fuel,rfl⟩:∃n,fuel=n+2:=⟨fuel - 2,by have h:2≤fuel:=Nat.le_trans (Nat.le_of_ble_eq_true (by kernel_rfl)) zf;omega⟩
    clear zf
    have nhA:=hA.lt
    replace hA:=hA.below zS nhA
    have nhR:=hR.lt
    replace hR:=hR.below zS nhR
    have nh11:=h11.lt
    replace h11:=h11.below zS nh11
    replace q9:=q9.b zS
    replace q10:=q10.b zS
    replace q13:=q13.b zS
    replace q14:=q14.b zS
    have nh15:=h15.lt
    replace h15:=h15.below zS nh15
    obtain⟨v81_,e81_,u5,rfl,g5⟩:=zd 5 81 (by kernel_rfl)
    obtain⟨v82_,e82_,u6,rfl,g6⟩:=zd 6 82 (by kernel_rfl)
    obtain⟨v83_,e83_,u7_7,rfl, -⟩:=zd 7 83 (by kernel_rfl)
    obtain⟨v75_,e75_,u7_8,rfl, -⟩:=zd 8 75 (by kernel_rfl)
    obtain⟨v84_,e84_,u7,rfl,g7⟩:=zd 9 84 (by kernel_rfl)
    obtain⟨v85_,e85_,rfl⟩:=zd 10 85 (by kernel_rfl)
    obtain⟨v17_,e17_,XPE,rfl,lXPE,h17⟩:=zd 11 17 (by kernel_rfl)
    obtain rfl:=act_of [(81,u5),(82,u6),(83,.tuple #[u7_7,.int .i64 0]),(17,.pointer (some ⟨XPE,0,none⟩)),(75,.tuple #[u7_8,.int .i64 0]),(84,u7),(85,.int .i64 0)] ⟨e81_,e82_,e83_,e17_,e75_,e84_,e85_,trivial⟩ zdf zsz (fun s h=>zs s h)
    simp only[putAll,List.set_cons_zero,List.set_cons_succ]
    clear zdf zsz zs zd e81_ e82_ e83_ e17_ e75_ e84_ e85_
    have kXPE:w.heap.size≤XPE:=Nat.le_trans hB.size lXPE
    have dXPE_hA:g≠XPE:=Nat.ne_of_lt (Nat.lt_of_lt_of_le nhA lXPE)
    have dXPE_hR:g+1+1≠XPE:=Nat.ne_of_lt (Nat.lt_of_lt_of_le nhR lXPE)
    have dXPE_h11:XPC≠XPE:=Nat.ne_of_lt (Nat.lt_of_lt_of_le nh11 lXPE)
    have dXPE_h15:X33≠XPE:=Nat.ne_of_lt (Nat.lt_of_lt_of_le nh15 lXPE)
    replace hB:=bOn hB zS
    clear nhA nhR nh11 nh15
    obtain⟨s27,A27,L27,C27,D27,M27,E27,s28,A28,L28,C28,D28,M28,E28,rfl,q27,q28⟩:=g7.opn
    clear g5
    clear g6
    clear q13
    clear q14
    clear q9
    clear q10
    clear h11
    clear h15
    have zG:=grown_of zS (some (wd9_3.heap.size))
    refine rd1 12 rfl fun K hK=>?_
    obtain⟨ws9_12,eu,h17',kz,kb,kB⟩:=fill6 h17 (.bool s27) (.slice A27 L27 C27) (.slice D27 M27 E27) (.bool s28) (.slice A28 L28 C28) (.slice D28 M28 E28) (by simp[noU])
    obtain⟨x0,x1,x2,x3,x4,x5⟩:=h17.q6
    have xf:=h17.frozen
    replace zG:=(grown_set (grown_set (grown_set (grown_set (grown_set (grown_set zG (p:=⟨XPE,0,none⟩) (.inr (by assumption)) (.bool s27)) (p:=⟨XPE,1,none⟩) (.inr (by assumption)) (.slice A27 L27 C27)) (p:=⟨XPE,2,none⟩) (.inr (by assumption)) (.slice D27 M27 E27)) (p:=⟨XPE,3,none⟩) (.inr (by assumption)) (.bool s28)) (p:=⟨XPE,4,none⟩) (.inr (by assumption)) (.slice A28 L28 C28)) (p:=⟨XPE,5,none⟩) (.inr (by assumption)) (.slice D28 M28 E28))
    rw[←eu] at zG
    go_simp
    rw[←eu]
    replace hA:=kb _ _ _ hA (by first | assumption | exact Ne.symm (by assumption) | omega)
    replace hR:=kb _ _ _ hR (by first | assumption | exact Ne.symm (by assumption) | omega)
    replace q27:=q27.filled kz
    replace q28:=q28.filled kz
    replace hB:=kB _ _ (by omega) hB
    replace h17:=h17'
    clear h17' kz kb kB eu xf x0 x1 x2 x3 x4 x5
    refine hK.out _ _ zG (fun hHeld=>?_)
    clear hK K
    refine tkH 13 rfl (v:=?v19) ?h19 ?r19 (hS:=zG)
    case h19=>intro w s;go_simp;try (with_reducible rfl)
    try simp only[Act.put,lay]
    try dsimp only
    try simp only[Act.put,lay]
    refine wpAnyH_done (by kernel_rfl) ?_ _
    refine NoPanic.normal ?_
    clear zG
    obtain⟨c204,c205,c206,c207,c208,c209⟩:=hA.q6
    obtain⟨c210,c211,c212,c213,c214,c215⟩:=hR.q6
    obtain⟨c216,c217,c218,c219,c220,c221⟩:=h17.q6
    go_upto_region 10 with fail
    clear c204 c205 c206 c207 c208 c209 c210 c211 c212 c213 c214 c215 c216 c217 c218 c219 c220 c221
    replace hB:=hB.drew
    replace hA:=hA.drew
    replace hR:=hR.drew
    replace h17:=h17.drew
    replace q27:=q27.b (bdrew _)
    replace q28:=q28.b (bdrew _)
    refine wp_region_noPanic ?_
    refine wp_region_held_drew (S:=fun w'=>World.grownBy ws9_12.drew w' (some (g+1+1))) (by kernel_rfl) (grown_of (Below.refl _ _) _) (fun hHeld=>?_)
    obtain⟨wd10_4,hwd⟩:∃q,q=ws9_12.drew:=⟨_,rfl⟩
    rw[←hwd] at hB hA hR h17 q27 q28 hHeld ⊢
    clear hwd
    refine tkA 0 rfl ?_
    refine tkH 1 rfl (v:=?v21) ?h21 ?r21
    case h21=>
     intro w hSw
     (try dsimp only at hSw)
     obtain⟨yhA_0,yhA_1,yhA_2,yhA_3,yhA_4,yhA_5⟩:=(Blk.grownT hA hSw (fun e=>absurd (Option.some.inj e) (by first | assumption | exact Ne.symm (by assumption) | omega))).q6
     obtain⟨yh17_0,yh17_1,yh17_2,yh17_3,yh17_4,yh17_5⟩:=(Blk.grownT h17 hSw (fun e=>absurd (Option.some.inj e) (by first | assumption | exact Ne.symm (by assumption) | omega))).q6
     go_simp
     try (with_reducible rfl)
    refine tkA 2 rfl ?_
    refine tkH 4 rfl (v:=?v23) ?h23 ?r23
    case h23=>
     intro w hSw
     (try dsimp only at hSw)
     obtain⟨yhA_0,yhA_1,yhA_2,yhA_3,yhA_4,yhA_5⟩:=(Blk.grownT hA hSw (fun e=>absurd (Option.some.inj e) (by first | assumption | exact Ne.symm (by assumption) | omega))).q6
     obtain⟨yh17_0,yh17_1,yh17_2,yh17_3,yh17_4,yh17_5⟩:=(Blk.grownT h17 hSw (fun e=>absurd (Option.some.inj e) (by first | assumption | exact Ne.symm (by assumption) | omega))).q6
     go_simp
     try (with_reducible rfl)
    try simp only[Act.put,lay]
    refine wpAnyH_facts [(3,89),(5,91),(6,92)] [(7,93),(8,94)] [] (pick [(3,fun (v:Value) (w:World)=>∃u3,u3=v∧IsS w u3 rl rl),(5,fun (v:Value) (w:World)=>∃u5,u5=v∧IsS w u5 pl ph),(6,fun (v:Value) (w:World)=>∃u6,.tuple #[u6,.int .i64 0]=v∧IsS w u6 ol oh),(7,fun (v:Value) (w:World)=>∃u6,u6=v∧IsS w u6 ol oh),(8,fun (v:Value) (w:World)=>.int .i64 0=v)]) #[true,true,true,true,true,true,true,true,true,false,false] (fun _ h=>grown_of h _) (pick_pers (show PersAll _ from ⟨fun _ _ _ b ⟨u3,e,g3⟩=>⟨u3,e,g3.below b⟩,fun _ _ _ b ⟨u5,e,g5⟩=>⟨u5,e,g5.below b⟩,fun _ _ _ b ⟨u6,e,g6⟩=>⟨u6,e,g6.below b⟩,fun _ _ _ b ⟨u6,e,g6⟩=>⟨u6,e,g6.below b⟩,fun _ _ _ _ e=>e,trivial⟩)) (hord_of (by kernel_rfl)) (by kernel_rfl) (by kernel_rfl) (by kernel_rfl) (by kernel_rfl) (fun _ _ _ _ _ h=>h) ?ops4 ?pur4 ?done4 (Below.refl _ _) (Nat.le_of_ble_eq_true (by kernel_rfl))
    case ops4=>
     refine .cons rfl (fun a w zS K hK=>?_) ?_
     ·have e87:=zS.2.1 87 _ (by kernel_rfl) rfl
      have e88:=zS.2.1 88 _ (by kernel_rfl) rfl
      go_simp
      refine (hL _).mono ?_
      rintro e w' ⟨u3,rfl,g3,b⟩
      exact hK _ _ ⟨u3,rfl,g3⟩ b
     refine .cons rfl (fun a w zS K hK=>?_) ?_
     ·have q27:=q27.below zS.1
      have q28:=q28.below zS.1
      obtain⟨v89,e89,u3,rfl,g3⟩:=zS.2.2 3 89 (by kernel_rfl)
      have e90:=zS.2.1 90 _ (by kernel_rfl) rfl
      go_simp
      refine (hMu _ _ _ g3 ⟨_,_,_,_,_,_,rfl,q27,q28⟩).mono ?_
      rintro e w' ⟨u5,rfl,g5,b⟩
      exact hK _ _ ⟨u5,rfl,g5⟩ b
     refine .cons rfl (fun a w zS K hK=>?_) ?_
     ·obtain⟨v91,e91,u5,rfl,g5⟩:=zS.2.2 5 91 (by kernel_rfl)
      go_simp
      refine (hOu _ _ g5).mono ?_
      rintro e w' ⟨u6,rfl,g6,b⟩
      exact hK _ _ ⟨u6,rfl,g6⟩ b
     exact .nil
    case pur4=>
     refine .cons rfl (fun a w zS=>?_) ?_
     ·obtain⟨v92,e92,u6,rfl,g6⟩:=zS.2.2 6 92 (by kernel_rfl)
      exact⟨_,fun w'=>by go_simp<;>rfl,⟨u6,rfl,g6⟩⟩
     refine .cons rfl (fun a w zS=>?_) ?_
     ·obtain⟨v92,e92,u6,rfl,g6⟩:=zS.2.2 6 92 (by kernel_rfl)
      exact⟨_,fun w'=>by go_simp<;>rfl,rfl⟩
     exact .nil
    case done4=>
     intro fuel a wr10_4 zf zS zdf zsz zs zd
     obtain⟨fuel,rfl⟩:∃n,fuel=n+2:=⟨fuel - 2,by have h:2≤fuel:=Nat.le_trans (Nat.le_of_ble_eq_true (by kernel_rfl)) zf;omega⟩
     clear zf
     have nhA:=hA.lt
     replace hA:=hA.below zS nhA
     have nhR:=hR.lt
     replace hR:=hR.below zS nhR
     have nh17:=h17.lt
     replace h17:=h17.below zS nh17
     replace q27:=q27.b zS
     replace q28:=q28.b zS
     obtain⟨v89_,e89_,u3,rfl,g3⟩:=zd 3 89 (by kernel_rfl)
     obtain⟨v91_,e91_,u5,rfl,g5⟩:=zd 5 91 (by kernel_rfl)
     obtain⟨v92_,e92_,u6_6,rfl, -⟩:=zd 6 92 (by kernel_rfl)
     obtain⟨v93_,e93_,u6,rfl,g6⟩:=zd 7 93 (by kernel_rfl)
     obtain⟨v94_,e94_,rfl⟩:=zd 8 94 (by kernel_rfl)
     obtain rfl:=act_of [(89,u3),(91,u5),(92,.tuple #[u6_6,.int .i64 0]),(93,u6),(94,.int .i64 0)] ⟨e89_,e91_,e92_,e93_,e94_,trivial⟩ zdf zsz (fun s h=>zs s h)
     simp only[putAll,List.set_cons_zero,List.set_cons_succ]
     clear zdf zsz zs zd e89_ e91_ e92_ e93_ e94_
     replace hB:=bOn hB zS
     clear nhA nhR nh17
     obtain⟨s23,A23,L23,C23,D23,M23,E23,s24,A24,L24,C24,D24,M24,E24,rfl,q23,q24⟩:=g6.opn
     clear g3
     clear g5
     clear q27
     clear q28
     clear h17
     have zG:=grown_of zS (some (g+1+1))
     refine rd1 9 rfl fun K hK=>?_
     obtain⟨ws10_9,eu,hR',kz,kb,kB⟩:=fill6 hR (.bool s23) (.slice A23 L23 C23) (.slice D23 M23 E23) (.bool s24) (.slice A24 L24 C24) (.slice D24 M24 E24) (by simp[noU])
     obtain⟨x0,x1,x2,x3,x4,x5⟩:=hR.q6
     have xf:=hR.frozen
     replace zG:=(grown_set (grown_set (grown_set (grown_set (grown_set (grown_set zG (p:=⟨g+1+1,0,none⟩) (.inl rfl) (.bool s23)) (p:=⟨g+1+1,1,none⟩) (.inl rfl) (.slice A23 L23 C23)) (p:=⟨g+1+1,2,none⟩) (.inl rfl) (.slice D23 M23 E23)) (p:=⟨g+1+1,3,none⟩) (.inl rfl) (.bool s24)) (p:=⟨g+1+1,4,none⟩) (.inl rfl) (.slice A24 L24 C24)) (p:=⟨g+1+1,5,none⟩) (.inl rfl) (.slice D24 M24 E24))
     rw[←eu] at zG
     go_simp
     rw[←eu]
     replace hA:=kb _ _ _ hA (by first | assumption | exact Ne.symm (by assumption) | omega)
     replace q23:=q23.filled kz
     replace q24:=q24.filled kz
     replace hB:=kB _ _ (by omega) hB
     replace hR:=hR'
     clear hR' kz kb kB eu xf x0 x1 x2 x3 x4 x5
     refine hK.out _ _ zG (fun hHeld=>?_)
     clear hK K
     refine tkH 10 rfl (v:=?v24) ?h24 ?r24 (hS:=zG)
     case h24=>intro w s;go_simp;try (with_reducible rfl)
     try simp only[Act.put,lay]
     try dsimp only
     try simp only[Act.put,lay]
     refine wpAnyH_done (by kernel_rfl) ?_ _
     refine NoPanic.normal ?_
     clear zG
     obtain⟨c222,c223,c224,c225,c226,c227⟩:=hA.q6
     obtain⟨c228,c229,c230,c231,c232,c233⟩:=hR.q6
     dsimp only[Exit.then]
     refine (by assumption:∀(a:Act) (w:World),Code.wp Tryz.prog Code.ret _ a w→_) _ _ ?_
     first | refine Go.wp_ret ?_ | refine Go.Code.wp_ret ?_
     exact bodyPost_ret (v:= .tuple #[.agg #[.bool s23,.slice A23 L23 C23,.slice D23 M23 E23,.bool s24,.slice A24 L24 C24,.slice D24 M24 E24],.int .i64 0]) (by simp[results,Tryz.results33,go_sem,c228,c229,c230,c231,c232,c233]) rfl ⟨_,rfl,⟨_,_,_,_,_,_,rfl,q23,q24⟩,hB⟩
theorem rupdno_any (lr b1 b2 eps wd:Int) (apart:Bool) (f t:Int) (w:World) (A1 D1 A2 D2 A3 D3 A4 D4:Option Addr) (L1 C1 M1 E1 L2 C2 M2 E2 L3 C3 M3 E3 L4 C4 M4 E4:Nat) (s1 s2 s3 s4:Bool)
 (hbad:rightA lr b1 b2 eps wd f=false∨(rightA lr b1 b2 eps wd f=true∧decide (t<1)=true)∨(rightA lr b1 b2 eps wd f=true∧decide (t<1)=false∧decide (30<t)=true)∨(rightA lr b1 b2 eps wd f=true∧decide (t<1)=false∧decide (30<t)=false∧s4=true)):
 Calls Tryz.prog 33 #[.agg #[.int .i64 lr,.int .i64 b1,.int .i64 b2,.int .i64 eps,.int .i64 wd,.bool apart],.int .i64 f,.int .i64 t,.agg #[.bool s1,.slice A1 L1 C1,.slice D1 M1 E1,.bool s2,.slice A2 L2 C2,.slice D2 M2 E2,.bool s3,.slice A3 L3 C3,.slice D3 M3 E3,.bool s4,.slice A4 L4 C4,.slice D4 M4 E4]] w fun e w'=>e= .returned (.tuple #[.agg #[.bool false,.slice none 0 0,.slice none 0 0,.bool false,.slice none 0 0,.slice none 0 0],.int .i64 1])∧Below w.heap.size w w':=by
 have hRi:=fun w=>raright_any lr b1 b2 eps wd f apart w
 generalize rightA lr b1 b2 eps wd f=ra at *
 have hbad:=Lib.hid hbad
 obtain⟨g,hg⟩:∃g,g=w.heap.size:=⟨_,rfl⟩
 obtain⟨Y0,eY0,hA,bY0⟩:=box1 w 61 #[.int .i64 lr,.int .i64 b1,.int .i64 b2,.int .i64 eps,.int .i64 wd,.bool apart]
 have zY0:Y0.heap.size=g+1:=by rw[eY0,World.size_alloc,←hg]
 rw[←hg] at hA
 have hB:=bY0
 obtain⟨Y1,eY1,h7,bY1⟩:=box1 Y0 67 #[.bool s1,.slice A1 L1 C1,.slice D1 M1 E1,.bool s2,.slice A2 L2 C2,.slice D2 M2 E2,.bool s3,.slice A3 L3 C3,.slice D3 M3 E3,.bool s4,.slice A4 L4 C4,.slice D4 M4 E4]
 have zY1:Y1.heap.size=g+1+1:=by rw[eY1,World.size_alloc,zY0]
 rw[zY0] at h7
 replace hA:=hA.b bY1
 replace hB:=bOn hB bY1
 obtain⟨Y2,eY2,hR,bY2⟩:=box1 Y1 46 #[.bool false,.slice none 0 0,.slice none 0 0,.bool false,.slice none 0 0,.slice none 0 0]
 have zY2:Y2.heap.size=g+1+1+1:=by rw[eY2,World.size_alloc,zY1]
 rw[zY1] at hR
 replace hA:=hA.b bY2
 replace h7:=h7.b bY2
 replace hB:=bOn hB bY2
 have hgw:w.heap.size≤g:=by omega
 have EY:=Lib.hid (And.intro hg (And.intro eY0 (And.intro eY1 eY2)))
 clear hg eY0 zY0 eY1 zY1 eY2 zY2
 obtain⟨c0,c1,c2,c3,c4,c5⟩:=hA.q6
 obtain⟨c6,c7,c8,c9,c10,c11,c12,c13,c14,c15,c16,c17⟩:=h7.q12
 obtain⟨c18,c19,c20,c21,c22,c23⟩:=hR.q6
 go_enter Tryz.func33,Tryz.ntmps33
 go_wp2_with fail
 rw[←EY.out.2.1,←EY.out.2.2.1,←EY.out.2.2.2,←EY.out.1]
 refine (hRi _).mono ?_
 rintro e w22 ⟨rfl,b22⟩
 replace hA:=hA.b b22
 replace h7:=h7.b b22
 replace hR:=hR.b b22
 replace hB:=bOn hB b22
 clear c0 c1 c2 c3 c4 c5 c6 c7 c8 c9 c10 c11 c12 c13 c14 c15 c16 c17 c18 c19 c20 c21 c22 c23
 obtain⟨c24,c25,c26,c27,c28,c29⟩:=hA.q6
 obtain⟨c30,c31,c32,c33,c34,c35,c36,c37,c38,c39,c40,c41⟩:=h7.q12
 obtain⟨c42,c43,c44,c45,c46,c47⟩:=hR.q6
 rcases hbad.out with rfl | ⟨rfl,t1⟩ | ⟨rfl,t1,t2⟩ | ⟨rfl,t1,t2,rfl⟩
 all_goals
  obtain⟨p1,p2,p3⟩:=put6 hR (.bool false) (.slice none 0 0) (.slice none 0 0) (.bool false) (.slice none 0 0) (.slice none 0 0) (by simp[noU]) hB (by omega)
  have rc0:World.cell? _ ⟨g+1+1,0,none⟩=some (.bool false):=hR.cell 0
  have rf0:=hR.frozen 0
  have rc1:World.cell? _ ⟨g+1+1,1,none⟩=some (.slice none 0 0):=hR.cell 1
  have rf1:=hR.frozen 1
  have rc2:World.cell? _ ⟨g+1+1,2,none⟩=some (.slice none 0 0):=hR.cell 2
  have rf2:=hR.frozen 2
  have rc3:World.cell? _ ⟨g+1+1,3,none⟩=some (.bool false):=hR.cell 3
  have rf3:=hR.frozen 3
  have rc4:World.cell? _ ⟨g+1+1,4,none⟩=some (.slice none 0 0):=hR.cell 4
  have rf4:=hR.frozen 4
  have rc5:World.cell? _ ⟨g+1+1,5,none⟩=some (.slice none 0 0):=hR.cell 5
  have rf5:=hR.frozen 5
  have P:=Lib.hid (And.intro trivial (And.intro p3 p1.cells6))
  clear p1 p2 p3
  go_wp2_with fail
  obtain⟨P1,P2,P3,P4,P5,P6,P7,P8⟩:=P.out
  exact bodyPost_ret (v:= .tuple #[.agg #[.bool false,.slice none 0 0,.slice none 0 0,.bool false,.slice none 0 0,.slice none 0 0],.int .i64 1]) (by simp[results,Tryz.results33,go_sem,P3,P4,P5,P6,P7,P8]) rfl ⟨rfl,P2⟩
theorem pupd_any (lr b1 b2 eps wd:Int) (apart:Bool) (k t:Nat) (v1 v2:Value) (ra rb rc rd:Rat) (w:World) (hr:rightA lr b1 b2 eps wd (k:Int)=true) (i1:In64 lr) (i2:In64 b1) (i3:In64 b2) (i4:In64 eps) (ht1:1≤t) (ht2:t≤30) (h1:IsS w v1 ra rb) (h2:IsS w v2 rc rd) (b0:BQ ra 10) (b0':BQ rb 10) (b2':BQ rc 10) (b3:BQ rd 10) (n1:¬rd.num<0)
 (A1 D1 A2 D2 A3 D3 A4 D4:Option Addr) (L1 C1 M1 E1 L2 C2 M2 E2 L3 C3 M3 E3 L4 C4 M4 E4:Nat) (s1 s2 s3 s4:Bool) (e1:v1= .agg #[.bool s1,.slice A1 L1 C1,.slice D1 M1 E1,.bool s2,.slice A2 L2 C2,.slice D2 M2 E2]) (e2:v2= .agg #[.bool s3,.slice A3 L3 C3,.slice D3 M3 E3,.bool s4,.slice A4 L4 C4,.slice D4 M4 E4]):
 Calls Tryz.prog 32 #[.agg #[.int .i64 lr,.int .i64 b1,.int .i64 b2,.int .i64 eps,.int .i64 wd,.bool apart],.int .i64 k,.int .i64 t,.agg #[.bool s1,.slice A1 L1 C1,.slice D1 M1 E1,.bool s2,.slice A2 L2 C2,.slice D2 M2 E2,.bool s3,.slice A3 L3 C3,.slice D3 M3 E3,.bool s4,.slice A4 L4 C4,.slice D4 M4 E4]] w fun e w'=>∃v',e= .returned (.tuple #[v',.int .i64 0])∧IsS w' v' (updLo (1 - powQ (mkRat b1 (2^k)) t) (1 - powQ (mkRat b2 (2^k)) t) (mkRat eps (2^k)) (mkRat lr (2^k)) ra rb (if rc.num<0 then 0 else rc) rd) (updHi (1 - powQ (mkRat b1 (2^k)) t) (1 - powQ (mkRat b2 (2^k)) t) (mkRat eps (2^k)) (mkRat lr (2^k)) ra rb (if rc.num<0 then 0 else rc) rd)∧Below w.heap.size w w':=by
 subst e1
 subst e2
 obtain⟨s1_,p,q,s2_,x,y,e,q1,q2⟩:=h1
 cases e
 obtain⟨s3_,p,q,s4_,x,y,e,q3,q4⟩:=h2
 cases e
 have e3:=q3.parts.1
 obtain⟨z,ez⟩:∃z:Rat,z=if rc.num<0 then 0 else rc:=⟨_,rfl⟩
 have HZ:=Lib.hid (show (s3=true→z=0)∧(s3=false→z=rc) from ⟨fun h=>by rw[ez,if_pos (of_decide_eq_true (e3.symm.trans h))],fun h=>by rw[ez,if_neg (of_decide_eq_false (e3.symm.trans h))]⟩)
 obtain rfl:s4=false:=by rw[q4.parts.1];exact decide_eq_false n1
 have hr0:=hr
 unfold rightA at hr
 have hr':=of_decide_eq_true hr
 obtain⟨_,hk40,hlr,heps,⟨hb10,hb11⟩,⟨hb20,hb21⟩,_⟩:=hr'
 rw[Int.toNat_natCast] at hb11 hb21
 have hk:k≤40:=by omega
 have hRi:=fun w=>aright_any lr b1 b2 eps wd (k:Int) apart w
 rw[hr0] at hRi
 have t1:decide ((t:Int)<1)=false:=decide_eq_false (by omega)
 have t2:decide (30<(t:Int))=false:=decide_eq_false (by omega)
 have hE:=fun w=>pnum_any eps k w hk i4
 have hL:=fun w=>pnum_any lr k w hk i1
 have hK1:=fun w=>plack_any b1 k t w hk i2 (by omega)
 have hK2:=fun w=>plack_any b2 k t w hk i3 (by omega)
 have lp1:=lack_pos hb10 hb11 ht1
 have lp2:=lack_pos hb20 hb21 ht1
 have sone:BQ (1:Rat) 1:=BQ.int (n:=1) (by unfold W64;omega)
 have sm:=fun (b:Int) (hb:In64 b)=>(BQ.mk (Sz.u64 (by have:=hb.1;have:=hb.2;unfold W64;omega)) ((Sz.two_pow k).more (by omega)) (by omega):BQ (mkRat b (2^k)) 1)
 have sl:=fun (b:Int) (hb:In64 b)=>(show BQ (1 - powQ (mkRat b (2^k)) t) 130 by rw[Rat.sub_eq_add_neg];exact (sone.add (sz_powQ (sm b hb) t).neg).more (by omega))
 have sl1:=sl b1 i2
 have sl2:=sl b2 i3
 have se:=sm eps i4
 have sr:=sm lr i1
 have pe:0<mkRat eps (2^k):=by
  rw[Rat.mkRat_eq_div,Rat.div_def]
  exact Rat.mul_pos (by have : ((0 : Int) : Rat) < (eps : Rat) := by rw [Rat.intCast_lt_intCast]; exact heps
                        exact this) (Rat.inv_pos.2 (by have:=powQ_pos k;simpa using this))
 have hO:=fun w=>pof_any 0 (by omega) (by omega) w
 rw[show ((0:Int):Rat)=0 from rfl] at hO
 have bz0:BQ (0:Rat) 10:=(BQ.int (n:=0) (by unfold W64;omega)).more (by omega)
 have bz:BQ z 10:=by rw[ez];split<;>assumption
 have z0n:0≤z:=by
  rw[ez];split
  ·exact Rat.le_refl
  ·rw[←Rat.num_nonneg];omega
 rw[←ez]
 clear bz0 ez e3
 obtain⟨l1,el1⟩:∃l,l=(1 - powQ (mkRat b1 (2^k)) t):=⟨_,rfl⟩
 obtain⟨l2,el2⟩:∃l,l=(1 - powQ (mkRat b2 (2^k)) t):=⟨_,rfl⟩
 rw[←el1] at hK1 lp1 sl1 ⊢
 rw[←el2] at hK2 lp2 sl2 ⊢
 obtain⟨re,ere⟩:∃l,l=mkRat eps (2^k):=⟨_,rfl⟩
 obtain⟨rl,erl⟩:∃l,l=mkRat lr (2^k):=⟨_,rfl⟩
 rw[←ere] at hE se pe ⊢
 rw[←erl] at hL sr ⊢
 have hDv1:=fun u v w h h'=>pivdiv_any u v ra rb l1 l1 w h h' (b0.more (by omega)) (b0'.more (by omega)) (sl1.more (by omega)) (sl1.more (by omega)) (pos_has lp1) (pos_num lp1) (pos_num lp1)
 obtain⟨sx1,sx2⟩:=sz_div b0 b0' sl1 sl1
 have hDv2:=fun u v w h h'=>pivdiv_any u v z rd l2 l2 w h h' (bz.more (by omega)) (b3.more (by omega)) (sl2.more (by omega)) (sl2.more (by omega)) (pos_has lp2) (pos_num lp2) (pos_num lp2)
 obtain⟨sy1,sy2⟩:=sz_div bz b3 sl2 sl2
 have p1':0≤rd:=by rw[←Rat.num_nonneg];omega
 have p0':0≤z:=z0n
 have yn:0≤divLo z rd l2 l2:=(four_all (P:=fun q=>0≤q) (div_nonneg p0' lp2) (div_nonneg p0' lp2) (div_nonneg p1' lp2) (div_nonneg p1' lp2)).1
 have yn':¬(divLo z rd l2 l2).num<0:=by rw[num_neg_iff,Rat.not_lt];exact yn
 have hSq:=fun v w h=>psqrt_fn v (divLo z rd l2 l2) (divHi z rd l2 l2) w h (sy1.more (by omega)) (sy2.more (by omega)) yn'
 have sg1:=sz_sqLo sy1
 have sg2:=sz_sqHi sy2
 have dp1:0<sqLo (divLo z rd l2 l2)+re:=add_posQ (sqLo_nonneg _) pe
 have dp2:0<sqHi (divHi z rd l2 l2)+re:=add_posQ (sqHi_nonneg _) pe
 have hIv:=fun v r w h=>pivof_any v r w h
 have hAd:=fun u v w h h'=>pivadd_any u v (sqLo (divLo z rd l2 l2)) (sqHi (divHi z rd l2 l2)) re re w h h' (sg1.more (by omega)) (sg2.more (by omega)) (se.more (by omega)) (se.more (by omega))
 have sd1:=(sg1.add se).more (m:=400) (by omega)
 have sd2:=(sg2.add se).more (m:=400) (by omega)
 have hDv3:=fun u v w h h'=>pivdiv_any u v (divLo ra rb l1 l1) (divHi ra rb l1 l1) (sqLo (divLo z rd l2 l2)+re) (sqHi (divHi z rd l2 l2)+re) w h h' (sx1.more (by omega)) (sx2.more (by omega)) (sd1.more (by omega)) (sd2.more (by omega)) (pos_has dp1) (pos_num dp1) (pos_num dp2)
 obtain⟨su1,su2⟩:=sz_div sx1 sx2 sd1 sd2
 have hMu:=fun u v w h h'=>pivmul_any u v rl rl (divLo (divLo ra rb l1 l1) (divHi ra rb l1 l1) (sqLo (divLo z rd l2 l2)+re) (sqHi (divHi z rd l2 l2)+re)) (divHi (divLo ra rb l1 l1) (divHi ra rb l1 l1) (sqLo (divLo z rd l2 l2)+re) (sqHi (divHi z rd l2 l2)+re)) w h h' (sr.more (by omega)) (sr.more (by omega)) (su1.more (by omega)) (su2.more (by omega))
 obtain⟨sp1,sp2⟩:=sz_mul sr sr su1 su2
 have hOu:=fun v w h=>pout_any v _ _ w h (sp1.more (by omega)) (sp2.more (by omega))
 unfold updLo updHi
 rw[show mnTo (quo4 ra rb l1 l1) 3=divLo ra rb l1 l1 from rfl,show mxTo (quo4 ra rb l1 l1) 3=divHi ra rb l1 l1 from rfl] at hDv1
 rw[show mnTo (quo4 z rd l2 l2) 3=divLo z rd l2 l2 from rfl,show mxTo (quo4 z rd l2 l2) 3=divHi z rd l2 l2 from rfl] at hDv2
 generalize divLo ra rb l1 l1=xl at *
 generalize divHi ra rb l1 l1=xh at *
 generalize divLo z rd l2 l2=yl at *
 generalize divHi z rd l2 l2=yh at *
 generalize sqLo yl=gl at *
 generalize sqHi yh=gh at *
 generalize gl+re=dl at *
 generalize gh+re=dh at *
 rw[show mnTo (quo4 xl xh dl dh) 3=divLo xl xh dl dh from rfl,show mxTo (quo4 xl xh dl dh) 3=divHi xl xh dl dh from rfl] at hDv3
 generalize divLo xl xh dl dh=ul at *
 generalize divHi xl xh dl dh=uh at *
 rw[show mnTo [rl*ul,rl*uh,rl*ul,rl*uh] 3=mulLo rl rl ul uh from rfl,show mxTo [rl*ul,rl*uh,rl*ul,rl*uh] 3=mulHi rl rl ul uh from rfl] at hMu
 generalize mulLo rl rl ul uh=pl at *
 generalize mulHi rl rl ul uh=ph at *
 generalize mkRat (flr pl 60) (2^60)=ol at *
 generalize mkRat (cel ph 60) (2^60)=oh at *
 clear hr hr0 el1 el2 ere erl lp1 lp2 sone sm sl sl1 sl2 se sr pe sx1 sx2 sy1 sy2 p1' p0' yn yn' sg1 sg2 dp1 dp2 sd1 sd2 su1 su2 sp1 sp2 i1 i2 i3 i4 b0 b0' b2' b3 bz z0n n1 hb10 hb11 hb20 hb21 hlr heps
 obtain⟨g,Y2,hA,h7,hR,hB,hgw,EY⟩:=boxes3 w 61 #[.int .i64 lr,.int .i64 b1,.int .i64 b2,.int .i64 eps,.int .i64 wd,.bool apart] 67 #[.bool s1,.slice A1 L1 C1,.slice D1 M1 E1,.bool s2,.slice A2 L2 C2,.slice D2 M2 E2,.bool s3,.slice A3 L3 C3,.slice D3 M3 E3,.bool false,.slice A4 L4 C4,.slice D4 M4 E4] 46 #[.bool false,.slice none 0 0,.slice none 0 0,.bool false,.slice none 0 0,.slice none 0 0]
 replace q1:=q1.b hB
 replace q2:=q2.b hB
 replace q3:=q3.b hB
 replace q4:=q4.b hB
 obtain⟨c0,c1,c2,c3,c4,c5⟩:=hA.q6
 obtain⟨c6,c7,c8,c9,c10,c11,c12,c13,c14,c15,c16,c17⟩:=h7.q12
 obtain⟨c18,c19,c20,c21,c22,c23⟩:=hR.q6
 go_enter Tryz.func32,Tryz.ntmps32
 go_upto_region 1 with fail
 rw[←EY.out.2,←EY.out.1]
 replace hB:=hB.drew
 replace q1:=q1.b (bdrew _)
 replace q2:=q2.b (bdrew _)
 replace q3:=q3.b (bdrew _)
 replace q4:=q4.b (bdrew _)
 replace hA:=hA.drew
 replace h7:=h7.drew
 replace hR:=hR.drew
 clear c0 c1 c2 c3 c4 c5 c6 c7 c8 c9 c10 c11 c12 c13 c14 c15 c16 c17 c18 c19 c20 c21 c22 c23
 go_cut [10,11] (fun s10 s11 wx=>∃XPA XPB,s10= .pointer (some ⟨XPA,0,none⟩)∧s11= .pointer (some ⟨XPB,0,none⟩)∧IsQ wx (.agg #[.bool s1,.slice A1 L1 C1,.slice D1 M1 E1]) ra∧IsQ wx (.agg #[.bool s2,.slice A2 L2 C2,.slice D2 M2 E2]) rb∧IsQ wx (.agg #[.bool s3,.slice A3 L3 C3,.slice D3 M3 E3]) rc∧IsQ wx (.agg #[.bool false,.slice A4 L4 C4,.slice D4 M4 E4]) rd∧Blk wx g 61 #[.int .i64 lr,.int .i64 b1,.int .i64 b2,.int .i64 eps,.int .i64 wd,.bool apart]∧Blk wx (g+1+1) 46 #[.bool false,.slice none 0 0,.slice none 0 0,.bool false,.slice none 0 0,.slice none 0 0]∧Blk wx XPA 46 #[.bool s1,.slice A1 L1 C1,.slice D1 M1 E1,.bool s2,.slice A2 L2 C2,.slice D2 M2 E2]∧Blk wx XPB 46 #[.bool s3,.slice A3 L3 C3,.slice D3 M3 E3,.bool false,.slice A4 L4 C4,.slice D4 M4 E4]∧Below w.heap.size w wx∧w.heap.size≤XPA∧w.heap.size≤XPB∧g≠XPA∧g+1+1≠XPA∧g≠XPB∧g+1+1≠XPB∧XPA≠XPB)
 case first=>
  refine wp_region_noPanic ?_
  refine wp_region_held_drew (S:=fun w'=>w'.cell? ⟨g+1,0,none⟩=some (.bool s1)∧w'.cell? ⟨g+1,1,none⟩=some (.slice A1 L1 C1)∧w'.cell? ⟨g+1,2,none⟩=some (.slice D1 M1 E1)∧w'.cell? ⟨g+1,3,none⟩=some (.bool s2)∧w'.cell? ⟨g+1,4,none⟩=some (.slice A2 L2 C2)∧w'.cell? ⟨g+1,5,none⟩=some (.slice D2 M2 E2)∧w'.cell? ⟨g+1,6,none⟩=some (.bool s3)∧w'.cell? ⟨g+1,7,none⟩=some (.slice A3 L3 C3)∧w'.cell? ⟨g+1,8,none⟩=some (.slice D3 M3 E3)∧w'.cell? ⟨g+1,9,none⟩=some (.bool false)∧w'.cell? ⟨g+1,10,none⟩=some (.slice A4 L4 C4)∧w'.cell? ⟨g+1,11,none⟩=some (.slice D4 M4 E4)) (by kernel_rfl) ?_ (fun hHeld=>?_)
  ·exact⟨h7.cell 0,h7.cell 1,h7.cell 2,h7.cell 3,h7.cell 4,h7.cell 5,h7.cell 6,h7.cell 7,h7.cell 8,h7.cell 9,h7.cell 10,h7.cell 11⟩
  obtain⟨wd1_1,hwd⟩:∃q,q=Y2.drew:=⟨_,rfl⟩
  rw[←hwd] at hB q1 q2 q3 q4 hA h7 hR hHeld ⊢
  clear hwd
  refine tkA 0 rfl ?_
  refine tkA 1 rfl ?_
  refine tkA 2 rfl ?_
  refine tkA 3 rfl ?_
  try simp only[Act.put,lay]
  refine rd2 4 5 rfl rfl (fun K hK=>?_) fun K hK=>?_
  ·obtain⟨u1_1,eu,h10,b1_1⟩:=box1 wd1_1 46 #[.bool false,.slice none 0 0,.slice none 0 0,.bool false,.slice none 0 0,.slice none 0 0]
   obtain⟨XPA,en⟩:∃X,X=wd1_1.heap.size:=⟨_,rfl⟩
   rw[←en] at h10
   have lXPA:w.heap.size≤XPA:=by rw[en];exact hB.size
   have dXPA_hA:g≠XPA:=by have:=hA.lt;omega
   have dXPA_h7:g+1≠XPA:=by have:=h7.lt;omega
   have dXPA_hR:g+1+1≠XPA:=by have:=hR.lt;omega
   have EUXPA:=Lib.hid (And.intro eu en)
   clear eu en
   go_simp
   rw[←EUXPA.out.1,←EUXPA.out.2]
   replace q1:=q1.b b1_1
   replace q2:=q2.b b1_1
   replace q3:=q3.b b1_1
   replace q4:=q4.b b1_1
   replace hA:=hA.b b1_1
   replace h7:=h7.b b1_1
   replace hR:=hR.b b1_1
   replace hB:=bOn hB b1_1
   refine hK.out _ _ ?_ fun hHeld=>?_
   ·exact⟨h7.cell 0,h7.cell 1,h7.cell 2,h7.cell 3,h7.cell 4,h7.cell 5,h7.cell 6,h7.cell 7,h7.cell 8,h7.cell 9,h7.cell 10,h7.cell 11⟩
   clear hK K
   try simp only[Act.put,lay]
   refine rd1 5 rfl fun K hK=>?_
   obtain⟨u1_2,eu,h11,b1_2⟩:=box1 u1_1 46 #[.bool false,.slice none 0 0,.slice none 0 0,.bool false,.slice none 0 0,.slice none 0 0]
   obtain⟨XPB,en⟩:∃X,X=u1_1.heap.size:=⟨_,rfl⟩
   rw[←en] at h11
   have lXPB:w.heap.size≤XPB:=by rw[en];exact hB.size
   have dXPB_hA:g≠XPB:=by have:=hA.lt;omega
   have dXPB_h7:g+1≠XPB:=by have:=h7.lt;omega
   have dXPB_hR:g+1+1≠XPB:=by have:=hR.lt;omega
   have dXPB_h10:XPA≠XPB:=by have:=h10.lt;omega
   have EUXPB:=Lib.hid (And.intro eu en)
   clear eu en
   go_simp
   rw[←EUXPB.out.1,←EUXPB.out.2]
   replace q1:=q1.b b1_2
   replace q2:=q2.b b1_2
   replace q3:=q3.b b1_2
   replace q4:=q4.b b1_2
   replace hA:=hA.b b1_2
   replace h7:=h7.b b1_2
   replace hR:=hR.b b1_2
   replace h10:=h10.b b1_2
   replace hB:=bOn hB b1_2
   refine hK.out _ _ ?_ fun hHeld=>?_
   ·exact⟨h7.cell 0,h7.cell 1,h7.cell 2,h7.cell 3,h7.cell 4,h7.cell 5,h7.cell 6,h7.cell 7,h7.cell 8,h7.cell 9,h7.cell 10,h7.cell 11⟩
   clear hK K
   try simp only[Act.put,lay]
   refine rd1 6 rfl fun K hK=>?_
   obtain⟨u1_3,eu,h10',kz,kb,kB⟩:=fill6 h10 (.bool s1) (.slice A1 L1 C1) (.slice D1 M1 E1) (.bool s2) (.slice A2 L2 C2) (.slice D2 M2 E2) (by simp[noU])
   obtain⟨x0,x1,x2,x3,x4,x5⟩:=h10.q6
   have xf:=h10.frozen
   go_simp
   rw[←eu]
   replace q1:=q1.filled kz
   replace q2:=q2.filled kz
   replace q3:=q3.filled kz
   replace q4:=q4.filled kz
   replace hA:=kb _ _ _ hA (by omega)
   replace h7:=kb _ _ _ h7 (by omega)
   replace hR:=kb _ _ _ hR (by omega)
   replace h11:=kb _ _ _ h11 (by omega)
   replace hB:=kB _ _ (by omega) hB
   replace h10:=h10'
   clear h10' kz kb kB eu xf x0 x1 x2 x3 x4 x5
   refine hK.out _ _ ?_ fun hHeld=>?_
   ·exact⟨h7.cell 0,h7.cell 1,h7.cell 2,h7.cell 3,h7.cell 4,h7.cell 5,h7.cell 6,h7.cell 7,h7.cell 8,h7.cell 9,h7.cell 10,h7.cell 11⟩
   clear hK K
   try simp only[Act.put,lay]
   refine rd1 7 rfl fun K hK=>?_
   obtain⟨u1_4,eu,h11',kz,kb,kB⟩:=fill6 h11 (.bool s3) (.slice A3 L3 C3) (.slice D3 M3 E3) (.bool false) (.slice A4 L4 C4) (.slice D4 M4 E4) (by simp[noU])
   obtain⟨x0,x1,x2,x3,x4,x5⟩:=h11.q6
   have xf:=h11.frozen
   go_simp
   rw[←eu]
   replace q1:=q1.filled kz
   replace q2:=q2.filled kz
   replace q3:=q3.filled kz
   replace q4:=q4.filled kz
   replace hA:=kb _ _ _ hA (by omega)
   replace h7:=kb _ _ _ h7 (by omega)
   replace hR:=kb _ _ _ hR (by omega)
   replace h10:=kb _ _ _ h10 (by omega)
   replace hB:=kB _ _ (by omega) hB
   replace h11:=h11'
   clear h11' kz kb kB eu xf x0 x1 x2 x3 x4 x5
   refine hK.out _ _ ?_ fun hHeld=>?_
   ·exact⟨h7.cell 0,h7.cell 1,h7.cell 2,h7.cell 3,h7.cell 4,h7.cell 5,h7.cell 6,h7.cell 7,h7.cell 8,h7.cell 9,h7.cell 10,h7.cell 11⟩
   clear hK K
   try simp only[Act.put,lay]
   try dsimp only
   try simp only[Act.put,lay]
   refine wpAnyH_done (by kernel_rfl) ?_ _
   refine NoPanic.normal ?_
   go_wp2_with fail
   go_meet
   exact⟨XPA,XPB,rfl,rfl,q1,q2,q3,q4,hA,hR,h10,h11,hB,lXPA,lXPB,(by assumption),(by assumption),(by assumption),(by assumption),(by first | assumption | exact Ne.symm (by assumption))⟩
  ·obtain⟨u1_5,eu,h11,b1_5⟩:=box1 wd1_1 46 #[.bool false,.slice none 0 0,.slice none 0 0,.bool false,.slice none 0 0,.slice none 0 0]
   obtain⟨XPB,en⟩:∃X,X=wd1_1.heap.size:=⟨_,rfl⟩
   rw[←en] at h11
   have lXPB:w.heap.size≤XPB:=by rw[en];exact hB.size
   have dXPB_hA:g≠XPB:=by have:=hA.lt;omega
   have dXPB_h7:g+1≠XPB:=by have:=h7.lt;omega
   have dXPB_hR:g+1+1≠XPB:=by have:=hR.lt;omega
   have EUXPB:=Lib.hid (And.intro eu en)
   clear eu en
   go_simp
   rw[←EUXPB.out.1,←EUXPB.out.2]
   replace q1:=q1.b b1_5
   replace q2:=q2.b b1_5
   replace q3:=q3.b b1_5
   replace q4:=q4.b b1_5
   replace hA:=hA.b b1_5
   replace h7:=h7.b b1_5
   replace hR:=hR.b b1_5
   replace hB:=bOn hB b1_5
   refine hK.out _ _ ?_ fun hHeld=>?_
   ·exact⟨h7.cell 0,h7.cell 1,h7.cell 2,h7.cell 3,h7.cell 4,h7.cell 5,h7.cell 6,h7.cell 7,h7.cell 8,h7.cell 9,h7.cell 10,h7.cell 11⟩
   clear hK K
   try simp only[Act.put,lay]
   refine rd1 4 rfl fun K hK=>?_
   obtain⟨u1_6,eu,h10,b1_6⟩:=box1 u1_5 46 #[.bool false,.slice none 0 0,.slice none 0 0,.bool false,.slice none 0 0,.slice none 0 0]
   obtain⟨XPA,en⟩:∃X,X=u1_5.heap.size:=⟨_,rfl⟩
   rw[←en] at h10
   have lXPA:w.heap.size≤XPA:=by rw[en];exact hB.size
   have dXPA_hA:g≠XPA:=by have:=hA.lt;omega
   have dXPA_h7:g+1≠XPA:=by have:=h7.lt;omega
   have dXPA_hR:g+1+1≠XPA:=by have:=hR.lt;omega
   have dXPA_h11:XPB≠XPA:=by have:=h11.lt;omega
   have EUXPA:=Lib.hid (And.intro eu en)
   clear eu en
   go_simp
   rw[←EUXPA.out.1,←EUXPA.out.2]
   replace q1:=q1.b b1_6
   replace q2:=q2.b b1_6
   replace q3:=q3.b b1_6
   replace q4:=q4.b b1_6
   replace hA:=hA.b b1_6
   replace h7:=h7.b b1_6
   replace hR:=hR.b b1_6
   replace h11:=h11.b b1_6
   replace hB:=bOn hB b1_6
   refine hK.out _ _ ?_ fun hHeld=>?_
   ·exact⟨h7.cell 0,h7.cell 1,h7.cell 2,h7.cell 3,h7.cell 4,h7.cell 5,h7.cell 6,h7.cell 7,h7.cell 8,h7.cell 9,h7.cell 10,h7.cell 11⟩
   clear hK K
   try simp only[Act.put,lay]
   refine rd1 6 rfl fun K hK=>?_
   obtain⟨u1_7,eu,h10',kz,kb,kB⟩:=fill6 h10 (.bool s1) (.slice A1 L1 C1) (.slice D1 M1 E1) (.bool s2) (.slice A2 L2 C2) (.slice D2 M2 E2) (by simp[noU])
   obtain⟨x0,x1,x2,x3,x4,x5⟩:=h10.q6
   have xf:=h10.frozen
   go_simp
   rw[←eu]
   replace q1:=q1.filled kz
   replace q2:=q2.filled kz
   replace q3:=q3.filled kz
   replace q4:=q4.filled kz
   replace hA:=kb _ _ _ hA (by omega)
   replace h7:=kb _ _ _ h7 (by omega)
   replace hR:=kb _ _ _ hR (by omega)
   replace h11:=kb _ _ _ h11 (by omega)
   replace hB:=kB _ _ (by omega) hB
   replace h10:=h10'
   clear h10' kz kb kB eu xf x0 x1 x2 x3 x4 x5
   refine hK.out _ _ ?_ fun hHeld=>?_
   ·exact⟨h7.cell 0,h7.cell 1,h7.cell 2,h7.cell 3,h7.cell 4,h7.cell 5,h7.cell 6,h7.cell 7,h7.cell 8,h7.cell 9,h7.cell 10,h7.cell 11⟩
   clear hK K
   try simp only[Act.put,lay]
   refine rd1 7 rfl fun K hK=>?_
   obtain⟨u1_8,eu,h11',kz,kb,kB⟩:=fill6 h11 (.bool s3) (.slice A3 L3 C3) (.slice D3 M3 E3) (.bool false) (.slice A4 L4 C4) (.slice D4 M4 E4) (by simp[noU])
   obtain⟨x0,x1,x2,x3,x4,x5⟩:=h11.q6
   have xf:=h11.frozen
   go_simp
   rw[←eu]
   replace q1:=q1.filled kz
   replace q2:=q2.filled kz
   replace q3:=q3.filled kz
   replace q4:=q4.filled kz
   replace hA:=kb _ _ _ hA (by omega)
   replace h7:=kb _ _ _ h7 (by omega)
   replace hR:=kb _ _ _ hR (by omega)
   replace h10:=kb _ _ _ h10 (by omega)
   replace hB:=kB _ _ (by omega) hB
   replace h11:=h11'
   clear h11' kz kb kB eu xf x0 x1 x2 x3 x4 x5
   refine hK.out _ _ ?_ fun hHeld=>?_
   ·exact⟨h7.cell 0,h7.cell 1,h7.cell 2,h7.cell 3,h7.cell 4,h7.cell 5,h7.cell 6,h7.cell 7,h7.cell 8,h7.cell 9,h7.cell 10,h7.cell 11⟩
   clear hK K
   try simp only[Act.put,lay]
   try dsimp only
   try simp only[Act.put,lay]
   refine wpAnyH_done (by kernel_rfl) ?_ _
   refine NoPanic.normal ?_
   go_wp2_with fail
   go_meet
   exact⟨XPA,XPB,rfl,rfl,q1,q2,q3,q4,hA,hR,h10,h11,hB,lXPA,lXPB,(by assumption),(by assumption),(by assumption),(by assumption),(by first | assumption | exact Ne.symm (by assumption))⟩
 obtain⟨XPA,XPB,rfl,rfl,q1,q2,q3,q4,hA,hR,h10,h11,hB,lXPA,lXPB,dXPA_hA,dXPA_hR,dXPB_hA,dXPB_hR,nXPA_XPB⟩:=hcut
 obtain⟨c24,c25,c26,c27,c28,c29⟩:=hA.q6
 obtain⟨c30,c31,c32,c33,c34,c35⟩:=hR.q6
 obtain⟨c36,c37,c38,c39,c40,c41⟩:=h10.q6
 obtain⟨c42,c43,c44,c45,c46,c47⟩:=h11.q6
 go_wp2_with fail
 refine (hRi _).mono ?_
 rintro e w3 ⟨rfl,b3⟩
 replace q1:=q1.b b3
 replace q2:=q2.b b3
 replace q3:=q3.b b3
 replace q4:=q4.b b3
 replace hA:=hA.b b3
 replace hR:=hR.b b3
 replace h10:=h10.b b3
 replace h11:=h11.b b3
 replace hB:=bOn hB b3
 clear c24 c25 c26 c27 c28 c29 c30 c31 c32 c33 c34 c35 c36 c37 c38 c39 c40 c41 c42 c43 c44 c45 c46 c47
 obtain⟨c48,c49,c50,c51,c52,c53⟩:=hA.q6
 obtain⟨c54,c55,c56,c57,c58,c59⟩:=hR.q6
 obtain⟨c60,c61,c62,c63,c64,c65⟩:=h10.q6
 obtain⟨c66,c67,c68,c69,c70,c71⟩:=h11.q6
 go_upto_if 50 with fail
 go_cut [10] (fun s10 wx=>∃(s20:Bool) (A20:Option Addr) (L20 C20:Nat) (D20:Option Addr) (M20 E20:Nat),s10= .pointer (some ⟨XPA,0,none⟩)∧Blk wx g 61 #[.int .i64 lr,.int .i64 b1,.int .i64 b2,.int .i64 eps,.int .i64 wd,.bool apart]∧Blk wx (g+1+1) 46 #[.bool false,.slice none 0 0,.slice none 0 0,.bool false,.slice none 0 0,.slice none 0 0]∧Blk wx XPA 46 #[.bool s1,.slice A1 L1 C1,.slice D1 M1 E1,.bool s2,.slice A2 L2 C2,.slice D2 M2 E2]∧IsQ wx (.agg #[.bool s1,.slice A1 L1 C1,.slice D1 M1 E1]) ra∧IsQ wx (.agg #[.bool s2,.slice A2 L2 C2,.slice D2 M2 E2]) rb∧IsQ wx (.agg #[.bool false,.slice A4 L4 C4,.slice D4 M4 E4]) rd∧Blk wx XPB 46 #[.bool s20,.slice A20 L20 C20,.slice D20 M20 E20,.bool false,.slice A4 L4 C4,.slice D4 M4 E4]∧IsQ wx (.agg #[.bool s20,.slice A20 L20 C20,.slice D20 M20 E20]) z∧Below w.heap.size w wx)
 case first=>
  cases s3
  case false=>
   have q3':IsQ w3 (.agg #[.bool false,.slice A3 L3 C3,.slice D3 M3 E3]) z:=by rw[HZ.out.2 rfl];exact q3
   go_wp2_with fail
   go_meet
   exact⟨_,_,_,_,_,_,_,rfl,hA,hR,h10,q1,q2,q4,h11,q3',hB⟩
  case true=>
   have HZ0:=Lib.hid (HZ.out.1 rfl)
   go_wp2_with fail
   refine (hO _).mono ?_
   rintro e w5 ⟨v20,rfl,q20,b5⟩
   replace q1:=q1.b b5
   replace q2:=q2.b b5
   replace q3:=q3.b b5
   replace q4:=q4.b b5
   replace hA:=hA.b b5
   replace hR:=hR.b b5
   replace h10:=h10.b b5
   replace h11:=h11.b b5
   replace hB:=bOn hB b5
   clear c48 c49 c50 c51 c52 c53 c54 c55 c56 c57 c58 c59 c60 c61 c62 c63 c64 c65 c66 c67 c68 c69 c70 c71
   obtain⟨c72,c73,c74,c75,c76,c77⟩:=hA.q6
   obtain⟨c78,c79,c80,c81,c82,c83⟩:=hR.q6
   obtain⟨c84,c85,c86,c87,c88,c89⟩:=h10.q6
   obtain⟨c90,c91,c92,c93,c94,c95⟩:=h11.q6
   obtain⟨s20,A20,L20,C20,D20,M20,E20,rfl,q20⟩:=q20.opn
   obtain⟨W6,eW,f1',f2',f3',f4'⟩:=fillHead h11 (.bool s20) (.slice A20 L20 C20) (.slice D20 M20 E20) (by simp[noU])
   have xf:=h11.frozen
   go_wp2_with fail
   rw[←eW]
   replace hA:=f3' _ _ _ hA (by omega)
   replace hR:=f3' _ _ _ hR (by omega)
   replace h10:=f3' _ _ _ h10 (by omega)
   replace q1:=q1.filled f2'
   replace q2:=q2.filled f2'
   replace q20:=q20.filled f2'
   replace q4:=q4.filled f2'
   replace hB:=f4' _ _ (by omega) hB
   go_meet
   exact⟨_,_,_,_,_,_,_,rfl,hA,hR,h10,q1,q2,q4,f1',by rw[HZ0.out];exact q20,hB⟩
 obtain⟨s20,A20,L20,C20,D20,M20,E20,rfl,hA,hR,h10,q1,q2,q4,h11,q20,hB⟩:=hcut
 obtain⟨c72,c73,c74,c75,c76,c77⟩:=hA.q6
 obtain⟨c78,c79,c80,c81,c82,c83⟩:=hR.q6
 obtain⟨c84,c85,c86,c87,c88,c89⟩:=h10.q6
 obtain⟨c90,c91,c92,c93,c94,c95⟩:=h11.q6
 go_wp2_with fail
 refine (hE _).mono ?_
 rintro e w6 ⟨v5,rfl,q5,b6⟩
 replace q1:=q1.b b6
 replace q2:=q2.b b6
 replace q4:=q4.b b6
 replace hA:=hA.b b6
 replace hR:=hR.b b6
 replace h10:=h10.b b6
 replace h11:=h11.b b6
 replace q20:=q20.b b6
 replace hB:=bOn hB b6
 clear c72 c73 c74 c75 c76 c77 c78 c79 c80 c81 c82 c83 c84 c85 c86 c87 c88 c89 c90 c91 c92 c93 c94 c95
 obtain⟨c96,c97,c98,c99,c100,c101⟩:=hA.q6
 obtain⟨c102,c103,c104,c105,c106,c107⟩:=hR.q6
 obtain⟨c108,c109,c110,c111,c112,c113⟩:=h10.q6
 obtain⟨c114,c115,c116,c117,c118,c119⟩:=h11.q6
 obtain⟨s5,A5,L5,C5,D5,M5,E5,rfl,q5⟩:=q5.opn
 obtain⟨X8,V8,h12,bV8,lX8,nX8,EV8⟩:=boxL hB 32 #[.bool s5,.slice A5 L5 C5,.slice D5 M5 E5]
 have dX8_hA:=nX8 _ hA.lt
 have dX8_hR:=nX8 _ hR.lt
 have dX8_h10:=nX8 _ h10.lt
 have dX8_h11:=nX8 _ h11.lt
 clear nX8
 go_upto_region 7 with fail
 rw[←EV8.out.1,←EV8.out.2]
 replace q1:=q1.b bV8
 replace q2:=q2.b bV8
 replace q4:=q4.b bV8
 replace hA:=hA.b bV8
 replace hR:=hR.b bV8
 replace h10:=h10.b bV8
 replace h11:=h11.b bV8
 replace q20:=q20.b bV8
 replace q5:=q5.b bV8
 replace hB:=bOn hB bV8
 clear c96 c97 c98 c99 c100 c101 c102 c103 c104 c105 c106 c107 c108 c109 c110 c111 c112 c113 c114 c115 c116 c117 c118 c119
 obtain⟨c120,c121,c122,c123,c124,c125⟩:=hA.q6
 obtain⟨c126,c127,c128,c129,c130,c131⟩:=hR.q6
 obtain⟨c132,c133,c134,c135,c136,c137⟩:=h10.q6
 obtain⟨c138,c139,c140,c141,c142,c143⟩:=h11.q6
 obtain⟨c144,c145,c146⟩:=h12.q3
 go_wp2_with fail
 refine (hL _).mono ?_
 rintro e w10 ⟨v6,rfl,q6,b10⟩
 replace q1:=q1.b b10
 replace q2:=q2.b b10
 replace q4:=q4.b b10
 replace hA:=hA.b b10
 replace hR:=hR.b b10
 replace h10:=h10.b b10
 replace h11:=h11.b b10
 replace q20:=q20.b b10
 replace q5:=q5.b b10
 replace h12:=h12.b b10
 replace hB:=bOn hB b10
 clear c120 c121 c122 c123 c124 c125 c126 c127 c128 c129 c130 c131 c132 c133 c134 c135 c136 c137 c138 c139 c140 c141 c142 c143 c144 c145 c146
 obtain⟨c147,c148,c149,c150,c151,c152⟩:=hA.q6
 obtain⟨c153,c154,c155,c156,c157,c158⟩:=hR.q6
 obtain⟨c159,c160,c161,c162,c163,c164⟩:=h10.q6
 obtain⟨c165,c166,c167,c168,c169,c170⟩:=h11.q6
 obtain⟨c171,c172,c173⟩:=h12.q3
 obtain⟨s6,A6,L6,C6,D6,M6,E6,rfl,q6⟩:=q6.opn
 obtain⟨X12,V12,h14,bV12,lX12,nX12,EV12⟩:=boxL hB 32 #[.bool s6,.slice A6 L6 C6,.slice D6 M6 E6]
 have dX12_hA:=nX12 _ hA.lt
 have dX12_hR:=nX12 _ hR.lt
 have dX12_h10:=nX12 _ h10.lt
 have dX12_h11:=nX12 _ h11.lt
 have dX12_h12:=nX12 _ h12.lt
 clear nX12
 go_upto_region 8 with fail
 rw[←EV12.out.1,←EV12.out.2]
 replace q1:=q1.b bV12
 replace q2:=q2.b bV12
 replace q4:=q4.b bV12
 replace hA:=hA.b bV12
 replace hR:=hR.b bV12
 replace h10:=h10.b bV12
 replace h11:=h11.b bV12
 replace q20:=q20.b bV12
 replace q5:=q5.b bV12
 replace h12:=h12.b bV12
 replace q6:=q6.b bV12
 replace hB:=bOn hB bV12
 clear c147 c148 c149 c150 c151 c152 c153 c154 c155 c156 c157 c158 c159 c160 c161 c162 c163 c164 c165 c166 c167 c168 c169 c170 c171 c172 c173
 obtain⟨c174,c175,c176,c177,c178,c179⟩:=hA.q6
 obtain⟨c180,c181,c182,c183,c184,c185⟩:=hR.q6
 obtain⟨c186,c187,c188,c189,c190,c191⟩:=h10.q6
 obtain⟨c192,c193,c194,c195,c196,c197⟩:=h11.q6
 obtain⟨c198,c199,c200⟩:=h12.q3
 obtain⟨c201,c202,c203⟩:=h14.q3
 clear c174 c175 c176 c177 c178 c179 c180 c181 c182 c183 c184 c185 c186 c187 c188 c189 c190 c191 c192 c193 c194 c195 c196 c197 c198 c199 c200 c201 c202 c203
 replace hB:=hB.drew
 replace q1:=q1.b (bdrew _)
 replace q2:=q2.b (bdrew _)
 replace q4:=q4.b (bdrew _)
 replace hA:=hA.drew
 replace hR:=hR.drew
 replace h10:=h10.drew
 replace h11:=h11.drew
 replace q20:=q20.b (bdrew _)
 replace q5:=q5.b (bdrew _)
 replace h12:=h12.drew
 replace q6:=q6.b (bdrew _)
 replace h14:=h14.drew
 refine wp_region_noPanic ?_
 refine wp_region_held_drew (S:=fun w'=>World.grownBy V12.drew w' (some (V12.drew.heap.size))) (by kernel_rfl) (grown_of (Below.refl _ _) _) (fun hHeld=>?_)
 obtain⟨wd8_2,hwd⟩:∃q,q=V12.drew:=⟨_,rfl⟩
 rw[←hwd] at hB q1 q2 q4 hA hR h10 h11 q20 q5 h12 q6 h14 hHeld ⊢
 clear hwd
 refine tkH 0 rfl (v:=?v5) ?h5 ?r5
 case h5=>
  intro w hSw
  (try dsimp only at hSw)
  obtain⟨yh10_0,yh10_1,yh10_2,yh10_3,yh10_4,yh10_5⟩:=(Blk.grownT h10 hSw (fun e=>absurd (Option.some.inj e) (Nat.ne_of_lt h10.lt))).q6
  obtain⟨yhA_0,yhA_1,yhA_2,yhA_3,yhA_4,yhA_5⟩:=(Blk.grownT hA hSw (fun e=>absurd (Option.some.inj e) (Nat.ne_of_lt hA.lt))).q6
  go_simp
  try (with_reducible rfl)
 refine tkA 1 rfl ?_
 refine tkH 2 rfl (v:=?v7) ?h7 ?r7
 case h7=>
  intro w hSw
  (try dsimp only at hSw)
  obtain⟨yh10_0,yh10_1,yh10_2,yh10_3,yh10_4,yh10_5⟩:=(Blk.grownT h10 hSw (fun e=>absurd (Option.some.inj e) (Nat.ne_of_lt h10.lt))).q6
  obtain⟨yhA_0,yhA_1,yhA_2,yhA_3,yhA_4,yhA_5⟩:=(Blk.grownT hA hSw (fun e=>absurd (Option.some.inj e) (Nat.ne_of_lt hA.lt))).q6
  go_simp
  try (with_reducible rfl)
 refine tkA 3 rfl ?_
 refine tkA 4 rfl ?_
 try simp only[Act.put,lay]
 refine wpAnyH_facts [(5,73),(6,74),(10,16)] [(7,67),(8,75),(9,76)] [9] (pick [(5,fun (v:Value) (w:World)=>∃u5,u5=v∧IsS w u5 l1 l1),(6,fun (v:Value) (w:World)=>∃u6,.tuple #[u6,.int .i64 0]=v∧IsS w u6 xl xh),(7,fun (v:Value) (w:World)=>∃u6,.tuple #[u6,.int .i64 0]=v∧IsS w u6 xl xh),(8,fun (v:Value) (w:World)=>∃u6,u6=v∧IsS w u6 xl xh),(9,fun (v:Value) (w:World)=>.int .i64 0=v),(10,fun (v:Value) (w:World)=>∃XPC,.pointer (some ⟨XPC,0,none⟩)=v∧wd8_2.heap.size≤XPC∧Blk w XPC 46 #[.bool false,.slice none 0 0,.slice none 0 0,.bool false,.slice none 0 0,.slice none 0 0])]) #[true,true,true,true,true,true,true,true,true,true,true,false,false] (fun _ h=>grown_of h _) (pick_pers (show PersAll _ from ⟨fun _ _ _ b ⟨u5,e,g5⟩=>⟨u5,e,g5.below b⟩,fun _ _ _ b ⟨u6,e,g6⟩=>⟨u6,e,g6.below b⟩,fun _ _ _ b ⟨u6,e,g6⟩=>⟨u6,e,g6.below b⟩,fun _ _ _ b ⟨u6,e,g6⟩=>⟨u6,e,g6.below b⟩,fun _ _ _ _ e=>e,fun _ _ _ b ⟨X,e,l,h⟩=>⟨X,e,l,h.below b h.lt⟩,trivial⟩)) (hord_of (by kernel_rfl)) (by kernel_rfl) (by kernel_rfl) (by kernel_rfl) (by kernel_rfl) (fun _ _ _ _ _ h=>h) ?ops2 ?pur2 ?done2 (Below.refl _ _) (Nat.le_of_ble_eq_true (by kernel_rfl))
 case ops2=>
  refine .cons rfl (fun a w zS K hK=>?_) ?_
  ·have e70:=zS.2.1 70 _ (by kernel_rfl) rfl
   have e71:=zS.2.1 71 _ (by kernel_rfl) rfl
   have e72:=zS.2.1 72 _ (by kernel_rfl) rfl
   go_simp
   refine (hK1 _).mono ?_
   rintro e w' ⟨u5,rfl,g5,b⟩
   exact hK _ _ ⟨u5,rfl,g5⟩ b
  refine .cons rfl (fun a w zS K hK=>?_) ?_
  ·have q1:=q1.below zS.1
   have q2:=q2.below zS.1
   have e68:=zS.2.1 68 _ (by kernel_rfl) rfl
   obtain⟨v73,e73,u5,rfl,g5⟩:=zS.2.2 5 73 (by kernel_rfl)
   go_simp
   refine (hDv1 _ _ _ ⟨_,_,_,_,_,_,rfl,q1,q2⟩ g5).mono ?_
   rintro e w' ⟨u6,rfl,g6,b⟩
   exact hK _ _ ⟨u6,rfl,g6⟩ b
  refine .cons rfl (fun a w zS K hK=>?_) ?_
  ·go_simp
   exact hK _ _ ⟨_,rfl,zS.1.size,Blk.new w _ _⟩ ((Below.refl _ w).alloc (Nat.le_refl _) _)
  exact .nil
 case pur2=>
  refine .cons rfl (fun a w zS=>?_) ?_
  ·obtain⟨v74,e74,u6,rfl,g6⟩:=zS.2.2 6 74 (by kernel_rfl)
   exact⟨_,fun w'=>by go_simp<;>rfl,⟨u6,rfl,g6⟩⟩
  refine .cons rfl (fun a w zS=>?_) ?_
  ·obtain⟨v67,e67,u6,rfl,g6⟩:=zS.2.2 7 67 (by kernel_rfl)
   exact⟨_,fun w'=>by go_simp<;>rfl,⟨u6,rfl,g6⟩⟩
  refine .cons rfl (fun a w zS=>?_) ?_
  ·obtain⟨v67,e67,u6,rfl,g6⟩:=zS.2.2 7 67 (by kernel_rfl)
   exact⟨_,fun w'=>by go_simp<;>rfl,rfl⟩
  exact .nil
 case done2=>
  intro fuel a wr8_2 zf zS zdf zsz zs zd
  obtain⟨fuel,rfl⟩:∃n,fuel=n+2:=⟨fuel - 2,by have h:2≤fuel:=Nat.le_trans (Nat.le_of_ble_eq_true (by kernel_rfl)) zf;omega⟩
  clear zf
  replace q1:=q1.b zS
  replace q2:=q2.b zS
  replace q4:=q4.b zS
  have nhA:=hA.lt
  replace hA:=hA.below zS nhA
  have nhR:=hR.lt
  replace hR:=hR.below zS nhR
  have nh10:=h10.lt
  replace h10:=h10.below zS nh10
  have nh11:=h11.lt
  replace h11:=h11.below zS nh11
  replace q20:=q20.b zS
  replace q5:=q5.b zS
  have nh12:=h12.lt
  replace h12:=h12.below zS nh12
  replace q6:=q6.b zS
  have nh14:=h14.lt
  replace h14:=h14.below zS nh14
  obtain⟨v73_,e73_,u5,rfl,g5⟩:=zd 5 73 (by kernel_rfl)
  obtain⟨v74_,e74_,u6_6,rfl, -⟩:=zd 6 74 (by kernel_rfl)
  obtain⟨v67_,e67_,u6_7,rfl, -⟩:=zd 7 67 (by kernel_rfl)
  obtain⟨v75_,e75_,u6,rfl,g6⟩:=zd 8 75 (by kernel_rfl)
  obtain⟨v76_,e76_,rfl⟩:=zd 9 76 (by kernel_rfl)
  obtain⟨v16_,e16_,XPC,rfl,lXPC,h16⟩:=zd 10 16 (by kernel_rfl)
  obtain rfl:=act_of [(73,u5),(74,.tuple #[u6_6,.int .i64 0]),(16,.pointer (some ⟨XPC,0,none⟩)),(67,.tuple #[u6_7,.int .i64 0]),(75,u6),(76,.int .i64 0)] ⟨e73_,e74_,e16_,e67_,e75_,e76_,trivial⟩ zdf zsz (fun s h=>zs s h)
  simp only[putAll,List.set_cons_zero,List.set_cons_succ]
  clear zdf zsz zs zd e73_ e74_ e16_ e67_ e75_ e76_
  have kXPC:w.heap.size≤XPC:=Nat.le_trans hB.size lXPC
  have dXPC_hA:g≠XPC:=Nat.ne_of_lt (Nat.lt_of_lt_of_le nhA lXPC)
  have dXPC_hR:g+1+1≠XPC:=Nat.ne_of_lt (Nat.lt_of_lt_of_le nhR lXPC)
  have dXPC_h10:XPA≠XPC:=Nat.ne_of_lt (Nat.lt_of_lt_of_le nh10 lXPC)
  have dXPC_h11:XPB≠XPC:=Nat.ne_of_lt (Nat.lt_of_lt_of_le nh11 lXPC)
  have dXPC_h12:X8≠XPC:=Nat.ne_of_lt (Nat.lt_of_lt_of_le nh12 lXPC)
  have dXPC_h14:X12≠XPC:=Nat.ne_of_lt (Nat.lt_of_lt_of_le nh14 lXPC)
  replace hB:=bOn hB zS
  clear nhA nhR nh10 nh11 nh12 nh14
  obtain⟨s9,A9,L9,C9,D9,M9,E9,s10,A10,L10,C10,D10,M10,E10,rfl,q9,q10⟩:=g6.opn
  clear g5
  clear q1
  clear q2
  clear h10
  have zG:=grown_of zS (some (wd8_2.heap.size))
  refine rd1 11 rfl fun K hK=>?_
  obtain⟨ws8_11,eu,h16',kz,kb,kB⟩:=fill6 h16 (.bool s9) (.slice A9 L9 C9) (.slice D9 M9 E9) (.bool s10) (.slice A10 L10 C10) (.slice D10 M10 E10) (by simp[noU])
  obtain⟨x0,x1,x2,x3,x4,x5⟩:=h16.q6
  have xf:=h16.frozen
  replace zG:=(grown_set (grown_set (grown_set (grown_set (grown_set (grown_set zG (p:=⟨XPC,0,none⟩) (.inr (by assumption)) (.bool s9)) (p:=⟨XPC,1,none⟩) (.inr (by assumption)) (.slice A9 L9 C9)) (p:=⟨XPC,2,none⟩) (.inr (by assumption)) (.slice D9 M9 E9)) (p:=⟨XPC,3,none⟩) (.inr (by assumption)) (.bool s10)) (p:=⟨XPC,4,none⟩) (.inr (by assumption)) (.slice A10 L10 C10)) (p:=⟨XPC,5,none⟩) (.inr (by assumption)) (.slice D10 M10 E10))
  rw[←eu] at zG
  go_simp
  rw[←eu]
  replace q4:=q4.filled kz
  replace hA:=kb _ _ _ hA (by first | assumption | exact Ne.symm (by assumption) | omega)
  replace hR:=kb _ _ _ hR (by first | assumption | exact Ne.symm (by assumption) | omega)
  replace h11:=kb _ _ _ h11 (by first | assumption | exact Ne.symm (by assumption) | omega)
  replace q20:=q20.filled kz
  replace q5:=q5.filled kz
  replace h12:=kb _ _ _ h12 (by first | assumption | exact Ne.symm (by assumption) | omega)
  replace q6:=q6.filled kz
  replace h14:=kb _ _ _ h14 (by first | assumption | exact Ne.symm (by assumption) | omega)
  replace q9:=q9.filled kz
  replace q10:=q10.filled kz
  replace hB:=kB _ _ (by omega) hB
  replace h16:=h16'
  clear h16' kz kb kB eu xf x0 x1 x2 x3 x4 x5
  refine hK.out _ _ zG (fun hHeld=>?_)
  clear hK K
  refine tkH 12 rfl (v:=?v10) ?h10 ?r10 (hS:=zG)
  case h10=>intro w s;go_simp;try (with_reducible rfl)
  try simp only[Act.put,lay]
  try dsimp only
  try simp only[Act.put,lay]
  refine wpAnyH_done (by kernel_rfl) ?_ _
  refine NoPanic.normal ?_
  clear zG
  obtain⟨c204,c205,c206,c207,c208,c209⟩:=hA.q6
  obtain⟨c210,c211,c212,c213,c214,c215⟩:=hR.q6
  obtain⟨c216,c217,c218,c219,c220,c221⟩:=h11.q6
  obtain⟨c222,c223,c224⟩:=h12.q3
  obtain⟨c225,c226,c227⟩:=h14.q3
  obtain⟨c228,c229,c230,c231,c232,c233⟩:=h16.q6
  go_upto_region 9 with fail
  clear c204 c205 c206 c207 c208 c209 c210 c211 c212 c213 c214 c215 c216 c217 c218 c219 c220 c221 c222 c223 c224 c225 c226 c227 c228 c229 c230 c231 c232 c233
  replace hB:=hB.drew
  replace q4:=q4.b (bdrew _)
  replace hA:=hA.drew
  replace hR:=hR.drew
  replace h11:=h11.drew
  replace q20:=q20.b (bdrew _)
  replace q5:=q5.b (bdrew _)
  replace h12:=h12.drew
  replace q6:=q6.b (bdrew _)
  replace h14:=h14.drew
  replace h16:=h16.drew
  replace q9:=q9.b (bdrew _)
  replace q10:=q10.b (bdrew _)
  refine wp_region_noPanic ?_
  refine wp_region_held_drew (S:=fun w'=>World.grownBy ws8_11.drew w' (some (ws8_11.drew.heap.size))) (by kernel_rfl) (grown_of (Below.refl _ _) _) (fun hHeld=>?_)
  obtain⟨wd9_3,hwd⟩:∃q,q=ws8_11.drew:=⟨_,rfl⟩
  rw[←hwd] at hB q4 hA hR h11 q20 q5 h12 q6 h14 h16 q9 q10 hHeld ⊢
  clear hwd
  refine tkH 0 rfl (v:=?v11) ?h11 ?r11
  case h11=>
   intro w hSw
   (try dsimp only at hSw)
   obtain⟨yh11_0,yh11_1,yh11_2,yh11_3,yh11_4,yh11_5⟩:=(Blk.grownT h11 hSw (fun e=>absurd (Option.some.inj e) (Nat.ne_of_lt h11.lt))).q6
   obtain⟨yhA_0,yhA_1,yhA_2,yhA_3,yhA_4,yhA_5⟩:=(Blk.grownT hA hSw (fun e=>absurd (Option.some.inj e) (Nat.ne_of_lt hA.lt))).q6
   go_simp
   try (with_reducible rfl)
  refine tkA 1 rfl ?_
  refine tkH 2 rfl (v:=?v13) ?h13 ?r13
  case h13=>
   intro w hSw
   (try dsimp only at hSw)
   obtain⟨yh11_0,yh11_1,yh11_2,yh11_3,yh11_4,yh11_5⟩:=(Blk.grownT h11 hSw (fun e=>absurd (Option.some.inj e) (Nat.ne_of_lt h11.lt))).q6
   obtain⟨yhA_0,yhA_1,yhA_2,yhA_3,yhA_4,yhA_5⟩:=(Blk.grownT hA hSw (fun e=>absurd (Option.some.inj e) (Nat.ne_of_lt hA.lt))).q6
   go_simp
   try (with_reducible rfl)
  refine tkA 3 rfl ?_
  refine tkA 4 rfl ?_
  try simp only[Act.put,lay]
  refine wpAnyH_facts [(5,83),(6,84),(10,18)] [(7,77),(8,85),(9,86)] [9] (pick [(5,fun (v:Value) (w:World)=>∃u5,u5=v∧IsS w u5 l2 l2),(6,fun (v:Value) (w:World)=>∃u6,.tuple #[u6,.int .i64 0]=v∧IsS w u6 yl yh),(7,fun (v:Value) (w:World)=>∃u6,.tuple #[u6,.int .i64 0]=v∧IsS w u6 yl yh),(8,fun (v:Value) (w:World)=>∃u6,u6=v∧IsS w u6 yl yh),(9,fun (v:Value) (w:World)=>.int .i64 0=v),(10,fun (v:Value) (w:World)=>∃XPD,.pointer (some ⟨XPD,0,none⟩)=v∧wd9_3.heap.size≤XPD∧Blk w XPD 46 #[.bool false,.slice none 0 0,.slice none 0 0,.bool false,.slice none 0 0,.slice none 0 0])]) #[true,true,true,true,true,true,true,true,true,true,true,false,false] (fun _ h=>grown_of h _) (pick_pers (show PersAll _ from ⟨fun _ _ _ b ⟨u5,e,g5⟩=>⟨u5,e,g5.below b⟩,fun _ _ _ b ⟨u6,e,g6⟩=>⟨u6,e,g6.below b⟩,fun _ _ _ b ⟨u6,e,g6⟩=>⟨u6,e,g6.below b⟩,fun _ _ _ b ⟨u6,e,g6⟩=>⟨u6,e,g6.below b⟩,fun _ _ _ _ e=>e,fun _ _ _ b ⟨X,e,l,h⟩=>⟨X,e,l,h.below b h.lt⟩,trivial⟩)) (hord_of (by kernel_rfl)) (by kernel_rfl) (by kernel_rfl) (by kernel_rfl) (by kernel_rfl) (fun _ _ _ _ _ h=>h) ?ops3 ?pur3 ?done3 (Below.refl _ _) (Nat.le_of_ble_eq_true (by kernel_rfl))
  case ops3=>
   refine .cons rfl (fun a w zS K hK=>?_) ?_
   ·have e80:=zS.2.1 80 _ (by kernel_rfl) rfl
    have e81:=zS.2.1 81 _ (by kernel_rfl) rfl
    have e82:=zS.2.1 82 _ (by kernel_rfl) rfl
    go_simp
    refine (hK2 _).mono ?_
    rintro e w' ⟨u5,rfl,g5,b⟩
    exact hK _ _ ⟨u5,rfl,g5⟩ b
   refine .cons rfl (fun a w zS K hK=>?_) ?_
   ·have q4:=q4.below zS.1
    have q20:=q20.below zS.1
    have e78:=zS.2.1 78 _ (by kernel_rfl) rfl
    obtain⟨v83,e83,u5,rfl,g5⟩:=zS.2.2 5 83 (by kernel_rfl)
    go_simp
    refine (hDv2 _ _ _ ⟨_,_,_,_,_,_,rfl,q20,q4⟩ g5).mono ?_
    rintro e w' ⟨u6,rfl,g6,b⟩
    exact hK _ _ ⟨u6,rfl,g6⟩ b
   refine .cons rfl (fun a w zS K hK=>?_) ?_
   ·go_simp
    exact hK _ _ ⟨_,rfl,zS.1.size,Blk.new w _ _⟩ ((Below.refl _ w).alloc (Nat.le_refl _) _)
   exact .nil
  case pur3=>
   refine .cons rfl (fun a w zS=>?_) ?_
   ·obtain⟨v84,e84,u6,rfl,g6⟩:=zS.2.2 6 84 (by kernel_rfl)
    exact⟨_,fun w'=>by go_simp<;>rfl,⟨u6,rfl,g6⟩⟩
   refine .cons rfl (fun a w zS=>?_) ?_
   ·obtain⟨v77,e77,u6,rfl,g6⟩:=zS.2.2 7 77 (by kernel_rfl)
    exact⟨_,fun w'=>by go_simp<;>rfl,⟨u6,rfl,g6⟩⟩
   refine .cons rfl (fun a w zS=>?_) ?_
   ·obtain⟨v77,e77,u6,rfl,g6⟩:=zS.2.2 7 77 (by kernel_rfl)
    exact⟨_,fun w'=>by go_simp<;>rfl,rfl⟩
   exact .nil
  case done3=>
   intro fuel a wr9_3 zf zS zdf zsz zs zd
   obtain⟨fuel,rfl⟩:∃n,fuel=n+2:=⟨fuel - 2,by have h:2≤fuel:=Nat.le_trans (Nat.le_of_ble_eq_true (by kernel_rfl)) zf;omega⟩
   clear zf
   replace q4:=q4.b zS
   have nhA:=hA.lt
   replace hA:=hA.below zS nhA
   have nhR:=hR.lt
   replace hR:=hR.below zS nhR
   have nh11:=h11.lt
   replace h11:=h11.below zS nh11
   replace q20:=q20.b zS
   replace q5:=q5.b zS
   have nh12:=h12.lt
   replace h12:=h12.below zS nh12
   replace q6:=q6.b zS
   have nh14:=h14.lt
   replace h14:=h14.below zS nh14
   have nh16:=h16.lt
   replace h16:=h16.below zS nh16
   replace q9:=q9.b zS
   replace q10:=q10.b zS
   obtain⟨v83_,e83_,u5,rfl,g5⟩:=zd 5 83 (by kernel_rfl)
   obtain⟨v84_,e84_,u6_6,rfl, -⟩:=zd 6 84 (by kernel_rfl)
   obtain⟨v77_,e77_,u6_7,rfl, -⟩:=zd 7 77 (by kernel_rfl)
   obtain⟨v85_,e85_,u6,rfl,g6⟩:=zd 8 85 (by kernel_rfl)
   obtain⟨v86_,e86_,rfl⟩:=zd 9 86 (by kernel_rfl)
   obtain⟨v18_,e18_,XPD,rfl,lXPD,h18⟩:=zd 10 18 (by kernel_rfl)
   obtain rfl:=act_of [(83,u5),(84,.tuple #[u6_6,.int .i64 0]),(18,.pointer (some ⟨XPD,0,none⟩)),(77,.tuple #[u6_7,.int .i64 0]),(85,u6),(86,.int .i64 0)] ⟨e83_,e84_,e18_,e77_,e85_,e86_,trivial⟩ zdf zsz (fun s h=>zs s h)
   simp only[putAll,List.set_cons_zero,List.set_cons_succ]
   clear zdf zsz zs zd e83_ e84_ e18_ e77_ e85_ e86_
   have kXPD:w.heap.size≤XPD:=Nat.le_trans hB.size lXPD
   have dXPD_hA:g≠XPD:=Nat.ne_of_lt (Nat.lt_of_lt_of_le nhA lXPD)
   have dXPD_hR:g+1+1≠XPD:=Nat.ne_of_lt (Nat.lt_of_lt_of_le nhR lXPD)
   have dXPD_h11:XPB≠XPD:=Nat.ne_of_lt (Nat.lt_of_lt_of_le nh11 lXPD)
   have dXPD_h12:X8≠XPD:=Nat.ne_of_lt (Nat.lt_of_lt_of_le nh12 lXPD)
   have dXPD_h14:X12≠XPD:=Nat.ne_of_lt (Nat.lt_of_lt_of_le nh14 lXPD)
   have dXPD_h16:XPC≠XPD:=Nat.ne_of_lt (Nat.lt_of_lt_of_le nh16 lXPD)
   replace hB:=bOn hB zS
   clear nhA nhR nh11 nh12 nh14 nh16
   obtain⟨s11,A11,L11,C11,D11,M11,E11,s12,A12,L12,C12,D12,M12,E12,rfl,q11,q12⟩:=g6.opn
   clear g5
   clear q20
   clear q4
   clear h11
   have zG:=grown_of zS (some (wd9_3.heap.size))
   refine rd1 11 rfl fun K hK=>?_
   obtain⟨ws9_11,eu,h18',kz,kb,kB⟩:=fill6 h18 (.bool s11) (.slice A11 L11 C11) (.slice D11 M11 E11) (.bool s12) (.slice A12 L12 C12) (.slice D12 M12 E12) (by simp[noU])
   obtain⟨x0,x1,x2,x3,x4,x5⟩:=h18.q6
   have xf:=h18.frozen
   replace zG:=(grown_set (grown_set (grown_set (grown_set (grown_set (grown_set zG (p:=⟨XPD,0,none⟩) (.inr (by assumption)) (.bool s11)) (p:=⟨XPD,1,none⟩) (.inr (by assumption)) (.slice A11 L11 C11)) (p:=⟨XPD,2,none⟩) (.inr (by assumption)) (.slice D11 M11 E11)) (p:=⟨XPD,3,none⟩) (.inr (by assumption)) (.bool s12)) (p:=⟨XPD,4,none⟩) (.inr (by assumption)) (.slice A12 L12 C12)) (p:=⟨XPD,5,none⟩) (.inr (by assumption)) (.slice D12 M12 E12))
   rw[←eu] at zG
   go_simp
   rw[←eu]
   replace hA:=kb _ _ _ hA (by first | assumption | exact Ne.symm (by assumption) | omega)
   replace hR:=kb _ _ _ hR (by first | assumption | exact Ne.symm (by assumption) | omega)
   replace q5:=q5.filled kz
   replace h12:=kb _ _ _ h12 (by first | assumption | exact Ne.symm (by assumption) | omega)
   replace q6:=q6.filled kz
   replace h14:=kb _ _ _ h14 (by first | assumption | exact Ne.symm (by assumption) | omega)
   replace h16:=kb _ _ _ h16 (by first | assumption | exact Ne.symm (by assumption) | omega)
   replace q9:=q9.filled kz
   replace q10:=q10.filled kz
   replace q11:=q11.filled kz
   replace q12:=q12.filled kz
   replace hB:=kB _ _ (by omega) hB
   replace h18:=h18'
   clear h18' kz kb kB eu xf x0 x1 x2 x3 x4 x5
   refine hK.out _ _ zG (fun hHeld=>?_)
   clear hK K
   refine tkH 12 rfl (v:=?v16) ?h16 ?r16 (hS:=zG)
   case h16=>intro w s;go_simp;try (with_reducible rfl)
   try simp only[Act.put,lay]
   try dsimp only
   try simp only[Act.put,lay]
   refine wpAnyH_done (by kernel_rfl) ?_ _
   refine NoPanic.normal ?_
   clear zG
   obtain⟨c234,c235,c236,c237,c238,c239⟩:=hA.q6
   obtain⟨c240,c241,c242,c243,c244,c245⟩:=hR.q6
   obtain⟨c246,c247,c248⟩:=h12.q3
   obtain⟨c249,c250,c251⟩:=h14.q3
   obtain⟨c252,c253,c254,c255,c256,c257⟩:=h16.q6
   obtain⟨c258,c259,c260,c261,c262,c263⟩:=h18.q6
   go_wp2_with fail
   refine (hSq _ _ ⟨_,_,_,_,_,_,rfl,q11,q12⟩).mono ?_
   rintro e w18 ⟨v13,rfl,h13,b18⟩
   replace hA:=hA.b b18
   replace hR:=hR.b b18
   replace q5:=q5.b b18
   replace h12:=h12.b b18
   replace q6:=q6.b b18
   replace h14:=h14.b b18
   replace h16:=h16.b b18
   replace q9:=q9.b b18
   replace q10:=q10.b b18
   replace h18:=h18.b b18
   replace q11:=q11.b b18
   replace q12:=q12.b b18
   replace hB:=bOn hB b18
   clear c234 c235 c236 c237 c238 c239 c240 c241 c242 c243 c244 c245 c246 c247 c248 c249 c250 c251 c252 c253 c254 c255 c256 c257 c258 c259 c260 c261 c262 c263
   obtain⟨c264,c265,c266,c267,c268,c269⟩:=hA.q6
   obtain⟨c270,c271,c272,c273,c274,c275⟩:=hR.q6
   obtain⟨c276,c277,c278⟩:=h12.q3
   obtain⟨c279,c280,c281⟩:=h14.q3
   obtain⟨c282,c283,c284,c285,c286,c287⟩:=h16.q6
   obtain⟨c288,c289,c290,c291,c292,c293⟩:=h18.q6
   obtain⟨s13,A13,L13,C13,D13,M13,E13,s14,A14,L14,C14,D14,M14,E14,rfl,q13,q14⟩:=h13.opn
   obtain⟨X20,V20,h20,bV20,lX20,nX20,EV20⟩:=boxL hB 46 #[.bool s13,.slice A13 L13 C13,.slice D13 M13 E13,.bool s14,.slice A14 L14 C14,.slice D14 M14 E14]
   have dX20_hA:=nX20 _ hA.lt
   have dX20_hR:=nX20 _ hR.lt
   have dX20_h12:=nX20 _ h12.lt
   have dX20_h14:=nX20 _ h14.lt
   have dX20_h16:=nX20 _ h16.lt
   clear nX20
   go_upto_region 11 with fail
   rw[←EV20.out.1,←EV20.out.2]
   replace hA:=hA.b bV20
   replace hR:=hR.b bV20
   replace q5:=q5.b bV20
   replace h12:=h12.b bV20
   replace q6:=q6.b bV20
   replace h14:=h14.b bV20
   replace h16:=h16.b bV20
   replace q9:=q9.b bV20
   replace q10:=q10.b bV20
   replace q13:=q13.b bV20
   replace q14:=q14.b bV20
   replace hB:=bOn hB bV20
   clear c264 c265 c266 c267 c268 c269 c270 c271 c272 c273 c274 c275 c276 c277 c278 c279 c280 c281 c282 c283 c284 c285 c286 c287 c288 c289 c290 c291 c292 c293
   obtain⟨c294,c295,c296,c297,c298,c299⟩:=hA.q6
   obtain⟨c300,c301,c302,c303,c304,c305⟩:=hR.q6
   obtain⟨c306,c307,c308⟩:=h12.q3
   obtain⟨c309,c310,c311⟩:=h14.q3
   obtain⟨c312,c313,c314,c315,c316,c317⟩:=h16.q6
   obtain⟨c318,c319,c320,c321,c322,c323⟩:=h20.q6
   clear c294 c295 c296 c297 c298 c299 c300 c301 c302 c303 c304 c305 c306 c307 c308 c309 c310 c311 c312 c313 c314 c315 c316 c317 c318 c319 c320 c321 c322 c323
   replace hB:=hB.drew
   replace hA:=hA.drew
   replace hR:=hR.drew
   replace q5:=q5.b (bdrew _)
   replace h12:=h12.drew
   replace q6:=q6.b (bdrew _)
   replace h14:=h14.drew
   replace h16:=h16.drew
   replace q9:=q9.b (bdrew _)
   replace q10:=q10.b (bdrew _)
   replace q13:=q13.b (bdrew _)
   replace q14:=q14.b (bdrew _)
   replace h20:=h20.drew
   refine wp_region_noPanic ?_
   refine wp_region_held_drew (S:=fun w'=>World.grownBy V20.drew w' (some (V20.drew.heap.size))) (by kernel_rfl) (grown_of (Below.refl _ _) _) (fun hHeld=>?_)
   obtain⟨wd11_4,hwd⟩:∃q,q=V20.drew:=⟨_,rfl⟩
   rw[←hwd] at hB hA hR q5 h12 q6 h14 h16 q9 q10 q13 q14 h20 hHeld ⊢
   clear hwd
   refine tkH 0 rfl (v:=?v17) ?h17 ?r17
   case h17=>
    intro w hSw
    (try dsimp only at hSw)
    obtain⟨yh16_0,yh16_1,yh16_2,yh16_3,yh16_4,yh16_5⟩:=(Blk.grownT h16 hSw (fun e=>absurd (Option.some.inj e) (Nat.ne_of_lt h16.lt))).q6
    obtain⟨yh20_0,yh20_1,yh20_2,yh20_3,yh20_4,yh20_5⟩:=(Blk.grownT h20 hSw (fun e=>absurd (Option.some.inj e) (Nat.ne_of_lt h20.lt))).q6
    obtain⟨yh12_0,yh12_1,yh12_2⟩:=(Blk.grownT h12 hSw (fun e=>absurd (Option.some.inj e) (Nat.ne_of_lt h12.lt))).q3
    go_simp
    try (with_reducible rfl)
   refine tkH 1 rfl (v:=?v18) ?h18 ?r18
   case h18=>
    intro w hSw
    (try dsimp only at hSw)
    obtain⟨yh16_0,yh16_1,yh16_2,yh16_3,yh16_4,yh16_5⟩:=(Blk.grownT h16 hSw (fun e=>absurd (Option.some.inj e) (Nat.ne_of_lt h16.lt))).q6
    obtain⟨yh20_0,yh20_1,yh20_2,yh20_3,yh20_4,yh20_5⟩:=(Blk.grownT h20 hSw (fun e=>absurd (Option.some.inj e) (Nat.ne_of_lt h20.lt))).q6
    obtain⟨yh12_0,yh12_1,yh12_2⟩:=(Blk.grownT h12 hSw (fun e=>absurd (Option.some.inj e) (Nat.ne_of_lt h12.lt))).q3
    go_simp
    try (with_reducible rfl)
   refine tkH 2 rfl (v:=?v19) ?h19 ?r19
   case h19=>
    intro w hSw
    (try dsimp only at hSw)
    obtain⟨yh16_0,yh16_1,yh16_2,yh16_3,yh16_4,yh16_5⟩:=(Blk.grownT h16 hSw (fun e=>absurd (Option.some.inj e) (Nat.ne_of_lt h16.lt))).q6
    obtain⟨yh20_0,yh20_1,yh20_2,yh20_3,yh20_4,yh20_5⟩:=(Blk.grownT h20 hSw (fun e=>absurd (Option.some.inj e) (Nat.ne_of_lt h20.lt))).q6
    obtain⟨yh12_0,yh12_1,yh12_2⟩:=(Blk.grownT h12 hSw (fun e=>absurd (Option.some.inj e) (Nat.ne_of_lt h12.lt))).q3
    go_simp
    try (with_reducible rfl)
   try simp only[Act.put,lay]
   refine wpAnyH_facts [(3,96),(4,97),(5,98),(9,22)] [(6,92),(7,99),(8,100)] [8] (pick [(3,fun (v:Value) (w:World)=>∃u3,u3=v∧IsS w u3 re re),(4,fun (v:Value) (w:World)=>∃u4,u4=v∧IsS w u4 dl dh),(5,fun (v:Value) (w:World)=>∃u6,.tuple #[u6,.int .i64 0]=v∧IsS w u6 ul uh),(6,fun (v:Value) (w:World)=>∃u6,.tuple #[u6,.int .i64 0]=v∧IsS w u6 ul uh),(7,fun (v:Value) (w:World)=>∃u6,u6=v∧IsS w u6 ul uh),(8,fun (v:Value) (w:World)=>.int .i64 0=v),(9,fun (v:Value) (w:World)=>∃XPE,.pointer (some ⟨XPE,0,none⟩)=v∧wd11_4.heap.size≤XPE∧Blk w XPE 46 #[.bool false,.slice none 0 0,.slice none 0 0,.bool false,.slice none 0 0,.slice none 0 0])]) #[true,true,true,true,true,true,true,true,true,true,false,false] (fun _ h=>grown_of h _) (pick_pers (show PersAll _ from ⟨fun _ _ _ b ⟨u3,e,g3⟩=>⟨u3,e,g3.below b⟩,fun _ _ _ b ⟨u4,e,g4⟩=>⟨u4,e,g4.below b⟩,fun _ _ _ b ⟨u6,e,g6⟩=>⟨u6,e,g6.below b⟩,fun _ _ _ b ⟨u6,e,g6⟩=>⟨u6,e,g6.below b⟩,fun _ _ _ b ⟨u6,e,g6⟩=>⟨u6,e,g6.below b⟩,fun _ _ _ _ e=>e,fun _ _ _ b ⟨X,e,l,h⟩=>⟨X,e,l,h.below b h.lt⟩,trivial⟩)) (hord_of (by kernel_rfl)) (by kernel_rfl) (by kernel_rfl) (by kernel_rfl) (by kernel_rfl) (fun _ _ _ _ _ h=>h) ?ops4 ?pur4 ?done4 (Below.refl _ _) (Nat.le_of_ble_eq_true (by kernel_rfl))
   case ops4=>
    refine .cons rfl (fun a w zS K hK=>?_) ?_
    ·have q5:=q5.below zS.1
     have e95:=zS.2.1 95 _ (by kernel_rfl) rfl
     go_simp
     refine (hIv _ _ _ q5).mono ?_
     rintro e w' ⟨u3,rfl,g3,b⟩
     exact hK _ _ ⟨u3,rfl,g3⟩ b
    refine .cons rfl (fun a w zS K hK=>?_) ?_
    ·have q13:=q13.below zS.1
     have q14:=q14.below zS.1
     have e94:=zS.2.1 94 _ (by kernel_rfl) rfl
     obtain⟨v96,e96,u3,rfl,g3⟩:=zS.2.2 3 96 (by kernel_rfl)
     go_simp
     refine (hAd _ _ _ ⟨_,_,_,_,_,_,rfl,q13,q14⟩ g3).mono ?_
     rintro e w' ⟨u4,rfl,g4,b⟩
     exact hK _ _ ⟨u4,rfl,g4⟩ b
    refine .cons rfl (fun a w zS K hK=>?_) ?_
    ·have q9:=q9.below zS.1
     have q10:=q10.below zS.1
     have e93:=zS.2.1 93 _ (by kernel_rfl) rfl
     obtain⟨v97,e97,u4,rfl,g4⟩:=zS.2.2 4 97 (by kernel_rfl)
     go_simp
     refine (hDv3 _ _ _ ⟨_,_,_,_,_,_,rfl,q9,q10⟩ g4).mono ?_
     rintro e w' ⟨u6,rfl,g6,b⟩
     exact hK _ _ ⟨u6,rfl,g6⟩ b
    refine .cons rfl (fun a w zS K hK=>?_) ?_
    ·go_simp
     exact hK _ _ ⟨_,rfl,zS.1.size,Blk.new w _ _⟩ ((Below.refl _ w).alloc (Nat.le_refl _) _)
    exact .nil
   case pur4=>
    refine .cons rfl (fun a w zS=>?_) ?_
    ·obtain⟨v98,e98,u6,rfl,g6⟩:=zS.2.2 5 98 (by kernel_rfl)
     exact⟨_,fun w'=>by go_simp<;>rfl,⟨u6,rfl,g6⟩⟩
    refine .cons rfl (fun a w zS=>?_) ?_
    ·obtain⟨v92,e92,u6,rfl,g6⟩:=zS.2.2 6 92 (by kernel_rfl)
     exact⟨_,fun w'=>by go_simp<;>rfl,⟨u6,rfl,g6⟩⟩
    refine .cons rfl (fun a w zS=>?_) ?_
    ·obtain⟨v92,e92,u6,rfl,g6⟩:=zS.2.2 6 92 (by kernel_rfl)
     exact⟨_,fun w'=>by go_simp<;>rfl,rfl⟩
    exact .nil
   case done4=>
    intro fuel a wr11_4 zf zS zdf zsz zs zd
    obtain⟨fuel,rfl⟩:∃n,fuel=n+2:=⟨fuel - 2,by have h:2≤fuel:=Nat.le_trans (Nat.le_of_ble_eq_true (by kernel_rfl)) zf;omega⟩
    clear zf
    have nhA:=hA.lt
    replace hA:=hA.below zS nhA
    have nhR:=hR.lt
    replace hR:=hR.below zS nhR
    replace q5:=q5.b zS
    have nh12:=h12.lt
    replace h12:=h12.below zS nh12
    replace q6:=q6.b zS
    have nh14:=h14.lt
    replace h14:=h14.below zS nh14
    have nh16:=h16.lt
    replace h16:=h16.below zS nh16
    replace q9:=q9.b zS
    replace q10:=q10.b zS
    replace q13:=q13.b zS
    replace q14:=q14.b zS
    have nh20:=h20.lt
    replace h20:=h20.below zS nh20
    obtain⟨v96_,e96_,u3,rfl,g3⟩:=zd 3 96 (by kernel_rfl)
    obtain⟨v97_,e97_,u4,rfl,g4⟩:=zd 4 97 (by kernel_rfl)
    obtain⟨v98_,e98_,u6_5,rfl, -⟩:=zd 5 98 (by kernel_rfl)
    obtain⟨v92_,e92_,u6_6,rfl, -⟩:=zd 6 92 (by kernel_rfl)
    obtain⟨v99_,e99_,u6,rfl,g6⟩:=zd 7 99 (by kernel_rfl)
    obtain⟨v100_,e100_,rfl⟩:=zd 8 100 (by kernel_rfl)
    obtain⟨v22_,e22_,XPE,rfl,lXPE,h22⟩:=zd 9 22 (by kernel_rfl)
    obtain rfl:=act_of [(96,u3),(97,u4),(98,.tuple #[u6_5,.int .i64 0]),(22,.pointer (some ⟨XPE,0,none⟩)),(92,.tuple #[u6_6,.int .i64 0]),(99,u6),(100,.int .i64 0)] ⟨e96_,e97_,e98_,e22_,e92_,e99_,e100_,trivial⟩ zdf zsz (fun s h=>zs s h)
    simp only[putAll,List.set_cons_zero,List.set_cons_succ]
    clear zdf zsz zs zd e96_ e97_ e98_ e22_ e92_ e99_ e100_
    have kXPE:w.heap.size≤XPE:=Nat.le_trans hB.size lXPE
    have dXPE_hA:g≠XPE:=Nat.ne_of_lt (Nat.lt_of_lt_of_le nhA lXPE)
    have dXPE_hR:g+1+1≠XPE:=Nat.ne_of_lt (Nat.lt_of_lt_of_le nhR lXPE)
    have dXPE_h12:X8≠XPE:=Nat.ne_of_lt (Nat.lt_of_lt_of_le nh12 lXPE)
    have dXPE_h14:X12≠XPE:=Nat.ne_of_lt (Nat.lt_of_lt_of_le nh14 lXPE)
    have dXPE_h16:XPC≠XPE:=Nat.ne_of_lt (Nat.lt_of_lt_of_le nh16 lXPE)
    have dXPE_h20:X20≠XPE:=Nat.ne_of_lt (Nat.lt_of_lt_of_le nh20 lXPE)
    replace hB:=bOn hB zS
    clear nhA nhR nh12 nh14 nh16 nh20
    obtain⟨s27,A27,L27,C27,D27,M27,E27,s28,A28,L28,C28,D28,M28,E28,rfl,q27,q28⟩:=g6.opn
    clear g3
    clear g4
    clear q13
    clear q14
    clear q9
    clear q10
    clear h16
    clear h20
    clear h12
    clear q5
    have zG:=grown_of zS (some (wd11_4.heap.size))
    refine rd1 10 rfl fun K hK=>?_
    obtain⟨ws11_10,eu,h22',kz,kb,kB⟩:=fill6 h22 (.bool s27) (.slice A27 L27 C27) (.slice D27 M27 E27) (.bool s28) (.slice A28 L28 C28) (.slice D28 M28 E28) (by simp[noU])
    obtain⟨x0,x1,x2,x3,x4,x5⟩:=h22.q6
    have xf:=h22.frozen
    replace zG:=(grown_set (grown_set (grown_set (grown_set (grown_set (grown_set zG (p:=⟨XPE,0,none⟩) (.inr (by assumption)) (.bool s27)) (p:=⟨XPE,1,none⟩) (.inr (by assumption)) (.slice A27 L27 C27)) (p:=⟨XPE,2,none⟩) (.inr (by assumption)) (.slice D27 M27 E27)) (p:=⟨XPE,3,none⟩) (.inr (by assumption)) (.bool s28)) (p:=⟨XPE,4,none⟩) (.inr (by assumption)) (.slice A28 L28 C28)) (p:=⟨XPE,5,none⟩) (.inr (by assumption)) (.slice D28 M28 E28))
    rw[←eu] at zG
    go_simp
    rw[←eu]
    replace hA:=kb _ _ _ hA (by first | assumption | exact Ne.symm (by assumption) | omega)
    replace hR:=kb _ _ _ hR (by first | assumption | exact Ne.symm (by assumption) | omega)
    replace q6:=q6.filled kz
    replace h14:=kb _ _ _ h14 (by first | assumption | exact Ne.symm (by assumption) | omega)
    replace q27:=q27.filled kz
    replace q28:=q28.filled kz
    replace hB:=kB _ _ (by omega) hB
    replace h22:=h22'
    clear h22' kz kb kB eu xf x0 x1 x2 x3 x4 x5
    refine hK.out _ _ zG (fun hHeld=>?_)
    clear hK K
    refine tkH 11 rfl (v:=?v20) ?h20 ?r20 (hS:=zG)
    case h20=>intro w s;go_simp;try (with_reducible rfl)
    try simp only[Act.put,lay]
    try dsimp only
    try simp only[Act.put,lay]
    refine wpAnyH_done (by kernel_rfl) ?_ _
    refine NoPanic.normal ?_
    clear zG
    obtain⟨c324,c325,c326,c327,c328,c329⟩:=hA.q6
    obtain⟨c330,c331,c332,c333,c334,c335⟩:=hR.q6
    obtain⟨c336,c337,c338⟩:=h14.q3
    obtain⟨c339,c340,c341,c342,c343,c344⟩:=h22.q6
    go_upto_region 12 with fail
    clear c324 c325 c326 c327 c328 c329 c330 c331 c332 c333 c334 c335 c336 c337 c338 c339 c340 c341 c342 c343 c344
    replace hB:=hB.drew
    replace hA:=hA.drew
    replace hR:=hR.drew
    replace q6:=q6.b (bdrew _)
    replace h14:=h14.drew
    replace h22:=h22.drew
    replace q27:=q27.b (bdrew _)
    replace q28:=q28.b (bdrew _)
    refine wp_region_noPanic ?_
    refine wp_region_held_drew (S:=fun w'=>World.grownBy ws11_10.drew w' (some (g+1+1))) (by kernel_rfl) (grown_of (Below.refl _ _) _) (fun hHeld=>?_)
    obtain⟨wd12_5,hwd⟩:∃q,q=ws11_10.drew:=⟨_,rfl⟩
    rw[←hwd] at hB hA hR q6 h14 h22 q27 q28 hHeld ⊢
    clear hwd
    refine tkH 0 rfl (v:=?v21) ?h21 ?r21
    case h21=>
     intro w hSw
     (try dsimp only at hSw)
     obtain⟨yh14_0,yh14_1,yh14_2⟩:=(Blk.grownT h14 hSw (fun e=>absurd (Option.some.inj e) (by first | assumption | exact Ne.symm (by assumption) | omega))).q3
     obtain⟨yh22_0,yh22_1,yh22_2,yh22_3,yh22_4,yh22_5⟩:=(Blk.grownT h22 hSw (fun e=>absurd (Option.some.inj e) (by first | assumption | exact Ne.symm (by assumption) | omega))).q6
     go_simp
     try (with_reducible rfl)
    refine tkH 2 rfl (v:=?v22) ?h22 ?r22
    case h22=>
     intro w hSw
     (try dsimp only at hSw)
     obtain⟨yh14_0,yh14_1,yh14_2⟩:=(Blk.grownT h14 hSw (fun e=>absurd (Option.some.inj e) (by first | assumption | exact Ne.symm (by assumption) | omega))).q3
     obtain⟨yh22_0,yh22_1,yh22_2,yh22_3,yh22_4,yh22_5⟩:=(Blk.grownT h22 hSw (fun e=>absurd (Option.some.inj e) (by first | assumption | exact Ne.symm (by assumption) | omega))).q6
     go_simp
     try (with_reducible rfl)
    try simp only[Act.put,lay]
    refine wpAnyH_facts [(1,102),(3,104),(4,105)] [(5,106),(6,107)] [] (pick [(1,fun (v:Value) (w:World)=>∃u3,u3=v∧IsS w u3 rl rl),(3,fun (v:Value) (w:World)=>∃u5,u5=v∧IsS w u5 pl ph),(4,fun (v:Value) (w:World)=>∃u6,.tuple #[u6,.int .i64 0]=v∧IsS w u6 ol oh),(5,fun (v:Value) (w:World)=>∃u6,u6=v∧IsS w u6 ol oh),(6,fun (v:Value) (w:World)=>.int .i64 0=v)]) #[true,true,true,true,true,true,true,false,false] (fun _ h=>grown_of h _) (pick_pers (show PersAll _ from ⟨fun _ _ _ b ⟨u3,e,g3⟩=>⟨u3,e,g3.below b⟩,fun _ _ _ b ⟨u5,e,g5⟩=>⟨u5,e,g5.below b⟩,fun _ _ _ b ⟨u6,e,g6⟩=>⟨u6,e,g6.below b⟩,fun _ _ _ b ⟨u6,e,g6⟩=>⟨u6,e,g6.below b⟩,fun _ _ _ _ e=>e,trivial⟩)) (hord_of (by kernel_rfl)) (by kernel_rfl) (by kernel_rfl) (by kernel_rfl) (by kernel_rfl) (fun _ _ _ _ _ h=>h) ?ops5 ?pur5 ?done5 (Below.refl _ _) (Nat.le_of_ble_eq_true (by kernel_rfl))
    case ops5=>
     refine .cons rfl (fun a w zS K hK=>?_) ?_
     ·have q6:=q6.below zS.1
      have e101:=zS.2.1 101 _ (by kernel_rfl) rfl
      go_simp
      refine (hIv _ _ _ q6).mono ?_
      rintro e w' ⟨u3,rfl,g3,b⟩
      exact hK _ _ ⟨u3,rfl,g3⟩ b
     refine .cons rfl (fun a w zS K hK=>?_) ?_
     ·have q27:=q27.below zS.1
      have q28:=q28.below zS.1
      obtain⟨v102,e102,u3,rfl,g3⟩:=zS.2.2 1 102 (by kernel_rfl)
      have e103:=zS.2.1 103 _ (by kernel_rfl) rfl
      go_simp
      refine (hMu _ _ _ g3 ⟨_,_,_,_,_,_,rfl,q27,q28⟩).mono ?_
      rintro e w' ⟨u5,rfl,g5,b⟩
      exact hK _ _ ⟨u5,rfl,g5⟩ b
     refine .cons rfl (fun a w zS K hK=>?_) ?_
     ·obtain⟨v104,e104,u5,rfl,g5⟩:=zS.2.2 3 104 (by kernel_rfl)
      go_simp
      refine (hOu _ _ g5).mono ?_
      rintro e w' ⟨u6,rfl,g6,b⟩
      exact hK _ _ ⟨u6,rfl,g6⟩ b
     exact .nil
    case pur5=>
     refine .cons rfl (fun a w zS=>?_) ?_
     ·obtain⟨v105,e105,u6,rfl,g6⟩:=zS.2.2 4 105 (by kernel_rfl)
      exact⟨_,fun w'=>by go_simp<;>rfl,⟨u6,rfl,g6⟩⟩
     refine .cons rfl (fun a w zS=>?_) ?_
     ·obtain⟨v105,e105,u6,rfl,g6⟩:=zS.2.2 4 105 (by kernel_rfl)
      exact⟨_,fun w'=>by go_simp<;>rfl,rfl⟩
     exact .nil
    case done5=>
     intro fuel a wr12_5 zf zS zdf zsz zs zd
     obtain⟨fuel,rfl⟩:∃n,fuel=n+2:=⟨fuel - 2,by have h:2≤fuel:=Nat.le_trans (Nat.le_of_ble_eq_true (by kernel_rfl)) zf;omega⟩
     clear zf
     have nhA:=hA.lt
     replace hA:=hA.below zS nhA
     have nhR:=hR.lt
     replace hR:=hR.below zS nhR
     replace q6:=q6.b zS
     have nh14:=h14.lt
     replace h14:=h14.below zS nh14
     have nh22:=h22.lt
     replace h22:=h22.below zS nh22
     replace q27:=q27.b zS
     replace q28:=q28.b zS
     obtain⟨v102_,e102_,u3,rfl,g3⟩:=zd 1 102 (by kernel_rfl)
     obtain⟨v104_,e104_,u5,rfl,g5⟩:=zd 3 104 (by kernel_rfl)
     obtain⟨v105_,e105_,u6_4,rfl, -⟩:=zd 4 105 (by kernel_rfl)
     obtain⟨v106_,e106_,u6,rfl,g6⟩:=zd 5 106 (by kernel_rfl)
     obtain⟨v107_,e107_,rfl⟩:=zd 6 107 (by kernel_rfl)
     obtain rfl:=act_of [(102,u3),(104,u5),(105,.tuple #[u6_4,.int .i64 0]),(106,u6),(107,.int .i64 0)] ⟨e102_,e104_,e105_,e106_,e107_,trivial⟩ zdf zsz (fun s h=>zs s h)
     simp only[putAll,List.set_cons_zero,List.set_cons_succ]
     clear zdf zsz zs zd e102_ e104_ e105_ e106_ e107_
     replace hB:=bOn hB zS
     clear nhA nhR nh14 nh22
     obtain⟨s23,A23,L23,C23,D23,M23,E23,s24,A24,L24,C24,D24,M24,E24,rfl,q23,q24⟩:=g6.opn
     clear g3
     clear g5
     clear q27
     clear q28
     clear h22
     clear h14
     clear q6
     have zG:=grown_of zS (some (g+1+1))
     refine rd1 7 rfl fun K hK=>?_
     obtain⟨ws12_7,eu,hR',kz,kb,kB⟩:=fill6 hR (.bool s23) (.slice A23 L23 C23) (.slice D23 M23 E23) (.bool s24) (.slice A24 L24 C24) (.slice D24 M24 E24) (by simp[noU])
     obtain⟨x0,x1,x2,x3,x4,x5⟩:=hR.q6
     have xf:=hR.frozen
     replace zG:=(grown_set (grown_set (grown_set (grown_set (grown_set (grown_set zG (p:=⟨g+1+1,0,none⟩) (.inl rfl) (.bool s23)) (p:=⟨g+1+1,1,none⟩) (.inl rfl) (.slice A23 L23 C23)) (p:=⟨g+1+1,2,none⟩) (.inl rfl) (.slice D23 M23 E23)) (p:=⟨g+1+1,3,none⟩) (.inl rfl) (.bool s24)) (p:=⟨g+1+1,4,none⟩) (.inl rfl) (.slice A24 L24 C24)) (p:=⟨g+1+1,5,none⟩) (.inl rfl) (.slice D24 M24 E24))
     rw[←eu] at zG
     go_simp
     rw[←eu]
     replace hA:=kb _ _ _ hA (by first | assumption | exact Ne.symm (by assumption) | omega)
     replace q23:=q23.filled kz
     replace q24:=q24.filled kz
     replace hB:=kB _ _ (by omega) hB
     replace hR:=hR'
     clear hR' kz kb kB eu xf x0 x1 x2 x3 x4 x5
     refine hK.out _ _ zG (fun hHeld=>?_)
     clear hK K
     refine tkH 8 rfl (v:=?v23) ?h23 ?r23 (hS:=zG)
     case h23=>intro w s;go_simp;try (with_reducible rfl)
     try simp only[Act.put,lay]
     try dsimp only
     try simp only[Act.put,lay]
     refine wpAnyH_done (by kernel_rfl) ?_ _
     refine NoPanic.normal ?_
     clear zG
     obtain⟨c345,c346,c347,c348,c349,c350⟩:=hA.q6
     obtain⟨c351,c352,c353,c354,c355,c356⟩:=hR.q6
     dsimp only[Exit.then]
     refine (by assumption:∀(a:Act) (w:World),Code.wp Tryz.prog Code.ret _ a w→_) _ _ ?_
     first | refine Go.wp_ret ?_ | refine Go.Code.wp_ret ?_
     exact bodyPost_ret (v:= .tuple #[.agg #[.bool s23,.slice A23 L23 C23,.slice D23 M23 E23,.bool s24,.slice A24 L24 C24,.slice D24 M24 E24],.int .i64 0]) (by simp[results,Tryz.results32,go_sem,c351,c352,c353,c354,c355,c356]) rfl ⟨_,rfl,⟨_,_,_,_,_,_,rfl,q23,q24⟩,hB⟩
theorem pupdno_any (lr b1 b2 eps wd:Int) (apart:Bool) (f t:Int) (w:World) (A1 D1 A2 D2 A3 D3 A4 D4:Option Addr) (L1 C1 M1 E1 L2 C2 M2 E2 L3 C3 M3 E3 L4 C4 M4 E4:Nat) (s1 s2 s3 s4:Bool)
 (hbad:rightA lr b1 b2 eps wd f=false∨(rightA lr b1 b2 eps wd f=true∧decide (t<1)=true)∨(rightA lr b1 b2 eps wd f=true∧decide (t<1)=false∧decide (30<t)=true)∨(rightA lr b1 b2 eps wd f=true∧decide (t<1)=false∧decide (30<t)=false∧s4=true)):
 Calls Tryz.prog 32 #[.agg #[.int .i64 lr,.int .i64 b1,.int .i64 b2,.int .i64 eps,.int .i64 wd,.bool apart],.int .i64 f,.int .i64 t,.agg #[.bool s1,.slice A1 L1 C1,.slice D1 M1 E1,.bool s2,.slice A2 L2 C2,.slice D2 M2 E2,.bool s3,.slice A3 L3 C3,.slice D3 M3 E3,.bool s4,.slice A4 L4 C4,.slice D4 M4 E4]] w fun e w'=>e= .returned (.tuple #[.agg #[.bool false,.slice none 0 0,.slice none 0 0,.bool false,.slice none 0 0,.slice none 0 0],.int .i64 1])∧Below w.heap.size w w':=by
 have hRi:=fun w=>aright_any lr b1 b2 eps wd f apart w
 generalize rightA lr b1 b2 eps wd f=ra at *
 have hbad:=Lib.hid hbad
 obtain⟨g,hg⟩:∃g,g=w.heap.size:=⟨_,rfl⟩
 obtain⟨Y0,eY0,hA,bY0⟩:=box1 w 61 #[.int .i64 lr,.int .i64 b1,.int .i64 b2,.int .i64 eps,.int .i64 wd,.bool apart]
 have zY0:Y0.heap.size=g+1:=by rw[eY0,World.size_alloc,←hg]
 rw[←hg] at hA
 have hB:=bY0
 obtain⟨Y1,eY1,h7,bY1⟩:=box1 Y0 67 #[.bool s1,.slice A1 L1 C1,.slice D1 M1 E1,.bool s2,.slice A2 L2 C2,.slice D2 M2 E2,.bool s3,.slice A3 L3 C3,.slice D3 M3 E3,.bool s4,.slice A4 L4 C4,.slice D4 M4 E4]
 have zY1:Y1.heap.size=g+1+1:=by rw[eY1,World.size_alloc,zY0]
 rw[zY0] at h7
 replace hA:=hA.b bY1
 replace hB:=bOn hB bY1
 obtain⟨Y2,eY2,hR,bY2⟩:=box1 Y1 46 #[.bool false,.slice none 0 0,.slice none 0 0,.bool false,.slice none 0 0,.slice none 0 0]
 have zY2:Y2.heap.size=g+1+1+1:=by rw[eY2,World.size_alloc,zY1]
 rw[zY1] at hR
 replace hA:=hA.b bY2
 replace h7:=h7.b bY2
 replace hB:=bOn hB bY2
 have hgw:w.heap.size≤g:=by omega
 have EY:=Lib.hid (And.intro hg (And.intro eY0 (And.intro eY1 eY2)))
 clear hg eY0 zY0 eY1 zY1 eY2 zY2
 obtain⟨c0,c1,c2,c3,c4,c5⟩:=hA.q6
 obtain⟨c6,c7,c8,c9,c10,c11,c12,c13,c14,c15,c16,c17⟩:=h7.q12
 obtain⟨c18,c19,c20,c21,c22,c23⟩:=hR.q6
 go_enter Tryz.func32,Tryz.ntmps32
 go_upto_region 1 with fail
 rw[←EY.out.2.1,←EY.out.2.2.1,←EY.out.2.2.2,←EY.out.1]
 replace hB:=hB.drew
 replace hA:=hA.drew
 replace h7:=h7.drew
 replace hR:=hR.drew
 clear c0 c1 c2 c3 c4 c5 c6 c7 c8 c9 c10 c11 c12 c13 c14 c15 c16 c17 c18 c19 c20 c21 c22 c23
 go_cut [10,11] (fun s10 s11 wx=>∃XPA XPB,s10= .pointer (some ⟨XPA,0,none⟩)∧s11= .pointer (some ⟨XPB,0,none⟩)∧Blk wx g 61 #[.int .i64 lr,.int .i64 b1,.int .i64 b2,.int .i64 eps,.int .i64 wd,.bool apart]∧Blk wx (g+1+1) 46 #[.bool false,.slice none 0 0,.slice none 0 0,.bool false,.slice none 0 0,.slice none 0 0]∧Blk wx XPA 46 #[.bool s1,.slice A1 L1 C1,.slice D1 M1 E1,.bool s2,.slice A2 L2 C2,.slice D2 M2 E2]∧Blk wx XPB 46 #[.bool s3,.slice A3 L3 C3,.slice D3 M3 E3,.bool s4,.slice A4 L4 C4,.slice D4 M4 E4]∧Below w.heap.size w wx∧w.heap.size≤XPA∧w.heap.size≤XPB∧g≠XPA∧g+1+1≠XPA∧g≠XPB∧g+1+1≠XPB∧XPA≠XPB)
 case first=>
  refine wp_region_noPanic ?_
  refine wp_region_held_drew (S:=fun w'=>w'.cell? ⟨g+1,0,none⟩=some (.bool s1)∧w'.cell? ⟨g+1,1,none⟩=some (.slice A1 L1 C1)∧w'.cell? ⟨g+1,2,none⟩=some (.slice D1 M1 E1)∧w'.cell? ⟨g+1,3,none⟩=some (.bool s2)∧w'.cell? ⟨g+1,4,none⟩=some (.slice A2 L2 C2)∧w'.cell? ⟨g+1,5,none⟩=some (.slice D2 M2 E2)∧w'.cell? ⟨g+1,6,none⟩=some (.bool s3)∧w'.cell? ⟨g+1,7,none⟩=some (.slice A3 L3 C3)∧w'.cell? ⟨g+1,8,none⟩=some (.slice D3 M3 E3)∧w'.cell? ⟨g+1,9,none⟩=some (.bool s4)∧w'.cell? ⟨g+1,10,none⟩=some (.slice A4 L4 C4)∧w'.cell? ⟨g+1,11,none⟩=some (.slice D4 M4 E4)) (by kernel_rfl) ?_ (fun hHeld=>?_)
  ·exact⟨h7.cell 0,h7.cell 1,h7.cell 2,h7.cell 3,h7.cell 4,h7.cell 5,h7.cell 6,h7.cell 7,h7.cell 8,h7.cell 9,h7.cell 10,h7.cell 11⟩
  obtain⟨wd1_1,hwd⟩:∃q,q=Y2.drew:=⟨_,rfl⟩
  rw[←hwd] at hB hA h7 hR hHeld ⊢
  clear hwd
  refine tkA 0 rfl ?_
  refine tkA 1 rfl ?_
  refine tkA 2 rfl ?_
  refine tkA 3 rfl ?_
  try simp only[Act.put,lay]
  refine rd2 4 5 rfl rfl (fun K hK=>?_) fun K hK=>?_
  ·obtain⟨u1_1,eu,h10,b1_1⟩:=box1 wd1_1 46 #[.bool false,.slice none 0 0,.slice none 0 0,.bool false,.slice none 0 0,.slice none 0 0]
   obtain⟨XPA,en⟩:∃X,X=wd1_1.heap.size:=⟨_,rfl⟩
   rw[←en] at h10
   have lXPA:w.heap.size≤XPA:=by rw[en];exact hB.size
   have dXPA_hA:g≠XPA:=by have:=hA.lt;omega
   have dXPA_h7:g+1≠XPA:=by have:=h7.lt;omega
   have dXPA_hR:g+1+1≠XPA:=by have:=hR.lt;omega
   have EUXPA:=Lib.hid (And.intro eu en)
   clear eu en
   go_simp
   rw[←EUXPA.out.1,←EUXPA.out.2]
   replace hA:=hA.b b1_1
   replace h7:=h7.b b1_1
   replace hR:=hR.b b1_1
   replace hB:=bOn hB b1_1
   refine hK.out _ _ ?_ fun hHeld=>?_
   ·exact⟨h7.cell 0,h7.cell 1,h7.cell 2,h7.cell 3,h7.cell 4,h7.cell 5,h7.cell 6,h7.cell 7,h7.cell 8,h7.cell 9,h7.cell 10,h7.cell 11⟩
   clear hK K
   try simp only[Act.put,lay]
   refine rd1 5 rfl fun K hK=>?_
   obtain⟨u1_2,eu,h11,b1_2⟩:=box1 u1_1 46 #[.bool false,.slice none 0 0,.slice none 0 0,.bool false,.slice none 0 0,.slice none 0 0]
   obtain⟨XPB,en⟩:∃X,X=u1_1.heap.size:=⟨_,rfl⟩
   rw[←en] at h11
   have lXPB:w.heap.size≤XPB:=by rw[en];exact hB.size
   have dXPB_hA:g≠XPB:=by have:=hA.lt;omega
   have dXPB_h7:g+1≠XPB:=by have:=h7.lt;omega
   have dXPB_hR:g+1+1≠XPB:=by have:=hR.lt;omega
   have dXPB_h10:XPA≠XPB:=by have:=h10.lt;omega
   have EUXPB:=Lib.hid (And.intro eu en)
   clear eu en
   go_simp
   rw[←EUXPB.out.1,←EUXPB.out.2]
   replace hA:=hA.b b1_2
   replace h7:=h7.b b1_2
   replace hR:=hR.b b1_2
   replace h10:=h10.b b1_2
   replace hB:=bOn hB b1_2
   refine hK.out _ _ ?_ fun hHeld=>?_
   ·exact⟨h7.cell 0,h7.cell 1,h7.cell 2,h7.cell 3,h7.cell 4,h7.cell 5,h7.cell 6,h7.cell 7,h7.cell 8,h7.cell 9,h7.cell 10,h7.cell 11⟩
   clear hK K
   try simp only[Act.put,lay]
   refine rd1 6 rfl fun K hK=>?_
   obtain⟨u1_3,eu,h10',kz,kb,kB⟩:=fill6 h10 (.bool s1) (.slice A1 L1 C1) (.slice D1 M1 E1) (.bool s2) (.slice A2 L2 C2) (.slice D2 M2 E2) (by simp[noU])
   obtain⟨x0,x1,x2,x3,x4,x5⟩:=h10.q6
   have xf:=h10.frozen
   go_simp
   rw[←eu]
   replace hA:=kb _ _ _ hA (by omega)
   replace h7:=kb _ _ _ h7 (by omega)
   replace hR:=kb _ _ _ hR (by omega)
   replace h11:=kb _ _ _ h11 (by omega)
   replace hB:=kB _ _ (by omega) hB
   replace h10:=h10'
   clear h10' kz kb kB eu xf x0 x1 x2 x3 x4 x5
   refine hK.out _ _ ?_ fun hHeld=>?_
   ·exact⟨h7.cell 0,h7.cell 1,h7.cell 2,h7.cell 3,h7.cell 4,h7.cell 5,h7.cell 6,h7.cell 7,h7.cell 8,h7.cell 9,h7.cell 10,h7.cell 11⟩
   clear hK K
   try simp only[Act.put,lay]
   refine rd1 7 rfl fun K hK=>?_
   obtain⟨u1_4,eu,h11',kz,kb,kB⟩:=fill6 h11 (.bool s3) (.slice A3 L3 C3) (.slice D3 M3 E3) (.bool s4) (.slice A4 L4 C4) (.slice D4 M4 E4) (by simp[noU])
   obtain⟨x0,x1,x2,x3,x4,x5⟩:=h11.q6
   have xf:=h11.frozen
   go_simp
   rw[←eu]
   replace hA:=kb _ _ _ hA (by omega)
   replace h7:=kb _ _ _ h7 (by omega)
   replace hR:=kb _ _ _ hR (by omega)
   replace h10:=kb _ _ _ h10 (by omega)
   replace hB:=kB _ _ (by omega) hB
   replace h11:=h11'
   clear h11' kz kb kB eu xf x0 x1 x2 x3 x4 x5
   refine hK.out _ _ ?_ fun hHeld=>?_
   ·exact⟨h7.cell 0,h7.cell 1,h7.cell 2,h7.cell 3,h7.cell 4,h7.cell 5,h7.cell 6,h7.cell 7,h7.cell 8,h7.cell 9,h7.cell 10,h7.cell 11⟩
   clear hK K
   try simp only[Act.put,lay]
   try dsimp only
   try simp only[Act.put,lay]
   refine wpAnyH_done (by kernel_rfl) ?_ _
   refine NoPanic.normal ?_
   go_wp2_with fail
   go_meet
   exact⟨XPA,XPB,rfl,rfl,hA,hR,h10,h11,hB,lXPA,lXPB,(by assumption),(by assumption),(by assumption),(by assumption),(by first | assumption | exact Ne.symm (by assumption))⟩
  ·obtain⟨u1_5,eu,h11,b1_5⟩:=box1 wd1_1 46 #[.bool false,.slice none 0 0,.slice none 0 0,.bool false,.slice none 0 0,.slice none 0 0]
   obtain⟨XPB,en⟩:∃X,X=wd1_1.heap.size:=⟨_,rfl⟩
   rw[←en] at h11
   have lXPB:w.heap.size≤XPB:=by rw[en];exact hB.size
   have dXPB_hA:g≠XPB:=by have:=hA.lt;omega
   have dXPB_h7:g+1≠XPB:=by have:=h7.lt;omega
   have dXPB_hR:g+1+1≠XPB:=by have:=hR.lt;omega
   have EUXPB:=Lib.hid (And.intro eu en)
   clear eu en
   go_simp
   rw[←EUXPB.out.1,←EUXPB.out.2]
   replace hA:=hA.b b1_5
   replace h7:=h7.b b1_5
   replace hR:=hR.b b1_5
   replace hB:=bOn hB b1_5
   refine hK.out _ _ ?_ fun hHeld=>?_
   ·exact⟨h7.cell 0,h7.cell 1,h7.cell 2,h7.cell 3,h7.cell 4,h7.cell 5,h7.cell 6,h7.cell 7,h7.cell 8,h7.cell 9,h7.cell 10,h7.cell 11⟩
   clear hK K
   try simp only[Act.put,lay]
   refine rd1 4 rfl fun K hK=>?_
   obtain⟨u1_6,eu,h10,b1_6⟩:=box1 u1_5 46 #[.bool false,.slice none 0 0,.slice none 0 0,.bool false,.slice none 0 0,.slice none 0 0]
   obtain⟨XPA,en⟩:∃X,X=u1_5.heap.size:=⟨_,rfl⟩
   rw[←en] at h10
   have lXPA:w.heap.size≤XPA:=by rw[en];exact hB.size
   have dXPA_hA:g≠XPA:=by have:=hA.lt;omega
   have dXPA_h7:g+1≠XPA:=by have:=h7.lt;omega
   have dXPA_hR:g+1+1≠XPA:=by have:=hR.lt;omega
   have dXPA_h11:XPB≠XPA:=by have:=h11.lt;omega
   have EUXPA:=Lib.hid (And.intro eu en)
   clear eu en
   go_simp
   rw[←EUXPA.out.1,←EUXPA.out.2]
   replace hA:=hA.b b1_6
   replace h7:=h7.b b1_6
   replace hR:=hR.b b1_6
   replace h11:=h11.b b1_6
   replace hB:=bOn hB b1_6
   refine hK.out _ _ ?_ fun hHeld=>?_
   ·exact⟨h7.cell 0,h7.cell 1,h7.cell 2,h7.cell 3,h7.cell 4,h7.cell 5,h7.cell 6,h7.cell 7,h7.cell 8,h7.cell 9,h7.cell 10,h7.cell 11⟩
   clear hK K
   try simp only[Act.put,lay]
   refine rd1 6 rfl fun K hK=>?_
   obtain⟨u1_7,eu,h10',kz,kb,kB⟩:=fill6 h10 (.bool s1) (.slice A1 L1 C1) (.slice D1 M1 E1) (.bool s2) (.slice A2 L2 C2) (.slice D2 M2 E2) (by simp[noU])
   obtain⟨x0,x1,x2,x3,x4,x5⟩:=h10.q6
   have xf:=h10.frozen
   go_simp
   rw[←eu]
   replace hA:=kb _ _ _ hA (by omega)
   replace h7:=kb _ _ _ h7 (by omega)
   replace hR:=kb _ _ _ hR (by omega)
   replace h11:=kb _ _ _ h11 (by omega)
   replace hB:=kB _ _ (by omega) hB
   replace h10:=h10'
   clear h10' kz kb kB eu xf x0 x1 x2 x3 x4 x5
   refine hK.out _ _ ?_ fun hHeld=>?_
   ·exact⟨h7.cell 0,h7.cell 1,h7.cell 2,h7.cell 3,h7.cell 4,h7.cell 5,h7.cell 6,h7.cell 7,h7.cell 8,h7.cell 9,h7.cell 10,h7.cell 11⟩
   clear hK K
   try simp only[Act.put,lay]
   refine rd1 7 rfl fun K hK=>?_
   obtain⟨u1_8,eu,h11',kz,kb,kB⟩:=fill6 h11 (.bool s3) (.slice A3 L3 C3) (.slice D3 M3 E3) (.bool s4) (.slice A4 L4 C4) (.slice D4 M4 E4) (by simp[noU])
   obtain⟨x0,x1,x2,x3,x4,x5⟩:=h11.q6
   have xf:=h11.frozen
   go_simp
   rw[←eu]
   replace hA:=kb _ _ _ hA (by omega)
   replace h7:=kb _ _ _ h7 (by omega)
   replace hR:=kb _ _ _ hR (by omega)
   replace h10:=kb _ _ _ h10 (by omega)
   replace hB:=kB _ _ (by omega) hB
   replace h11:=h11'
   clear h11' kz kb kB eu xf x0 x1 x2 x3 x4 x5
   refine hK.out _ _ ?_ fun hHeld=>?_
   ·exact⟨h7.cell 0,h7.cell 1,h7.cell 2,h7.cell 3,h7.cell 4,h7.cell 5,h7.cell 6,h7.cell 7,h7.cell 8,h7.cell 9,h7.cell 10,h7.cell 11⟩
   clear hK K
   try simp only[Act.put,lay]
   try dsimp only
   try simp only[Act.put,lay]
   refine wpAnyH_done (by kernel_rfl) ?_ _
   refine NoPanic.normal ?_
   go_wp2_with fail
   go_meet
   exact⟨XPA,XPB,rfl,rfl,hA,hR,h10,h11,hB,lXPA,lXPB,(by assumption),(by assumption),(by assumption),(by assumption),(by first | assumption | exact Ne.symm (by assumption))⟩
 obtain⟨XPA,XPB,rfl,rfl,hA,hR,h10,h11,hB,lXPA,lXPB,dXPA_hA,dXPA_hR,dXPB_hA,dXPB_hR,nXPA_XPB⟩:=hcut
 obtain⟨c24,c25,c26,c27,c28,c29⟩:=hA.q6
 obtain⟨c30,c31,c32,c33,c34,c35⟩:=hR.q6
 obtain⟨c36,c37,c38,c39,c40,c41⟩:=h10.q6
 obtain⟨c42,c43,c44,c45,c46,c47⟩:=h11.q6
 go_wp2_with fail
 refine (hRi _).mono ?_
 rintro e w23 ⟨rfl,b23⟩
 replace hA:=hA.b b23
 replace hR:=hR.b b23
 replace h10:=h10.b b23
 replace h11:=h11.b b23
 replace hB:=bOn hB b23
 clear c24 c25 c26 c27 c28 c29 c30 c31 c32 c33 c34 c35 c36 c37 c38 c39 c40 c41 c42 c43 c44 c45 c46 c47
 obtain⟨c48,c49,c50,c51,c52,c53⟩:=hA.q6
 obtain⟨c54,c55,c56,c57,c58,c59⟩:=hR.q6
 obtain⟨c60,c61,c62,c63,c64,c65⟩:=h10.q6
 obtain⟨c66,c67,c68,c69,c70,c71⟩:=h11.q6
 rcases hbad.out with rfl | ⟨rfl,t1⟩ | ⟨rfl,t1,t2⟩ | ⟨rfl,t1,t2,rfl⟩
 all_goals
  obtain⟨p1,p2,p3⟩:=put6 hR (.bool false) (.slice none 0 0) (.slice none 0 0) (.bool false) (.slice none 0 0) (.slice none 0 0) (by simp[noU]) hB (by omega)
  have rc0:World.cell? _ ⟨g+1+1,0,none⟩=some (.bool false):=hR.cell 0
  have rf0:=hR.frozen 0
  have rc1:World.cell? _ ⟨g+1+1,1,none⟩=some (.slice none 0 0):=hR.cell 1
  have rf1:=hR.frozen 1
  have rc2:World.cell? _ ⟨g+1+1,2,none⟩=some (.slice none 0 0):=hR.cell 2
  have rf2:=hR.frozen 2
  have rc3:World.cell? _ ⟨g+1+1,3,none⟩=some (.bool false):=hR.cell 3
  have rf3:=hR.frozen 3
  have rc4:World.cell? _ ⟨g+1+1,4,none⟩=some (.slice none 0 0):=hR.cell 4
  have rf4:=hR.frozen 4
  have rc5:World.cell? _ ⟨g+1+1,5,none⟩=some (.slice none 0 0):=hR.cell 5
  have rf5:=hR.frozen 5
  have P:=Lib.hid (And.intro trivial (And.intro p3 p1.cells6))
  clear p1 p2 p3
  go_wp2_with fail
  obtain⟨P1,P2,P3,P4,P5,P6,P7,P8⟩:=P.out
  exact bodyPost_ret (v:= .tuple #[.agg #[.bool false,.slice none 0 0,.slice none 0 0,.bool false,.slice none 0 0,.slice none 0 0],.int .i64 1]) (by simp[results,Tryz.results32,go_sem,P3,P4,P5,P6,P7,P8]) rfl ⟨rfl,P2⟩
end Go.Proofs.YtdnjdglekifhpaaGreat
