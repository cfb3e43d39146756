/- A part of the proof of: All updates of some moments are as the document says. No conditions: every input. -/
import Derived.Deep.DeepMust
import Derived.Test.YtdnjdglekifhpaaGreatTfa
set_option maxRecDepth 100000
set_option maxHeartbeats 8000000
namespace Go.Proofs.YtdnjdglekifhpaaGreat
theorem lay {α:Type _}:(∀(xs:List α) (i:Nat) (h:i<xs.toArray.size),xs.toArray[i]=xs[i]'h)∧(∀(a:α) (xs:List α) (i:Nat) (h:i+1<(a::xs).length),(a::xs)[i+1]=xs[i]'(Nat.lt_of_succ_lt_succ h))∧(∀(a:α) (xs:List α) (h:0<(a::xs).length),(a::xs)[0]=a)∧(∀(l:List α) (i:Nat) (a:α),l.toArray.setIfInBounds i a=(l.set i a).toArray)∧(∀(x:α) (xs:List α) (a:α),(x::xs).set 0 a=a::xs)∧(∀(x:α) (xs:List α) (i:Nat) (a:α),(x::xs).set (i+1) a=x::xs.set i a):=
  ⟨fun _ _ _=>rfl,fun _ _ _ _=>rfl,fun _ _ _=>rfl,fun l i a=>List.setIfInBounds_toArray l i a,fun _ _ _=>rfl,fun _ _ _ _=>rfl⟩
end Go.Proofs.YtdnjdglekifhpaaGreat
namespace Go.Proofs.YtdnjdglekifhpaaGreat
open Go.RowKit
attribute [local go_sem ↓] Go.wp_at_zero Go.wp_at_succ
def qnt (l:List Rat) (i:Nat):Rat:=l[i]?.getD 0
theorem qnt_at {l:List Rat} {i:Nat} (h:i<l.length):l[i]=qnt l i:=by unfold qnt;rw[List.getElem?_eq_getElem h];rfl
def mnTo (l:List Rat):Nat→Rat
 | 0=>qnt l 0
 | j+1=>if cmpQ (qnt l (j+1)) (mnTo l j)<0 then qnt l (j+1) else mnTo l j
def mxTo (l:List Rat):Nat→Rat
 | 0=>qnt l 0
 | j+1=>if 0<cmpQ (qnt l (j+1)) (mxTo l j) then qnt l (j+1) else mxTo l j
theorem mnTo_all {l:List Rat} {P:Rat→Prop} (h:∀i,i<l.length→P (qnt l i)):∀j,j<l.length→P (mnTo l j)
 | 0,hj=>h 0 hj
 | j + 1, hj => by
   unfold mnTo
   split
   ·exact h _ hj
   ·exact mnTo_all h j (by omega)
theorem mxTo_all {l:List Rat} {P:Rat→Prop} (h:∀i,i<l.length→P (qnt l i)):∀j,j<l.length→P (mxTo l j)
 | 0,hj=>h 0 hj
 | j + 1, hj => by
   unfold mxTo
   split
   ·exact h _ hj
   ·exact mxTo_all h j (by omega)
theorem minfunc_any (v:Value) (rs:List Rat) (w:World) (h:IsQs w v rs) (h0:0<rs.length) (hs:∀i,i<rs.length→BQ (qnt rs i) 10000):
 Calls Tryz.prog 192 #[v,.func (.func 191) #[] #[]] w fun e w'=>∃v',e= .returned v'∧IsQ w' v' (mnTo rs (rs.length - 1))∧Below w.heap.size w w':=by
 obtain⟨A,c,rfl,_,_⟩:=h.len
 obtain⟨g,Y0,hR,hB,hgw,EY⟩:=boxes1 w 32 #[.bool false,.slice none 0 0,.slice none 0 0]
 obtain⟨c0,c1,c2⟩:=hR.q3
 go_enter Tryz.func192,Tryz.ntmps192
 have n0:decide ((rs.length:Int)<1)=false:=decide_eq_false (by omega)
 go_upto_region 3 with fail
 rw[←EY.out.2,←EY.out.1]
 have hv:=h.below hB
 obtain⟨ad,c',s1,p1,r1,e1,_,x0,x1,x2,q1⟩:=hv.at_ h0
 obtain⟨rfl, -, -⟩:=Value.slice.inj e1
 have e0:ad.add (0*3)=ad:=by simp[Addr.add]
 rw[e0] at x0 x1 x2
 rw[qnt_at] at q1
 obtain⟨s5,A5,L5,C5,D5,M5,E5,e3,q5⟩:=q1.opn
 obtain⟨rfl,rfl,rfl⟩:s5=s1∧p1= .slice A5 L5 C5∧r1= .slice D5 M5 E5:=by
  injection e3 with e3;simp only[Array.mk.injEq,List.cons.injEq,and_true] at e3;exact⟨by have:=e3.1;injection this with this;exact this.symm,e3.2.1,e3.2.2⟩
 clear e1 e0 e3 q1 hv
 obtain⟨X2,V2,h5,bV2,lX2,nX2,EV2⟩:=boxL hB 32 #[.bool s5,.slice A5 L5 C5,.slice D5 M5 E5]
 have dX2_hR:=nX2 _ hR.lt
 clear nX2
 go_upto_region 4 with fail
 rw[←EV2.out.1,←EV2.out.2]
 replace hR:=hR.b bV2
 replace q5:=q5.b bV2
 replace hB:=bOn hB bV2
 clear c0 c1 c2
 obtain⟨c3,c4,c5⟩:=hR.q3
 obtain⟨c6,c7,c8⟩:=h5.q3
 clear x0 x1 x2 n0
 go_wp2_with fail
 go_loopw [6] (fun iV wr=>∃(J:Nat) (s5:Bool) (A5 D5:Option Addr) (L5 C5 M5 E5:Nat),iV= .int .i64 J∧1≤J∧J≤rs.length∧Blk wr g 32 #[.bool false,.slice none 0 0,.slice none 0 0]∧Blk wr X2 32 #[.bool s5,.slice A5 L5 C5,.slice D5 M5 E5]∧IsQ wr (.agg #[.bool s5,.slice A5 L5 C5,.slice D5 M5 E5]) (mnTo rs (J - 1))∧Below w.heap.size w wr) (fun iV _=>rs.length - (intOf iV).toNat)
 case atStart=>exact⟨1,_,_,_,_,_,_,_,rfl,Nat.le_refl _,h0,hR,h5,q5,hB⟩
 case round=>
  clear hR h5 q5 hB
  obtain⟨J,s5,A5,D5,L5,C5,M5,E5,rfl,hJ1,hJ,hR,h5,q5,hB⟩:=hrel
  by_cases hlt:J<rs.length
  ·have hv:=h.below hB
   obtain⟨ad',c',s1,p1,r1,e1,_,x0,x1,x2,q1⟩:=hv.at_ hlt
   obtain⟨e2, -, -⟩:=Value.slice.inj e1
   obtain rfl:=Option.some.inj e2
   rw[qnt_at] at q1
   obtain⟨s6,A6,L6,C6,D6,M6,E6,e3,q6⟩:=q1.opn
   obtain⟨rfl,rfl,rfl⟩:s6=s1∧p1= .slice A6 L6 C6∧r1= .slice D6 M6 E6:=by
    injection e3 with e3;simp only[Array.mk.injEq,List.cons.injEq,and_true] at e3;exact⟨by have:=e3.1;injection this with this;exact this.symm,e3.2.1,e3.2.2⟩
   have i0:(0:Int)≤(J:Int):=by omega
   have i1:(J:Int)<(rs.length:Int):=by omega
   have s6':=hs J hlt
   have s5':=mnTo_all (l:=rs) (P:=fun q=>BQ q 10000) hs (J - 1) (by omega)
   have hC:=fun u v w h1 h2=>prcmp_any u v (qnt rs J) (mnTo rs (J - 1)) w h1 h2 s6' s5'
   have HN:=Lib.hid (show mnTo rs J=if cmpQ (qnt rs J) (mnTo rs (J - 1))<0 then qnt rs J else mnTo rs (J - 1) by
    obtain⟨K,rfl⟩:∃K,J=K+1:=⟨J - 1,by omega⟩
    rfl)
   generalize cmpQ (qnt rs J) (mnTo rs (J - 1))=cm at *
   clear e1 e2 e3 q1 hv s6' s5'
   go_upto_region 7 with fail
   replace hB:=hB.drew
   replace hR:=hR.drew
   replace h5:=h5.drew
   replace q5:=q5.b (bdrew _)
   replace x0:=cellAU (bdrew _) x0
   replace x1:=cellAU (bdrew _) x1
   replace x2:=cellAU (bdrew _) x2
   replace q6:=q6.b (bdrew _)
   clear c3 c4 c5 c6 c7 c8
   refine wp_region_noPanic ?_
   refine wp_region_held_drew (S:=fun w'=>w'.cell? (ad.add (J*3))=some (.bool s6)∧w'.cell? ⟨(ad.add (J*3)).block,(ad.add (J*3)).off+1,none⟩=some (.slice A6 L6 C6)∧w'.cell? ⟨(ad.add (J*3)).block,(ad.add (J*3)).off+2,none⟩=some (.slice D6 M6 E6)∧w'.cell? ⟨X2,0,none⟩=some (.bool s5)∧w'.cell? ⟨X2,1,none⟩=some (.slice A5 L5 C5)∧w'.cell? ⟨X2,2,none⟩=some (.slice D5 M5 E5)) (by kernel_rfl) ?_ (fun hHeld=>?_)
   ·exact⟨x0,x1,x2,h5.cell 0,h5.cell 1,h5.cell 2⟩
   obtain⟨wd7_1,hwd⟩:∃q,q=wr.drew:=⟨_,rfl⟩
   rw[←hwd] at hB hR h5 q5 x0 x1 x2 q6 hHeld ⊢
   clear hwd
   refine tkA 0 rfl ?_
   refine tkA 1 rfl ?_
   refine tkA 2 rfl ?_
   refine tkA 3 rfl ?_
   refine tkA 4 rfl ?_
   refine tkA 5 rfl ?_
   try simp only[Act.put,lay]
   refine rd1 6 rfl fun K hK=>?_
   go_simp
   refine (hC _ _ _ q6 q5).mono ?_
   rintro e u7_1 ⟨rfl,b7_1⟩
   replace hR:=hR.b b7_1
   replace h5:=h5.b b7_1
   replace q5:=q5.b b7_1
   replace x0:=cellAU b7_1 x0
   replace x1:=cellAU b7_1 x1
   replace x2:=cellAU b7_1 x2
   replace q6:=q6.b b7_1
   replace hB:=bOn hB b7_1
   go_wp2_with fail
   refine hK.out _ _ ?_ fun hHeld=>?_
   ·exact⟨x0,x1,x2,h5.cell 0,h5.cell 1,h5.cell 2⟩
   clear hK K
   refine tkA 7 rfl ?_
   try simp only[Act.put,lay]
   try dsimp only
   try simp only[Act.put,lay]
   refine wpAnyH_done (by kernel_rfl) ?_ _
   refine NoPanic.normal ?_
   skip
   obtain⟨c9,c10,c11⟩:=hR.q3
   obtain⟨c12,c13,c14⟩:=h5.q3
   by_cases hc:cm<0
   ·have hd:decide (cm<0)=true:=decide_eq_true hc
    obtain⟨W8,eW,f1,f2,f3,f4⟩:=fill3 h5 (.bool s6) (.slice A6 L6 C6) (.slice D6 M6 E6) (by simp[noU])
    have xf:=h5.frozen
    have y0:=h5.cell 0
    have y1:=h5.cell 1
    have y2:=h5.cell 2
    rw[if_pos hc] at HN
    go_upto_region 6 with fail
    rw[←eW]
    replace hR:=f3 _ _ _ hR (by omega)
    replace q6:=q6.filled f2
    replace hB:=f4 _ _ (by omega) hB
    clear eW f2 f3 f4 xf y0 y1 y2 h5 x0 x1 x2 hd
    go_wp2
    exact⟨⟨J+1,s6,A6,D6,L6,C6,M6,E6,by go_num,by omega,by omega,hR,f1,by rw[Nat.add_sub_cancel,HN.out];exact q6,hB⟩,by simp[intOf];omega⟩
   ·have hd:decide (cm<0)=false:=decide_eq_false hc
    rw[if_neg hc] at HN
    go_wp2
    exact⟨⟨J+1,s5,A5,D5,L5,C5,M5,E5,by go_num,by omega,by omega,hR,h5,by rw[Nat.add_sub_cancel,HN.out];exact q5,hB⟩,by simp[intOf];omega⟩
  ·obtain rfl:J=rs.length:=by omega
   obtain⟨y0,y1,y2⟩:=h5.q3
   obtain⟨p1,p2,p3⟩:=put3 hR (.bool s5) (.slice A5 L5 C5) (.slice D5 M5 E5) (by simp[noU]) hB (by omega)
   have rc0:World.cell? _ ⟨g,0,none⟩=some (.bool false):=hR.cell 0
   have rf0:=hR.frozen 0
   have rc1:World.cell? _ ⟨g,1,none⟩=some (.slice none 0 0):=hR.cell 1
   have rf1:=hR.frozen 1
   have rc2:World.cell? _ ⟨g,2,none⟩=some (.slice none 0 0):=hR.cell 2
   have rf2:=hR.frozen 2
   have P:=Lib.hid (And.intro (q5.kept p2) (And.intro p3 p1.cells3))
   clear p1 p2 p3
   go_wp2_with fail
   obtain⟨P1,P2,P3,P4,P5⟩:=P.out
   exact bodyPost_ret (v:= .agg #[.bool s5,.slice A5 L5 C5,.slice D5 M5 E5]) (by simp[results,Tryz.results192,go_sem,P3,P4,P5]) rfl ⟨_,rfl,P1,P2⟩
theorem maxfunc_any (v:Value) (rs:List Rat) (w:World) (h:IsQs w v rs) (h0:0<rs.length) (hs:∀i,i<rs.length→BQ (qnt rs i) 10000):
 Calls Tryz.prog 193 #[v,.func (.func 191) #[] #[]] w fun e w'=>∃v',e= .returned v'∧IsQ w' v' (mxTo rs (rs.length - 1))∧Below w.heap.size w w':=by
 obtain⟨A,c,rfl,_,_⟩:=h.len
 obtain⟨g,Y0,hR,hB,hgw,EY⟩:=boxes1 w 32 #[.bool false,.slice none 0 0,.slice none 0 0]
 obtain⟨c0,c1,c2⟩:=hR.q3
 go_enter Tryz.func193,Tryz.ntmps193
 have n0:decide ((rs.length:Int)<1)=false:=decide_eq_false (by omega)
 go_upto_region 3 with fail
 rw[←EY.out.2,←EY.out.1]
 have hv:=h.below hB
 obtain⟨ad,c',s1,p1,r1,e1,_,x0,x1,x2,q1⟩:=hv.at_ h0
 obtain⟨rfl, -, -⟩:=Value.slice.inj e1
 have e0:ad.add (0*3)=ad:=by simp[Addr.add]
 rw[e0] at x0 x1 x2
 rw[qnt_at] at q1
 obtain⟨s5,A5,L5,C5,D5,M5,E5,e3,q5⟩:=q1.opn
 obtain⟨rfl,rfl,rfl⟩:s5=s1∧p1= .slice A5 L5 C5∧r1= .slice D5 M5 E5:=by
  injection e3 with e3;simp only[Array.mk.injEq,List.cons.injEq,and_true] at e3;exact⟨by have:=e3.1;injection this with this;exact this.symm,e3.2.1,e3.2.2⟩
 clear e1 e0 e3 q1 hv
 obtain⟨X2,V2,h5,bV2,lX2,nX2,EV2⟩:=boxL hB 32 #[.bool s5,.slice A5 L5 C5,.slice D5 M5 E5]
 have dX2_hR:=nX2 _ hR.lt
 clear nX2
 go_upto_region 4 with fail
 rw[←EV2.out.1,←EV2.out.2]
 replace hR:=hR.b bV2
 replace q5:=q5.b bV2
 replace hB:=bOn hB bV2
 clear c0 c1 c2
 obtain⟨c3,c4,c5⟩:=hR.q3
 obtain⟨c6,c7,c8⟩:=h5.q3
 clear x0 x1 x2 n0
 go_wp2_with fail
 go_loopw [6] (fun iV wr=>∃(J:Nat) (s5:Bool) (A5 D5:Option Addr) (L5 C5 M5 E5:Nat),iV= .int .i64 J∧1≤J∧J≤rs.length∧Blk wr g 32 #[.bool false,.slice none 0 0,.slice none 0 0]∧Blk wr X2 32 #[.bool s5,.slice A5 L5 C5,.slice D5 M5 E5]∧IsQ wr (.agg #[.bool s5,.slice A5 L5 C5,.slice D5 M5 E5]) (mxTo rs (J - 1))∧Below w.heap.size w wr) (fun iV _=>rs.length - (intOf iV).toNat)
 case atStart=>exact⟨1,_,_,_,_,_,_,_,rfl,Nat.le_refl _,h0,hR,h5,q5,hB⟩
 case round=>
  clear hR h5 q5 hB
  obtain⟨J,s5,A5,D5,L5,C5,M5,E5,rfl,hJ1,hJ,hR,h5,q5,hB⟩:=hrel
  by_cases hlt:J<rs.length
  ·have hv:=h.below hB
   obtain⟨ad',c',s1,p1,r1,e1,_,x0,x1,x2,q1⟩:=hv.at_ hlt
   obtain⟨e2, -, -⟩:=Value.slice.inj e1
   obtain rfl:=Option.some.inj e2
   rw[qnt_at] at q1
   obtain⟨s6,A6,L6,C6,D6,M6,E6,e3,q6⟩:=q1.opn
   obtain⟨rfl,rfl,rfl⟩:s6=s1∧p1= .slice A6 L6 C6∧r1= .slice D6 M6 E6:=by
    injection e3 with e3;simp only[Array.mk.injEq,List.cons.injEq,and_true] at e3;exact⟨by have:=e3.1;injection this with this;exact this.symm,e3.2.1,e3.2.2⟩
   have i0:(0:Int)≤(J:Int):=by omega
   have i1:(J:Int)<(rs.length:Int):=by omega
   have s6':=hs J hlt
   have s5':=mxTo_all (l:=rs) (P:=fun q=>BQ q 10000) hs (J - 1) (by omega)
   have hC:=fun u v w h1 h2=>prcmp_any u v (qnt rs J) (mxTo rs (J - 1)) w h1 h2 s6' s5'
   have HN:=Lib.hid (show mxTo rs J=if 0<cmpQ (qnt rs J) (mxTo rs (J - 1)) then qnt rs J else mxTo rs (J - 1) by
    obtain⟨K,rfl⟩:∃K,J=K+1:=⟨J - 1,by omega⟩
    rfl)
   generalize cmpQ (qnt rs J) (mxTo rs (J - 1))=cm at *
   clear e1 e2 e3 q1 hv s6' s5'
   go_upto_region 7 with fail
   replace hB:=hB.drew
   replace hR:=hR.drew
   replace h5:=h5.drew
   replace q5:=q5.b (bdrew _)
   replace x0:=cellAU (bdrew _) x0
   replace x1:=cellAU (bdrew _) x1
   replace x2:=cellAU (bdrew _) x2
   replace q6:=q6.b (bdrew _)
   clear c3 c4 c5 c6 c7 c8
   refine wp_region_noPanic ?_
   refine wp_region_held_drew (S:=fun w'=>w'.cell? (ad.add (J*3))=some (.bool s6)∧w'.cell? ⟨(ad.add (J*3)).block,(ad.add (J*3)).off+1,none⟩=some (.slice A6 L6 C6)∧w'.cell? ⟨(ad.add (J*3)).block,(ad.add (J*3)).off+2,none⟩=some (.slice D6 M6 E6)∧w'.cell? ⟨X2,0,none⟩=some (.bool s5)∧w'.cell? ⟨X2,1,none⟩=some (.slice A5 L5 C5)∧w'.cell? ⟨X2,2,none⟩=some (.slice D5 M5 E5)) (by kernel_rfl) ?_ (fun hHeld=>?_)
   ·exact⟨x0,x1,x2,h5.cell 0,h5.cell 1,h5.cell 2⟩
   obtain⟨wd7_1,hwd⟩:∃q,q=wr.drew:=⟨_,rfl⟩
   rw[←hwd] at hB hR h5 q5 x0 x1 x2 q6 hHeld ⊢
   clear hwd
   refine tkA 0 rfl ?_
   refine tkA 1 rfl ?_
   refine tkA 2 rfl ?_
   refine tkA 3 rfl ?_
   refine tkA 4 rfl ?_
   refine tkA 5 rfl ?_
   try simp only[Act.put,lay]
   refine rd1 6 rfl fun K hK=>?_
   go_simp
   refine (hC _ _ _ q6 q5).mono ?_
   rintro e u7_1 ⟨rfl,b7_1⟩
   replace hR:=hR.b b7_1
   replace h5:=h5.b b7_1
   replace q5:=q5.b b7_1
   replace x0:=cellAU b7_1 x0
   replace x1:=cellAU b7_1 x1
   replace x2:=cellAU b7_1 x2
   replace q6:=q6.b b7_1
   replace hB:=bOn hB b7_1
   go_wp2_with fail
   refine hK.out _ _ ?_ fun hHeld=>?_
   ·exact⟨x0,x1,x2,h5.cell 0,h5.cell 1,h5.cell 2⟩
   clear hK K
   refine tkA 7 rfl ?_
   try simp only[Act.put,lay]
   try dsimp only
   try simp only[Act.put,lay]
   refine wpAnyH_done (by kernel_rfl) ?_ _
   refine NoPanic.normal ?_
   skip
   obtain⟨c9,c10,c11⟩:=hR.q3
   obtain⟨c12,c13,c14⟩:=h5.q3
   by_cases hc:0<cm
   ·have hd:decide (0<cm)=true:=decide_eq_true hc
    obtain⟨W8,eW,f1,f2,f3,f4⟩:=fill3 h5 (.bool s6) (.slice A6 L6 C6) (.slice D6 M6 E6) (by simp[noU])
    have xf:=h5.frozen
    have y0:=h5.cell 0
    have y1:=h5.cell 1
    have y2:=h5.cell 2
    rw[if_pos hc] at HN
    go_upto_region 6 with fail
    rw[←eW]
    replace hR:=f3 _ _ _ hR (by omega)
    replace q6:=q6.filled f2
    replace hB:=f4 _ _ (by omega) hB
    clear eW f2 f3 f4 xf y0 y1 y2 h5 x0 x1 x2 hd
    go_wp2
    exact⟨⟨J+1,s6,A6,D6,L6,C6,M6,E6,by go_num,by omega,by omega,hR,f1,by rw[Nat.add_sub_cancel,HN.out];exact q6,hB⟩,by simp[intOf];omega⟩
   ·have hd:decide (0<cm)=false:=decide_eq_false hc
    rw[if_neg hc] at HN
    go_wp2
    exact⟨⟨J+1,s5,A5,D5,L5,C5,M5,E5,by go_num,by omega,by omega,hR,h5,by rw[Nat.add_sub_cancel,HN.out];exact q5,hB⟩,by simp[intOf];omega⟩
  ·obtain rfl:J=rs.length:=by omega
   obtain⟨y0,y1,y2⟩:=h5.q3
   obtain⟨p1,p2,p3⟩:=put3 hR (.bool s5) (.slice A5 L5 C5) (.slice D5 M5 E5) (by simp[noU]) hB (by omega)
   have rc0:World.cell? _ ⟨g,0,none⟩=some (.bool false):=hR.cell 0
   have rf0:=hR.frozen 0
   have rc1:World.cell? _ ⟨g,1,none⟩=some (.slice none 0 0):=hR.cell 1
   have rf1:=hR.frozen 1
   have rc2:World.cell? _ ⟨g,2,none⟩=some (.slice none 0 0):=hR.cell 2
   have rf2:=hR.frozen 2
   have P:=Lib.hid (And.intro (q5.kept p2) (And.intro p3 p1.cells3))
   clear p1 p2 p3
   go_wp2_with fail
   obtain⟨P1,P2,P3,P4,P5⟩:=P.out
   exact bodyPost_ret (v:= .agg #[.bool s5,.slice A5 L5 C5,.slice D5 M5 E5]) (by simp[results,Tryz.results193,go_sem,P3,P4,P5]) rfl ⟨_,rfl,P1,P2⟩
theorem around_any (v:Value) (rs:List Rat) (w:World) (h:IsQs w v rs) (h0:0<rs.length) (hs:∀i,i<rs.length→BQ (qnt rs i) 10000):
 Calls Tryz.prog 146 #[v] w fun e w'=>∃v',e= .returned v'∧IsS w' v' (mnTo rs (rs.length - 1)) (mxTo rs (rs.length - 1))∧Below w.heap.size w w':=by
 obtain⟨A,c,rfl,_,_⟩:=h.len
 have hMn:=fun w h=>minfunc_any (.slice A rs.length c) rs w h h0 hs
 have hMx:=fun w h=>maxfunc_any (.slice A rs.length c) rs w h h0 hs
 generalize mnTo rs (rs.length - 1)=r1 at *
 generalize mxTo rs (rs.length - 1)=r2 at *
 clear hs h0
 obtain⟨g,Y0,hR,hB,hgw,EY⟩:=boxes1 w 46 #[.bool false,.slice none 0 0,.slice none 0 0,.bool false,.slice none 0 0,.slice none 0 0]
 replace h:=h.b hB
 obtain⟨c0,c1,c2,c3,c4,c5⟩:=hR.q6
 go_enter Tryz.func146,Tryz.ntmps146
 go_wp2_with fail
 rw[←EY.out.2,←EY.out.1]
 refine (hMn _ h).mono ?_
 rintro e w2 ⟨v1,rfl,q1,b2⟩
 replace h:=h.b b2
 replace hR:=hR.b b2
 replace hB:=bOn hB b2
 clear c0 c1 c2 c3 c4 c5
 obtain⟨c6,c7,c8,c9,c10,c11⟩:=hR.q6
 obtain⟨s1,A1,L1,C1,D1,M1,E1,rfl,q1⟩:=q1.opn
 go_wp2_with fail
 refine (hMx _ h).mono ?_
 rintro e w4 ⟨v2,rfl,q2,b4⟩
 replace h:=h.b b4
 replace hR:=hR.b b4
 replace q1:=q1.b b4
 replace hB:=bOn hB b4
 clear c6 c7 c8 c9 c10 c11
 obtain⟨c12,c13,c14,c15,c16,c17⟩:=hR.q6
 obtain⟨s2,A2,L2,C2,D2,M2,E2,rfl,q2⟩:=q2.opn
 obtain⟨p1,p2,p3⟩:=put6 hR (.bool s1) (.slice A1 L1 C1) (.slice D1 M1 E1) (.bool s2) (.slice A2 L2 C2) (.slice D2 M2 E2) (by simp[noU]) hB (by omega)
 have rc0:World.cell? _ ⟨g,0,none⟩=some (.bool false):=hR.cell 0
 have rf0:=hR.frozen 0
 have rc1:World.cell? _ ⟨g,1,none⟩=some (.slice none 0 0):=hR.cell 1
 have rf1:=hR.frozen 1
 have rc2:World.cell? _ ⟨g,2,none⟩=some (.slice none 0 0):=hR.cell 2
 have rf2:=hR.frozen 2
 have rc3:World.cell? _ ⟨g,3,none⟩=some (.bool false):=hR.cell 3
 have rf3:=hR.frozen 3
 have rc4:World.cell? _ ⟨g,4,none⟩=some (.slice none 0 0):=hR.cell 4
 have rf4:=hR.frozen 4
 have rc5:World.cell? _ ⟨g,5,none⟩=some (.slice none 0 0):=hR.cell 5
 have rf5:=hR.frozen 5
 have P:=Lib.hid (And.intro (⟨_,_,_,_,_,_,rfl,q1.kept p2,q2.kept p2⟩:IsS _ _ r1 r2) (And.intro p3 p1.cells6))
 clear p1 p2 p3
 go_wp2_with fail
 obtain⟨P1,P2,P3,P4,P5,P6,P7,P8⟩:=P.out
 exact bodyPost_ret (v:= .agg #[.bool s1,.slice A1 L1 C1,.slice D1 M1 E1,.bool s2,.slice A2 L2 C2,.slice D2 M2 E2]) (by simp[results,Tryz.results146,go_sem,P3,P4,P5,P6,P7,P8]) rfl ⟨_,rfl,P1,P2⟩
theorem IsQs.of_blk {w:World} {X:Nat} {t:TypeId} {es:List Eq3} {rs:List Rat} (hb:Blk w X t (flatQ es).toArray) (hok:OkQ w es rs) (hl:rs.length≤1000):IsQs w (.slice (some ⟨X,0,none⟩) rs.length rs.length) rs:=by
 have h1:=hok.1
 have hf:=flatQ_len es
 refine ⟨es,_,_,rfl,Nat.le_refl _,by omega,hok,by rw[hf,h1],fun _=>⟨_,rfl,hb.lt,fun j u hu=>?_⟩⟩
 have e:Addr.add ⟨X,0,none⟩ j=⟨X,j,none⟩:=by
  unfold Addr.add
  by_cases h:j=0
  ·rw[if_pos h,h]
  ·rw[if_neg h,Nat.zero_add]
 rw[e,hb.cell j,←hu]
 simp
theorem pivmul_any (u v:Value) (a b c d:Rat) (w:World) (h:IsS w u a b) (h':IsS w v c d) (sa:BQ a 4000) (sb:BQ b 4000) (sc:BQ c 4000) (sd:BQ d 4000):
 Calls Tryz.prog 89 #[u,v] w fun e w'=>∃v',e= .returned v'∧IsS w' v' (mnTo [a*c,a*d,b*c,b*d] 3) (mxTo [a*c,a*d,b*c,b*d] 3)∧Below w.heap.size w w':=by
 have hM1:=fun u v w h1 h2=>pmul_any u v a c w h1 h2 (sa.more (by omega)) (sc.more (by omega))
 have hM2:=fun u v w h1 h2=>pmul_any u v a d w h1 h2 (sa.more (by omega)) (sd.more (by omega))
 have hM3:=fun u v w h1 h2=>pmul_any u v b c w h1 h2 (sb.more (by omega)) (sc.more (by omega))
 have hM4:=fun u v w h1 h2=>pmul_any u v b d w h1 h2 (sb.more (by omega)) (sd.more (by omega))
 have hAr:=fun v w h=>around_any v [a*c,a*d,b*c,b*d] w h (by simp) (fun i hi=>by
  rw[←qnt_at hi]
  match i,hi with
  | 0,_=>exact (sa.mul sc).more (by omega)
  | 1,_=>exact (sa.mul sd).more (by omega)
  | 2,_=>exact (sb.mul sc).more (by omega)
  | 3,_=>exact (sb.mul sd).more (by omega))
 rw[show [a*c,a*d,b*c,b*d].length - 1=3 from rfl] at hAr
 generalize mnTo [a*c,a*d,b*c,b*d] 3=rl at *
 generalize mxTo [a*c,a*d,b*c,b*d] 3=rh at *
 generalize a*c=r1 at *
 generalize a*d=r2 at *
 generalize b*c=r3 at *
 generalize b*d=r4 at *
 obtain⟨s1,A1,L1,C1,D1,M1,E1,s2,A2,L2,C2,D2,M2,E2,rfl,q1,q2⟩:=h.opn
 obtain⟨s3,A3,L3,C3,D3,M3,E3,s4,A4,L4,C4,D4,M4,E4,rfl,q3,q4⟩:=h'.opn
 clear h h' sa sb sc sd
 obtain⟨g,Y2,hA,hC,hR,hB,hgw,EY⟩:=boxes3 w 46 #[.bool s1,.slice A1 L1 C1,.slice D1 M1 E1,.bool s2,.slice A2 L2 C2,.slice D2 M2 E2] 46 #[.bool s3,.slice A3 L3 C3,.slice D3 M3 E3,.bool s4,.slice A4 L4 C4,.slice D4 M4 E4] 46 #[.bool false,.slice none 0 0,.slice none 0 0,.bool false,.slice none 0 0,.slice none 0 0]
 replace q1:=q1.b hB
 replace q2:=q2.b hB
 replace q3:=q3.b hB
 replace q4:=q4.b hB
 obtain⟨c0,c1,c2,c3,c4,c5⟩:=hA.q6
 obtain⟨c6,c7,c8,c9,c10,c11⟩:=hC.q6
 obtain⟨c12,c13,c14,c15,c16,c17⟩:=hR.q6
 go_enter Tryz.func89,Tryz.ntmps89
 go_upto_region 1 with fail
 rw[←EY.out.2,←EY.out.1]
 replace hB:=hB.drew
 replace q1:=q1.b (bdrew _)
 replace q2:=q2.b (bdrew _)
 replace q3:=q3.b (bdrew _)
 replace q4:=q4.b (bdrew _)
 replace hA:=hA.drew
 replace hC:=hC.drew
 replace hR:=hR.drew
 clear c0 c1 c2 c3 c4 c5 c6 c7 c8 c9 c10 c11 c12 c13 c14 c15 c16 c17
 refine wp_region_noPanic ?_
 refine wp_region_held_drew (S:=fun w'=>w'.cell? ⟨g,0,none⟩=some (.bool s1)∧w'.cell? ⟨g,1,none⟩=some (.slice A1 L1 C1)∧w'.cell? ⟨g,2,none⟩=some (.slice D1 M1 E1)∧w'.cell? ⟨g,3,none⟩=some (.bool s2)∧w'.cell? ⟨g,4,none⟩=some (.slice A2 L2 C2)∧w'.cell? ⟨g,5,none⟩=some (.slice D2 M2 E2)∧w'.cell? ⟨g+1,0,none⟩=some (.bool s3)∧w'.cell? ⟨g+1,1,none⟩=some (.slice A3 L3 C3)∧w'.cell? ⟨g+1,2,none⟩=some (.slice D3 M3 E3)∧w'.cell? ⟨g+1,3,none⟩=some (.bool s4)∧w'.cell? ⟨g+1,4,none⟩=some (.slice A4 L4 C4)∧w'.cell? ⟨g+1,5,none⟩=some (.slice D4 M4 E4)) (by kernel_rfl) ?_ (fun hHeld=>?_)
 ·exact⟨hA.cell 0,hA.cell 1,hA.cell 2,hA.cell 3,hA.cell 4,hA.cell 5,hC.cell 0,hC.cell 1,hC.cell 2,hC.cell 3,hC.cell 4,hC.cell 5⟩
 obtain⟨wd1_1,hwd⟩:∃q,q=Y2.drew:=⟨_,rfl⟩
 rw[←hwd] at hB q1 q2 q3 q4 hA hC hR hHeld ⊢
 clear hwd
 refine tkA 0 rfl ?_
 refine tkA 1 rfl ?_
 refine tkA 2 rfl ?_
 refine tkA 3 rfl ?_
 refine tkA 5 rfl ?_
 refine tkA 6 rfl ?_
 refine tkA 7 rfl ?_
 refine tkA 8 rfl ?_
 refine tkA 10 rfl ?_
 refine tkA 11 rfl ?_
 refine tkA 12 rfl ?_
 refine tkA 13 rfl ?_
 refine tkA 15 rfl ?_
 refine tkA 16 rfl ?_
 refine tkA 17 rfl ?_
 refine tkA 18 rfl ?_
 try simp only[Act.put,lay]
 refine rd1 4 rfl fun K hK=>?_
 go_simp
 refine (hM1 _ _ _ q1 q3).mono ?_
 rintro e u1_1 ⟨v5,rfl,q5,b1_1⟩
 replace q1:=q1.b b1_1
 replace q2:=q2.b b1_1
 replace q3:=q3.b b1_1
 replace q4:=q4.b b1_1
 replace hA:=hA.b b1_1
 replace hC:=hC.b b1_1
 replace hR:=hR.b b1_1
 replace hB:=bOn hB b1_1
 obtain⟨s5,A5,L5,C5,D5,M5,E5,rfl,q5⟩:=q5.opn
 go_wp2_with fail
 refine hK.out _ _ ?_ fun hHeld=>?_
 ·exact⟨hA.cell 0,hA.cell 1,hA.cell 2,hA.cell 3,hA.cell 4,hA.cell 5,hC.cell 0,hC.cell 1,hC.cell 2,hC.cell 3,hC.cell 4,hC.cell 5⟩
 clear hK K
 try simp only[Act.put,lay]
 refine rd1 9 rfl fun K hK=>?_
 go_simp
 refine (hM2 _ _ _ q1 q4).mono ?_
 rintro e u1_2 ⟨v6,rfl,q6,b1_2⟩
 replace q1:=q1.b b1_2
 replace q2:=q2.b b1_2
 replace q3:=q3.b b1_2
 replace q4:=q4.b b1_2
 replace hA:=hA.b b1_2
 replace hC:=hC.b b1_2
 replace hR:=hR.b b1_2
 replace q5:=q5.b b1_2
 replace hB:=bOn hB b1_2
 obtain⟨s6,A6,L6,C6,D6,M6,E6,rfl,q6⟩:=q6.opn
 go_wp2_with fail
 refine hK.out _ _ ?_ fun hHeld=>?_
 ·exact⟨hA.cell 0,hA.cell 1,hA.cell 2,hA.cell 3,hA.cell 4,hA.cell 5,hC.cell 0,hC.cell 1,hC.cell 2,hC.cell 3,hC.cell 4,hC.cell 5⟩
 clear hK K
 try simp only[Act.put,lay]
 refine rd1 14 rfl fun K hK=>?_
 go_simp
 refine (hM3 _ _ _ q2 q3).mono ?_
 rintro e u1_3 ⟨v7,rfl,q7,b1_3⟩
 replace q1:=q1.b b1_3
 replace q2:=q2.b b1_3
 replace q3:=q3.b b1_3
 replace q4:=q4.b b1_3
 replace hA:=hA.b b1_3
 replace hC:=hC.b b1_3
 replace hR:=hR.b b1_3
 replace q5:=q5.b b1_3
 replace q6:=q6.b b1_3
 replace hB:=bOn hB b1_3
 obtain⟨s7,A7,L7,C7,D7,M7,E7,rfl,q7⟩:=q7.opn
 go_wp2_with fail
 refine hK.out _ _ ?_ fun hHeld=>?_
 ·exact⟨hA.cell 0,hA.cell 1,hA.cell 2,hA.cell 3,hA.cell 4,hA.cell 5,hC.cell 0,hC.cell 1,hC.cell 2,hC.cell 3,hC.cell 4,hC.cell 5⟩
 clear hK K
 try simp only[Act.put,lay]
 refine rd1 19 rfl fun K hK=>?_
 go_simp
 refine (hM4 _ _ _ q2 q4).mono ?_
 rintro e u1_4 ⟨v8,rfl,q8,b1_4⟩
 replace q1:=q1.b b1_4
 replace q2:=q2.b b1_4
 replace q3:=q3.b b1_4
 replace q4:=q4.b b1_4
 replace hA:=hA.b b1_4
 replace hC:=hC.b b1_4
 replace hR:=hR.b b1_4
 replace q5:=q5.b b1_4
 replace q6:=q6.b b1_4
 replace q7:=q7.b b1_4
 replace hB:=bOn hB b1_4
 obtain⟨s8,A8,L8,C8,D8,M8,E8,rfl,q8⟩:=q8.opn
 go_wp2_with fail
 refine hK.out _ _ ?_ fun hHeld=>?_
 ·exact⟨hA.cell 0,hA.cell 1,hA.cell 2,hA.cell 3,hA.cell 4,hA.cell 5,hC.cell 0,hC.cell 1,hC.cell 2,hC.cell 3,hC.cell 4,hC.cell 5⟩
 clear hK K
 try simp only[Act.put,lay]
 refine rd1 20 rfl fun K hK=>?_
 obtain⟨u1_5,eu,hS,bS⟩:=box1 u1_4 32 #[.bool s5,.slice A5 L5 C5,.slice D5 M5 E5,.bool s6,.slice A6 L6 C6,.slice D6 M6 E6,.bool s7,.slice A7 L7 C7,.slice D7 M7 E7,.bool s8,.slice A8 L8 C8,.slice D8 M8 E8]
 obtain⟨XS,en⟩:∃X,X=u1_4.heap.size:=⟨_,rfl⟩
 rw[←en] at hS
 have EUS:=Lib.hid (And.intro eu en)
 clear eu en
 go_simp
 rw[←EUS.out.1,←EUS.out.2]
 replace hA:=hA.b bS
 replace hC:=hC.b bS
 replace hR:=hR.b bS
 replace q5:=q5.b bS
 replace q6:=q6.b bS
 replace q7:=q7.b bS
 replace q8:=q8.b bS
 replace hB:=bOn hB bS
 have hL:IsQs u1_5 (.slice (some ⟨XS,0,none⟩) 4 4) [r1,r2,r3,r4]:=IsQs.of_blk (es:=[(s5,.slice A5 L5 C5,.slice D5 M5 E5),(s6,.slice A6 L6 C6,.slice D6 M6 E6),(s7,.slice A7 L7 C7,.slice D7 M7 E7),(s8,.slice A8 L8 C8,.slice D8 M8 E8)]) (rs:=[r1,r2,r3,r4]) hS ((((OkQ.nil _).snoc q5).snoc q6).snoc q7 |>.snoc q8) (by simp)
 clear hS bS
 refine hK.out _ _ ?_ fun hHeld=>?_
 ·exact⟨hA.cell 0,hA.cell 1,hA.cell 2,hA.cell 3,hA.cell 4,hA.cell 5,hC.cell 0,hC.cell 1,hC.cell 2,hC.cell 3,hC.cell 4,hC.cell 5⟩
 clear hK K
 try simp only[Act.put,lay]
 refine rd1 21 rfl fun K hK=>?_
 go_simp
 refine (hAr _ _ hL).mono ?_
 rintro e u1_6 ⟨v9,rfl,h9,b9⟩
 obtain⟨s9,A9,L9,C9,D9,M9,E9,s10,A10,L10,C10,D10,M10,E10,rfl,q9,q10⟩:=h9.opn
 replace hA:=hA.b b9
 replace hC:=hC.b b9
 replace hR:=hR.b b9
 replace hB:=bOn hB b9
 clear hL
 go_wp2_with fail
 refine hK.out _ _ ?_ fun hHeld=>?_
 ·exact⟨hA.cell 0,hA.cell 1,hA.cell 2,hA.cell 3,hA.cell 4,hA.cell 5,hC.cell 0,hC.cell 1,hC.cell 2,hC.cell 3,hC.cell 4,hC.cell 5⟩
 clear hK K
 try simp only[Act.put,lay]
 refine rd1 22 rfl fun K hK=>?_
 obtain⟨u1_7,eu,hR',kz,kb,kB⟩:=fill6 hR (.bool s9) (.slice A9 L9 C9) (.slice D9 M9 E9) (.bool s10) (.slice A10 L10 C10) (.slice D10 M10 E10) (by simp[noU])
 obtain⟨x0,x1,x2,x3,x4,x5⟩:=hR.q6
 have xf:=hR.frozen
 go_simp
 rw[←eu]
 replace hA:=kb _ _ _ hA (by omega)
 replace hC:=kb _ _ _ hC (by omega)
 replace q9:=q9.filled kz
 replace q10:=q10.filled kz
 replace hB:=kB _ _ (by omega) hB
 replace hR:=hR'
 clear hR' kz kb kB eu xf x0 x1 x2 x3 x4 x5
 refine hK.out _ _ ?_ fun hHeld=>?_
 ·exact⟨hA.cell 0,hA.cell 1,hA.cell 2,hA.cell 3,hA.cell 4,hA.cell 5,hC.cell 0,hC.cell 1,hC.cell 2,hC.cell 3,hC.cell 4,hC.cell 5⟩
 clear hK K
 try simp only[Act.put,lay]
 try dsimp only
 try simp only[Act.put,lay]
 refine wpAnyH_done (by kernel_rfl) ?_ _
 refine NoPanic.normal ?_
 skip
 obtain⟨c18,c19,c20,c21,c22,c23⟩:=hA.q6
 obtain⟨c24,c25,c26,c27,c28,c29⟩:=hC.q6
 obtain⟨c30,c31,c32,c33,c34,c35⟩:=hR.q6
 go_wp2_with fail
 exact bodyPost_ret (v:= .agg #[.bool s9,.slice A9 L9 C9,.slice D9 M9 E9,.bool s10,.slice A10 L10 C10,.slice D10 M10 E10]) (by simp[results,Tryz.results89,go_sem,c30,c31,c32,c33,c34,c35]) rfl ⟨_,rfl,⟨_,_,_,_,_,_,rfl,q9,q10⟩,hB⟩
theorem fillLo {w:World} {R:Nat} {t:TypeId} {a b c d e f:Value} (hR:Blk w R t #[a,b,c,d,e,f]) (x y z:Value) (hcs:(#[a,b,c,d,e,f]:Array Value).all noU=true):∃W,W=((w.setCell ⟨R,0,none⟩ x).setCell ⟨R,1,none⟩ y).setCell ⟨R,2,none⟩ z∧Filled w W R t #[x,y,z,d,e,f]:=
 ⟨_,rfl,by simpa using ((hR.set_ 0 x).set_ 1 y).set_ 2 z,fun v l h=>h.keepBlk hR hcs (fun k hk=>(Below.heap_setCell _ ⟨R,2,none⟩ z k hk).trans ((Below.heap_setCell _ ⟨R,1,none⟩ y k hk).trans (Below.heap_setCell w ⟨R,0,none⟩ x k hk))) (by simp[World.setCell]),fun g t' cs h hne=>((h.far (p:=⟨R,0,none⟩) hne x).far (p:=⟨R,1,none⟩) hne y).far (p:=⟨R,2,none⟩) hne z,fun B w0 hBR hB=>((hB.setCell (p:=⟨R,0,none⟩) hBR x).setCell (p:=⟨R,1,none⟩) hBR y).setCell (p:=⟨R,2,none⟩) hBR z⟩
theorem fillHi {w:World} {R:Nat} {t:TypeId} {a b c d e f:Value} (hR:Blk w R t #[a,b,c,d,e,f]) (x y z:Value) (hcs:(#[a,b,c,d,e,f]:Array Value).all noU=true):∃W,W=((w.setCell ⟨R,3,none⟩ x).setCell ⟨R,4,none⟩ y).setCell ⟨R,5,none⟩ z∧Filled w W R t #[a,b,c,x,y,z]:=
 ⟨_,rfl,by simpa using ((hR.set_ 3 x).set_ 4 y).set_ 5 z,fun v l h=>h.keepBlk hR hcs (fun k hk=>(Below.heap_setCell _ ⟨R,5,none⟩ z k hk).trans ((Below.heap_setCell _ ⟨R,4,none⟩ y k hk).trans (Below.heap_setCell w ⟨R,3,none⟩ x k hk))) (by simp[World.setCell]),fun g t' cs h hne=>((h.far (p:=⟨R,3,none⟩) hne x).far (p:=⟨R,4,none⟩) hne y).far (p:=⟨R,5,none⟩) hne z,fun B w0 hBR hB=>((hB.setCell (p:=⟨R,3,none⟩) hBR x).setCell (p:=⟨R,4,none⟩) hBR y).setCell (p:=⟨R,5,none⟩) hBR z⟩
theorem mnTo_step (l:List Rat) (J:Nat):mnTo l J=if cmpQ (qnt l J) (mnTo l (J - 1))<0 then qnt l J else mnTo l (J - 1):=by
 rcases J with _ | J
 ·show qnt l 0=if cmpQ (qnt l 0) (qnt l 0)<0 then qnt l 0 else qnt l 0
  split<;>rfl
 ·rfl
theorem mxTo_step (l:List Rat) (J:Nat):mxTo l J=if 0<cmpQ (qnt l J) (mxTo l (J - 1)) then qnt l J else mxTo l (J - 1):=by
 rcases J with _ | J
 ·show qnt l 0=if 0<cmpQ (qnt l 0) (qnt l 0) then qnt l 0 else qnt l 0
  split<;>rfl
 ·rfl
theorem rivof_any (v:Value) (a:Rat) (w:World) (h:IsQ w v a):
 Calls Tryz.prog 34 #[v] w fun e w'=>∃v',e= .returned v'∧IsS w' v' a a∧Below w.heap.size w w':=by
 obtain⟨s1,A1,L1,C1,D1,M1,E1,rfl,q1⟩:=h.opn
 clear h
 obtain⟨g,Y1,hA,hR,hB,hgw,EY⟩:=boxes2 w 32 #[.bool s1,.slice A1 L1 C1,.slice D1 M1 E1] 46 #[.bool s1,.slice A1 L1 C1,.slice D1 M1 E1,.bool s1,.slice A1 L1 C1,.slice D1 M1 E1]
 replace q1:=q1.b hB
 obtain⟨c0,c1,c2⟩:=hA.q3
 obtain⟨c3,c4,c5,c6,c7,c8⟩:=hR.q6
 go_enter Tryz.func34,Tryz.ntmps34
 go_wp2_with fail
 rw[←EY.out.2,←EY.out.1]
 exact bodyPost_ret (v:= .agg #[.bool s1,.slice A1 L1 C1,.slice D1 M1 E1,.bool s1,.slice A1 L1 C1,.slice D1 M1 E1]) (by simp[results,Tryz.results34,go_sem,c3,c4,c5,c6,c7,c8]) rfl ⟨_,rfl,⟨_,_,_,_,_,_,rfl,q1,q1⟩,by rw[EY.out.1];exact hB⟩
theorem rivadd_any (u v:Value) (a b c d:Rat) (w:World) (h:IsS w u a b) (h':IsS w v c d) (sa:BQ a 10000) (sb:BQ b 10000) (sc:BQ c 10000) (sd:BQ d 10000):
 Calls Tryz.prog 93 #[u,v] w fun e w'=>∃v',e= .returned v'∧IsS w' v' (a+c) (b+d)∧Below w.heap.size w w':=by
 have hA1:=fun u v w h1 h2=>rqadd_any u v a c w h1 h2 sa sc
 have hA2:=fun u v w h1 h2=>rqadd_any u v b d w h1 h2 sb sd
 generalize a+c=r1 at *
 generalize b+d=r2 at *
 obtain⟨s1,A1,L1,C1,D1,M1,E1,s2,A2,L2,C2,D2,M2,E2,rfl,q1,q2⟩:=h.opn
 obtain⟨s3,A3,L3,C3,D3,M3,E3,s4,A4,L4,C4,D4,M4,E4,rfl,q3,q4⟩:=h'.opn
 clear h h' sa sb sc sd
 obtain⟨g,Y2,hA,hC,hR,hB,hgw,EY⟩:=boxes3 w 46 #[.bool s1,.slice A1 L1 C1,.slice D1 M1 E1,.bool s2,.slice A2 L2 C2,.slice D2 M2 E2] 46 #[.bool s3,.slice A3 L3 C3,.slice D3 M3 E3,.bool s4,.slice A4 L4 C4,.slice D4 M4 E4] 46 #[.bool false,.slice none 0 0,.slice none 0 0,.bool false,.slice none 0 0,.slice none 0 0]
 replace q1:=q1.b hB
 replace q2:=q2.b hB
 replace q3:=q3.b hB
 replace q4:=q4.b hB
 obtain⟨c0,c1,c2,c3,c4,c5⟩:=hA.q6
 obtain⟨c6,c7,c8,c9,c10,c11⟩:=hC.q6
 obtain⟨c12,c13,c14,c15,c16,c17⟩:=hR.q6
 go_enter Tryz.func93,Tryz.ntmps93
 go_upto_region 1 with fail
 rw[←EY.out.2,←EY.out.1]
 replace hB:=hB.drew
 replace q1:=q1.b (bdrew _)
 replace q2:=q2.b (bdrew _)
 replace q3:=q3.b (bdrew _)
 replace q4:=q4.b (bdrew _)
 replace hA:=hA.drew
 replace hC:=hC.drew
 replace hR:=hR.drew
 clear c0 c1 c2 c3 c4 c5 c6 c7 c8 c9 c10 c11 c12 c13 c14 c15 c16 c17
 refine wp_region_noPanic ?_
 refine wp_region_held_drew (S:=fun w'=>w'.cell? ⟨g,0,none⟩=some (.bool s1)∧w'.cell? ⟨g,1,none⟩=some (.slice A1 L1 C1)∧w'.cell? ⟨g,2,none⟩=some (.slice D1 M1 E1)∧w'.cell? ⟨g,3,none⟩=some (.bool s2)∧w'.cell? ⟨g,4,none⟩=some (.slice A2 L2 C2)∧w'.cell? ⟨g,5,none⟩=some (.slice D2 M2 E2)∧w'.cell? ⟨g+1,0,none⟩=some (.bool s3)∧w'.cell? ⟨g+1,1,none⟩=some (.slice A3 L3 C3)∧w'.cell? ⟨g+1,2,none⟩=some (.slice D3 M3 E3)∧w'.cell? ⟨g+1,3,none⟩=some (.bool s4)∧w'.cell? ⟨g+1,4,none⟩=some (.slice A4 L4 C4)∧w'.cell? ⟨g+1,5,none⟩=some (.slice D4 M4 E4)) (by kernel_rfl) ?_ (fun hHeld=>?_)
 ·exact⟨hA.cell 0,hA.cell 1,hA.cell 2,hA.cell 3,hA.cell 4,hA.cell 5,hC.cell 0,hC.cell 1,hC.cell 2,hC.cell 3,hC.cell 4,hC.cell 5⟩
 obtain⟨wd1_1,hwd⟩:∃q,q=Y2.drew:=⟨_,rfl⟩
 rw[←hwd] at hB q1 q2 q3 q4 hA hC hR hHeld ⊢
 clear hwd
 refine tkA 0 rfl ?_
 refine tkA 1 rfl ?_
 refine tkA 2 rfl ?_
 refine tkA 3 rfl ?_
 refine tkA 5 rfl ?_
 refine tkA 6 rfl ?_
 refine tkA 7 rfl ?_
 refine tkA 8 rfl ?_
 try simp only[Act.put,lay]
 refine rd1 4 rfl fun K hK=>?_
 go_simp
 refine (hA1 _ _ _ q1 q3).mono ?_
 rintro e u1_1 ⟨v5,rfl,q5,b1_1⟩
 replace q1:=q1.b b1_1
 replace q2:=q2.b b1_1
 replace q3:=q3.b b1_1
 replace q4:=q4.b b1_1
 replace hA:=hA.b b1_1
 replace hC:=hC.b b1_1
 replace hR:=hR.b b1_1
 replace hB:=bOn hB b1_1
 obtain⟨s5,A5,L5,C5,D5,M5,E5,rfl,q5⟩:=q5.opn
 go_wp2_with fail
 refine hK.out _ _ ?_ fun hHeld=>?_
 ·exact⟨hA.cell 0,hA.cell 1,hA.cell 2,hA.cell 3,hA.cell 4,hA.cell 5,hC.cell 0,hC.cell 1,hC.cell 2,hC.cell 3,hC.cell 4,hC.cell 5⟩
 clear hK K
 try simp only[Act.put,lay]
 refine rd1 9 rfl fun K hK=>?_
 go_simp
 refine (hA2 _ _ _ q2 q4).mono ?_
 rintro e u1_2 ⟨v6,rfl,q6,b1_2⟩
 replace q1:=q1.b b1_2
 replace q2:=q2.b b1_2
 replace q3:=q3.b b1_2
 replace q4:=q4.b b1_2
 replace hA:=hA.b b1_2
 replace hC:=hC.b b1_2
 replace hR:=hR.b b1_2
 replace q5:=q5.b b1_2
 replace hB:=bOn hB b1_2
 obtain⟨s6,A6,L6,C6,D6,M6,E6,rfl,q6⟩:=q6.opn
 go_wp2_with fail
 refine hK.out _ _ ?_ fun hHeld=>?_
 ·exact⟨hA.cell 0,hA.cell 1,hA.cell 2,hA.cell 3,hA.cell 4,hA.cell 5,hC.cell 0,hC.cell 1,hC.cell 2,hC.cell 3,hC.cell 4,hC.cell 5⟩
 clear hK K
 refine tkA 10 rfl ?_
 try simp only[Act.put,lay]
 refine rd1 11 rfl fun K hK=>?_
 obtain⟨u1_3,eu,hR',kz,kb,kB⟩:=fill6 hR (.bool s5) (.slice A5 L5 C5) (.slice D5 M5 E5) (.bool s6) (.slice A6 L6 C6) (.slice D6 M6 E6) (by simp[noU])
 obtain⟨x0,x1,x2,x3,x4,x5⟩:=hR.q6
 have xf:=hR.frozen
 go_simp
 rw[←eu]
 replace q1:=q1.filled kz
 replace q2:=q2.filled kz
 replace q3:=q3.filled kz
 replace q4:=q4.filled kz
 replace hA:=kb _ _ _ hA (by omega)
 replace hC:=kb _ _ _ hC (by omega)
 replace q5:=q5.filled kz
 replace q6:=q6.filled kz
 replace hB:=kB _ _ (by omega) hB
 replace hR:=hR'
 clear hR' kz kb kB eu xf x0 x1 x2 x3 x4 x5
 refine hK.out _ _ ?_ fun hHeld=>?_
 ·exact⟨hA.cell 0,hA.cell 1,hA.cell 2,hA.cell 3,hA.cell 4,hA.cell 5,hC.cell 0,hC.cell 1,hC.cell 2,hC.cell 3,hC.cell 4,hC.cell 5⟩
 clear hK K
 try simp only[Act.put,lay]
 try dsimp only
 try simp only[Act.put,lay]
 refine wpAnyH_done (by kernel_rfl) ?_ _
 refine NoPanic.normal ?_
 skip
 obtain⟨c18,c19,c20,c21,c22,c23⟩:=hA.q6
 obtain⟨c24,c25,c26,c27,c28,c29⟩:=hC.q6
 obtain⟨c30,c31,c32,c33,c34,c35⟩:=hR.q6
 go_wp2_with fail
 exact bodyPost_ret (v:= .agg #[.bool s5,.slice A5 L5 C5,.slice D5 M5 E5,.bool s6,.slice A6 L6 C6,.slice D6 M6 E6]) (by simp[results,Tryz.results93,go_sem,c30,c31,c32,c33,c34,c35]) rfl ⟨_,rfl,⟨_,_,_,_,_,_,rfl,q5,q6⟩,hB⟩
theorem raround_all (v:Value) (rs:List Rat) (w:World) (h:IsQs w v rs) (h0:0<rs.length) (hs:∀i,i<rs.length→BQ (qnt rs i) 10000):
 Calls Tryz.prog 157 #[v] w fun e w'=>∃v',e= .returned v'∧IsS w' v' (mnTo rs (rs.length - 1)) (mxTo rs (rs.length - 1))∧Below w.heap.size w w':=by
 obtain⟨A,c,rfl,_,_⟩:=h.len
 have hOf:=fun v r w h=>rivof_any v r w h
 obtain⟨g,Y0,hR,hB,hgw,EY⟩:=boxes1 w 46 #[.bool false,.slice none 0 0,.slice none 0 0,.bool false,.slice none 0 0,.slice none 0 0]
 obtain⟨c0,c1,c2,c3,c4,c5⟩:=hR.q6
 go_enter Tryz.func157,Tryz.ntmps157
 go_upto_region 1 with fail
 rw[←EY.out.2,←EY.out.1]
 have hv:=h.below hB
 obtain⟨ad,c',s1,p1,r1,e1,_,x0,x1,x2,q1⟩:=hv.at_ h0
 obtain⟨rfl, -, -⟩:=Value.slice.inj e1
 have e0:ad.add (0*3)=ad:=by simp[Addr.add]
 rw[e0] at x0 x1 x2
 rw[qnt_at] at q1
 obtain⟨s5,A5,L5,C5,D5,M5,E5,e3,q5⟩:=q1.opn
 obtain⟨rfl,rfl,rfl⟩:s5=s1∧p1= .slice A5 L5 C5∧r1= .slice D5 M5 E5:=by
  injection e3 with e3;simp only[Array.mk.injEq,List.cons.injEq,and_true] at e3;exact⟨by have:=e3.1;injection this with this;exact this.symm,e3.2.1,e3.2.2⟩
 clear e1 e0 e3 q1 hv
 go_wp2_with fail
 refine (hOf _ _ _ q5).mono ?_
 rintro e w2 ⟨v6,rfl,h6,b2⟩
 replace hR:=hR.b b2
 replace q5:=q5.b b2
 replace hB:=bOn hB b2
 clear c0 c1 c2 c3 c4 c5
 obtain⟨c6,c7,c8,c9,c10,c11⟩:=hR.q6
 obtain⟨s6,A6,L6,C6,D6,M6,E6,s7,A7,L7,C7,D7,M7,E7,rfl,q6,q7⟩:=h6.opn
 clear x0 x1 x2
 obtain⟨X4,V4,h3,bV4,lX4,nX4,EV4⟩:=boxL hB 46 #[.bool s6,.slice A6 L6 C6,.slice D6 M6 E6,.bool s7,.slice A7 L7 C7,.slice D7 M7 E7]
 have dX4_hR:=nX4 _ hR.lt
 clear nX4
 go_upto_region 2 with fail
 rw[←EV4.out.1,←EV4.out.2]
 replace hR:=hR.b bV4
 replace q6:=q6.b bV4
 replace q7:=q7.b bV4
 replace hB:=bOn hB bV4
 clear c6 c7 c8 c9 c10 c11
 obtain⟨c12,c13,c14,c15,c16,c17⟩:=hR.q6
 obtain⟨c18,c19,c20,c21,c22,c23⟩:=h3.q6
 go_wp2_with fail
 go_loopw [4] (fun iV wr=>∃(J:Nat) (s6:Bool) (A6:Option Addr) (L6 C6:Nat) (D6:Option Addr) (M6 E6:Nat) (s7:Bool) (A7:Option Addr) (L7 C7:Nat) (D7:Option Addr) (M7 E7:Nat),iV= .int .i64 J∧J≤rs.length∧Blk wr g 46 #[.bool false,.slice none 0 0,.slice none 0 0,.bool false,.slice none 0 0,.slice none 0 0]∧Blk wr X4 46 #[.bool s6,.slice A6 L6 C6,.slice D6 M6 E6,.bool s7,.slice A7 L7 C7,.slice D7 M7 E7]∧IsQ wr (.agg #[.bool s6,.slice A6 L6 C6,.slice D6 M6 E6]) (mnTo rs (J - 1))∧IsQ wr (.agg #[.bool s7,.slice A7 L7 C7,.slice D7 M7 E7]) (mxTo rs (J - 1))∧Below w.heap.size w wr) (fun iV _=>rs.length - (intOf iV).toNat)
 case atStart=>exact⟨0,_,_,_,_,_,_,_,_,_,_,_,_,_,_,rfl,by omega,hR,h3,q6,q7,hB⟩
 case round=>
  clear hR h3 q6 q7 hB
  obtain⟨J,s6,A6,L6,C6,D6,M6,E6,s7,A7,L7,C7,D7,M7,E7,rfl,hJ,hR,h3,q6,q7,hB⟩:=hrel
  by_cases hlt:J<rs.length;rotate_left
  ·obtain rfl:J=rs.length:=by omega
   obtain⟨y0,y1,y2,y3,y4,y5⟩:=h3.q6
   obtain⟨p1,p2,p3⟩:=put6 hR (.bool s6) (.slice A6 L6 C6) (.slice D6 M6 E6) (.bool s7) (.slice A7 L7 C7) (.slice D7 M7 E7) (by simp[noU]) hB (by omega)
   have rc0:World.cell? _ ⟨g,0,none⟩=some (.bool false):=hR.cell 0
   have rf0:=hR.frozen 0
   have rc1:World.cell? _ ⟨g,1,none⟩=some (.slice none 0 0):=hR.cell 1
   have rf1:=hR.frozen 1
   have rc2:World.cell? _ ⟨g,2,none⟩=some (.slice none 0 0):=hR.cell 2
   have rf2:=hR.frozen 2
   have rc3:World.cell? _ ⟨g,3,none⟩=some (.bool false):=hR.cell 3
   have rf3:=hR.frozen 3
   have rc4:World.cell? _ ⟨g,4,none⟩=some (.slice none 0 0):=hR.cell 4
   have rf4:=hR.frozen 4
   have rc5:World.cell? _ ⟨g,5,none⟩=some (.slice none 0 0):=hR.cell 5
   have rf5:=hR.frozen 5
   have P:=Lib.hid (And.intro (⟨_,_,_,_,_,_,rfl,q6.kept p2,q7.kept p2⟩:IsS _ _ (mnTo rs (rs.length - 1)) (mxTo rs (rs.length - 1))) (And.intro p3 p1.cells6))
   clear p1 p2 p3
   go_wp2_with fail
   obtain⟨P1,P2,P3,P4,P5,P6,P7,P8⟩:=P.out
   exact bodyPost_ret (v:= .agg #[.bool s6,.slice A6 L6 C6,.slice D6 M6 E6,.bool s7,.slice A7 L7 C7,.slice D7 M7 E7]) (by simp[results,Tryz.results157,go_sem,P3,P4,P5,P6,P7,P8]) rfl ⟨_,rfl,P1,P2⟩
  have i0:(0:Int)≤(J:Int):=by omega
  have i1:(J:Int)<(rs.length:Int):=by omega
  have s8':=hs J hlt
  have smn:=mnTo_all (l:=rs) (P:=fun q=>BQ q 10000) hs (J - 1) (by omega)
  have smx:=mxTo_all (l:=rs) (P:=fun q=>BQ q 10000) hs (J - 1) (by omega)
  have hC1:=fun u v w h1 h2=>rqcmp_any u v (qnt rs J) (mnTo rs (J - 1)) w h1 h2 s8' smn
  have hC2:=fun u v w h1 h2=>rqcmp_any u v (qnt rs J) (mxTo rs (J - 1)) w h1 h2 s8' smx
  have HN:=Lib.hid (mnTo_step rs J)
  have HX:=Lib.hid (mxTo_step rs J)
  generalize mnTo rs (J - 1)=lo at *
  generalize mxTo rs (J - 1)=hi at *
  generalize cmpQ (qnt rs J) lo=cm at *
  generalize cmpQ (qnt rs J) hi=cx at *
  clear s8' smn smx
  have hv:=h.below hB
  obtain⟨ad',c',s1,p1,r1,e1,_,x0,x1,x2,q1⟩:=hv.at_ hlt
  obtain⟨e2, -, -⟩:=Value.slice.inj e1
  obtain rfl:=Option.some.inj e2
  rw[qnt_at] at q1
  obtain⟨s8,A8,L8,C8,D8,M8,E8,e3,q8⟩:=q1.opn
  obtain⟨rfl,rfl,rfl⟩:s8=s1∧p1= .slice A8 L8 C8∧r1= .slice D8 M8 E8:=by
   injection e3 with e3;simp only[Array.mk.injEq,List.cons.injEq,and_true] at e3;exact⟨by have:=e3.1;injection this with this;exact this.symm,e3.2.1,e3.2.2⟩
  clear e1 e2 e3 q1 hv
  generalize hq:qnt rs J=qj at *
  have HQ:=Lib.hid hq
  clear hq
  go_upto_region 5 with fail
  replace hB:=hB.drew
  replace hR:=hR.drew
  replace h3:=h3.drew
  replace q6:=q6.b (bdrew _)
  replace q7:=q7.b (bdrew _)
  replace x0:=cellAU (bdrew _) x0
  replace x1:=cellAU (bdrew _) x1
  replace x2:=cellAU (bdrew _) x2
  replace q8:=q8.b (bdrew _)
  clear c12 c13 c14 c15 c16 c17 c18 c19 c20 c21 c22 c23
  refine wp_region_noPanic ?_
  refine wp_region_held_drew (S:=fun w'=>w'.cell? (ad.add (J*3))=some (.bool s8)∧w'.cell? ⟨(ad.add (J*3)).block,(ad.add (J*3)).off+1,none⟩=some (.slice A8 L8 C8)∧w'.cell? ⟨(ad.add (J*3)).block,(ad.add (J*3)).off+2,none⟩=some (.slice D8 M8 E8)∧w'.cell? ⟨X4,0,none⟩=some (.bool s6)∧w'.cell? ⟨X4,1,none⟩=some (.slice A6 L6 C6)∧w'.cell? ⟨X4,2,none⟩=some (.slice D6 M6 E6)∧w'.cell? ⟨X4,3,none⟩=some (.bool s7)∧w'.cell? ⟨X4,4,none⟩=some (.slice A7 L7 C7)∧w'.cell? ⟨X4,5,none⟩=some (.slice D7 M7 E7)) (by kernel_rfl) ?_ (fun hHeld=>?_)
  ·exact⟨x0,x1,x2,h3.cell 0,h3.cell 1,h3.cell 2,h3.cell 3,h3.cell 4,h3.cell 5⟩
  obtain⟨wd5_1,hwd⟩:∃q,q=wr.drew:=⟨_,rfl⟩
  rw[←hwd] at hB hR h3 q6 q7 x0 x1 x2 q8 hHeld ⊢
  clear hwd
  refine tkA 0 rfl ?_
  refine tkA 1 rfl ?_
  refine tkA 2 rfl ?_
  refine tkA 3 rfl ?_
  refine tkA 4 rfl ?_
  refine tkA 5 rfl ?_
  try simp only[Act.put,lay]
  refine rd1 6 rfl fun K hK=>?_
  go_simp
  refine (hC1 _ _ _ q8 q6).mono ?_
  rintro e u5_1 ⟨rfl,b5_1⟩
  replace hR:=hR.b b5_1
  replace h3:=h3.b b5_1
  replace q6:=q6.b b5_1
  replace q7:=q7.b b5_1
  replace x0:=cellAU b5_1 x0
  replace x1:=cellAU b5_1 x1
  replace x2:=cellAU b5_1 x2
  replace q8:=q8.b b5_1
  replace hB:=bOn hB b5_1
  go_wp2_with fail
  refine hK.out _ _ ?_ fun hHeld=>?_
  ·exact⟨x0,x1,x2,h3.cell 0,h3.cell 1,h3.cell 2,h3.cell 3,h3.cell 4,h3.cell 5⟩
  clear hK K
  refine tkA 7 rfl ?_
  try simp only[Act.put,lay]
  try dsimp only
  try simp only[Act.put,lay]
  refine wpAnyH_done (by kernel_rfl) ?_ _
  refine NoPanic.normal ?_
  skip
  obtain⟨c24,c25,c26,c27,c28,c29⟩:=hR.q6
  obtain⟨c30,c31,c32,c33,c34,c35⟩:=h3.q6
  by_cases hc:cm<0;rotate_left
  ·have hd:decide (cm<0)=false:=decide_eq_false hc
   rw[if_neg hc] at HN
   go_upto_region 7 with fail
   replace hB:=hB.drew
   replace hR:=hR.drew
   replace h3:=h3.drew
   replace q6:=q6.b (bdrew _)
   replace q7:=q7.b (bdrew _)
   replace x0:=cellAU (bdrew _) x0
   replace x1:=cellAU (bdrew _) x1
   replace x2:=cellAU (bdrew _) x2
   replace q8:=q8.b (bdrew _)
   clear c24 c25 c26 c27 c28 c29 c30 c31 c32 c33 c34 c35
   refine wp_region_noPanic ?_
   refine wp_region_held_drew (S:=fun w'=>w'.cell? (ad.add (J*3))=some (.bool s8)∧w'.cell? ⟨(ad.add (J*3)).block,(ad.add (J*3)).off+1,none⟩=some (.slice A8 L8 C8)∧w'.cell? ⟨(ad.add (J*3)).block,(ad.add (J*3)).off+2,none⟩=some (.slice D8 M8 E8)∧w'.cell? ⟨X4,0,none⟩=some (.bool s6)∧w'.cell? ⟨X4,1,none⟩=some (.slice A6 L6 C6)∧w'.cell? ⟨X4,2,none⟩=some (.slice D6 M6 E6)∧w'.cell? ⟨X4,3,none⟩=some (.bool s7)∧w'.cell? ⟨X4,4,none⟩=some (.slice A7 L7 C7)∧w'.cell? ⟨X4,5,none⟩=some (.slice D7 M7 E7)) (by kernel_rfl) ?_ (fun hHeld=>?_)
   ·exact⟨x0,x1,x2,h3.cell 0,h3.cell 1,h3.cell 2,h3.cell 3,h3.cell 4,h3.cell 5⟩
   obtain⟨wd7_2,hwd⟩:∃q,q=u5_1.drew:=⟨_,rfl⟩
   rw[←hwd] at hB hR h3 q6 q7 x0 x1 x2 q8 hHeld ⊢
   clear hwd
   refine tkA 0 rfl ?_
   refine tkA 1 rfl ?_
   refine tkA 2 rfl ?_
   refine tkA 3 rfl ?_
   refine tkA 4 rfl ?_
   refine tkA 5 rfl ?_
   try simp only[Act.put,lay]
   refine rd1 6 rfl fun K hK=>?_
   go_simp
   refine (hC2 _ _ _ q8 q7).mono ?_
   rintro e u7_1 ⟨rfl,b7_1⟩
   replace hR:=hR.b b7_1
   replace h3:=h3.b b7_1
   replace q6:=q6.b b7_1
   replace q7:=q7.b b7_1
   replace x0:=cellAU b7_1 x0
   replace x1:=cellAU b7_1 x1
   replace x2:=cellAU b7_1 x2
   replace q8:=q8.b b7_1
   replace hB:=bOn hB b7_1
   go_wp2_with fail
   refine hK.out _ _ ?_ fun hHeld=>?_
   ·exact⟨x0,x1,x2,h3.cell 0,h3.cell 1,h3.cell 2,h3.cell 3,h3.cell 4,h3.cell 5⟩
   clear hK K
   refine tkA 7 rfl ?_
   try simp only[Act.put,lay]
   try dsimp only
   try simp only[Act.put,lay]
   refine wpAnyH_done (by kernel_rfl) ?_ _
   refine NoPanic.normal ?_
   skip
   obtain⟨c36,c37,c38,c39,c40,c41⟩:=hR.q6
   obtain⟨c42,c43,c44,c45,c46,c47⟩:=h3.q6
   by_cases hx:0<cx;rotate_left
   ·have hd2:decide (0<cx)=false:=decide_eq_false hx
    rw[if_neg hx] at HX
    go_wp2
    exact⟨⟨J+1,_,_,_,_,_,_,_,_,_,_,_,_,_,_,by go_num,by omega,hR,h3,by rw[Nat.add_sub_cancel,HN.out];exact q6,by rw[Nat.add_sub_cancel,HX.out];exact q7,hB⟩,by simp[intOf];omega⟩
   have hd2:decide (0<cx)=true:=decide_eq_true hx
   rw[if_pos hx] at HX
   obtain⟨W9,eW,f1,f2,f3,f4⟩:=fillHi h3 (.bool s8) (.slice A8 L8 C8) (.slice D8 M8 E8) (by simp[noU])
   have xf:=h3.frozen
   obtain⟨y0,y1,y2,y3,y4,y5⟩:=h3.q6
   go_upto_region 4 with fail
   rw[←eW]
   replace hR:=f3 _ _ _ hR (by omega)
   replace q6:=q6.filled f2
   replace q8:=q8.filled f2
   replace hB:=f4 _ _ (by omega) hB
   clear eW f2 f3 f4 xf y0 y1 y2 y3 y4 y5 h3 x0 x1 x2 hd2
   go_wp2
   exact⟨⟨J+1,_,_,_,_,_,_,_,_,_,_,_,_,_,_,by go_num,by omega,hR,f1,by rw[Nat.add_sub_cancel,HN.out];exact q6,by rw[Nat.add_sub_cancel,HX.out];exact q8,hB⟩,by simp[intOf];omega⟩
  have hd:decide (cm<0)=true:=decide_eq_true hc
  rw[if_pos hc] at HN
  obtain⟨W8,eW,f1,f2,f3,f4⟩:=fillLo h3 (.bool s8) (.slice A8 L8 C8) (.slice D8 M8 E8) (by simp[noU])
  have xf:=h3.frozen
  obtain⟨y0,y1,y2,y3,y4,y5⟩:=h3.q6
  go_upto_region 7 with fail
  rw[←eW]
  replace hR:=f3 _ _ _ hR (by omega)
  replace q7:=q7.filled f2
  replace q8:=q8.filled f2
  replace hB:=f4 _ _ (by omega) hB
  clear eW f2 f3 f4 xf y0 y1 y2 y3 y4 y5 h3 x0 x1 x2 hd q6
  have h3:=f1
  clear f1
  have hv:=h.below hB
  obtain⟨ad',c',s1,p1,r1,e1,_,x0,x1,x2,q1⟩:=hv.at_ hlt
  obtain⟨e2, -, -⟩:=Value.slice.inj e1
  obtain rfl:=Option.some.inj e2
  rw[qnt_at] at q1
  obtain⟨s9,A9,L9,C9,D9,M9,E9,e3,q9⟩:=q1.opn
  obtain⟨rfl,rfl,rfl⟩:s9=s1∧p1= .slice A9 L9 C9∧r1= .slice D9 M9 E9:=by
   injection e3 with e3;simp only[Array.mk.injEq,List.cons.injEq,and_true] at e3;exact⟨by have:=e3.1;injection this with this;exact this.symm,e3.2.1,e3.2.2⟩
  clear e1 e2 e3 q1 hv
  rw[HQ.out] at q9
  go_upto_region 7 with fail
  replace hB:=hB.drew
  replace hR:=hR.drew
  replace h3:=h3.drew
  replace q7:=q7.b (bdrew _)
  replace q8:=q8.b (bdrew _)
  replace x0:=cellAU (bdrew _) x0
  replace x1:=cellAU (bdrew _) x1
  replace x2:=cellAU (bdrew _) x2
  replace q9:=q9.b (bdrew _)
  refine wp_region_noPanic ?_
  refine wp_region_held_drew (S:=fun w'=>w'.cell? (ad.add (J*3))=some (.bool s9)∧w'.cell? ⟨(ad.add (J*3)).block,(ad.add (J*3)).off+1,none⟩=some (.slice A9 L9 C9)∧w'.cell? ⟨(ad.add (J*3)).block,(ad.add (J*3)).off+2,none⟩=some (.slice D9 M9 E9)∧w'.cell? ⟨X4,0,none⟩=some (.bool s8)∧w'.cell? ⟨X4,1,none⟩=some (.slice A8 L8 C8)∧w'.cell? ⟨X4,2,none⟩=some (.slice D8 M8 E8)∧w'.cell? ⟨X4,3,none⟩=some (.bool s7)∧w'.cell? ⟨X4,4,none⟩=some (.slice A7 L7 C7)∧w'.cell? ⟨X4,5,none⟩=some (.slice D7 M7 E7)) (by kernel_rfl) ?_ (fun hHeld=>?_)
  ·exact⟨x0,x1,x2,h3.cell 0,h3.cell 1,h3.cell 2,h3.cell 3,h3.cell 4,h3.cell 5⟩
  obtain⟨wd7_2,hwd⟩:∃q,q=W8.drew:=⟨_,rfl⟩
  rw[←hwd] at hB hR h3 q7 q8 x0 x1 x2 q9 hHeld ⊢
  clear hwd
  refine tkA 0 rfl ?_
  refine tkA 1 rfl ?_
  refine tkA 2 rfl ?_
  refine tkA 3 rfl ?_
  refine tkA 4 rfl ?_
  refine tkA 5 rfl ?_
  try simp only[Act.put,lay]
  refine rd1 6 rfl fun K hK=>?_
  go_simp
  refine (hC2 _ _ _ q9 q7).mono ?_
  rintro e u7_1 ⟨rfl,b7_1⟩
  replace hR:=hR.b b7_1
  replace h3:=h3.b b7_1
  replace q7:=q7.b b7_1
  replace q8:=q8.b b7_1
  replace x0:=cellAU b7_1 x0
  replace x1:=cellAU b7_1 x1
  replace x2:=cellAU b7_1 x2
  replace q9:=q9.b b7_1
  replace hB:=bOn hB b7_1
  go_wp2_with fail
  refine hK.out _ _ ?_ fun hHeld=>?_
  ·exact⟨x0,x1,x2,h3.cell 0,h3.cell 1,h3.cell 2,h3.cell 3,h3.cell 4,h3.cell 5⟩
  clear hK K
  refine tkA 7 rfl ?_
  try simp only[Act.put,lay]
  try dsimp only
  try simp only[Act.put,lay]
  refine wpAnyH_done (by kernel_rfl) ?_ _
  refine NoPanic.normal ?_
  skip
  obtain⟨c36,c37,c38,c39,c40,c41⟩:=hR.q6
  obtain⟨c42,c43,c44,c45,c46,c47⟩:=h3.q6
  by_cases hx:0<cx;rotate_left
  ·have hd2:decide (0<cx)=false:=decide_eq_false hx
   rw[if_neg hx] at HX
   go_wp2
   exact⟨⟨J+1,_,_,_,_,_,_,_,_,_,_,_,_,_,_,by go_num,by omega,hR,h3,by rw[Nat.add_sub_cancel,HN.out];exact q8,by rw[Nat.add_sub_cancel,HX.out];exact q7,hB⟩,by simp[intOf];omega⟩
  have hd2:decide (0<cx)=true:=decide_eq_true hx
  rw[if_pos hx] at HX
  obtain⟨W9,eW,f1,f2,f3,f4⟩:=fillHi h3 (.bool s9) (.slice A9 L9 C9) (.slice D9 M9 E9) (by simp[noU])
  have xf:=h3.frozen
  obtain⟨y0,y1,y2,y3,y4,y5⟩:=h3.q6
  go_upto_region 4 with fail
  rw[←eW]
  replace hR:=f3 _ _ _ hR (by omega)
  replace q8:=q8.filled f2
  replace q9:=q9.filled f2
  replace hB:=f4 _ _ (by omega) hB
  clear eW f2 f3 f4 xf y0 y1 y2 y3 y4 y5 h3 x0 x1 x2 hd2
  go_wp2
  exact⟨⟨J+1,_,_,_,_,_,_,_,_,_,_,_,_,_,_,by go_num,by omega,hR,f1,by rw[Nat.add_sub_cancel,HN.out];exact q8,by rw[Nat.add_sub_cancel,HX.out];exact q9,hB⟩,by simp[intOf];omega⟩
theorem IsL.frmL {w:World} {v:Value} {l:List Nat} (h:IsL w v l):∃A C,v= .slice A l.length C∧l.length≤C∧C≤9223372036854775807:=by
 obtain⟨A,c,e,h1,h2,_⟩:=h;exact⟨A,c,e,h1,h2⟩
def rightN (l:List Nat):Bool:=decide (l=[]∨lat l (l.length - 1)≠0)
def rightQ (s:Bool) (lp lq:List Nat):Bool:=rightZ s lp && (rightN lq && (!decide (lq=[]) && decide (Nat.gcd (num lp) (num lq)=1)))
def fewQ (s:Bool) (lp lq:List Nat) (m:Nat):Bool:=decide (lp.length≤m) && (decide (lq.length≤m) && rightQ s lp lq)
def theQ (s:Bool) (lp lq:List Nat):Rat:=mkRat (sided s (num lp)) (num lq)
theorem isN_of {w:World} {v:Value} {l:List Nat} (h:IsL w v l) (hr:rightN l=true):IsN w v (num l)∧limbs (num l)=l:=by
 unfold rightN at hr
 rw[decide_eq_true_eq] at hr
 have hl:limbs (num l)=l:=limbs_num l h.bd hr
 exact⟨by unfold IsN;rw[hl];exact h,hl⟩
theorem rightZ_nat {s:Bool} {l:List Nat} (h:rightZ s l=true):rightN l=true:=by
 unfold rightZ at h;rw[Bool.and_eq_true] at h;exact h.1
theorem sided_side {s:Bool} {l:List Nat} (hb:Bd l) (h:rightZ s l=true):decide (sided s (num l)<0)=s:=by
 rw[sided_neg]
 cases s
 ·rfl
 ·have hr:=rightZ_nat h
  unfold rightN at hr
  rw[decide_eq_true_eq] at hr
  have hl:limbs (num l)=l:=limbs_num l hb hr
  unfold rightZ at h
  rw[Bool.and_eq_true] at h
  have h0:l.length≠0:=by have:=h.2;simpa using this
  have :num l≠0:=fun e=>h0 (by rw[←hl,e,limbs_zero];rfl)
  simp[this]
theorem isQ_of {w:World} {s:Bool} {p q:Value} {lp lq:List Nat} (hp:IsL w p lp) (hq:IsL w q lq) (hr:rightQ s lp lq=true):IsQ w (.agg #[.bool s,p,q]) (theQ s lp lq)∧BQ (theQ s lp lq) (max lp.length lq.length)∧(theQ s lp lq).num=sided s (num lp)∧(theQ s lp lq).den=num lq:=by
 unfold rightQ at hr
 simp only[Bool.and_eq_true,Bool.not_eq_true',decide_eq_false_iff_not,decide_eq_true_eq] at hr
 obtain⟨h1,h2,h3,h4⟩:=hr
 obtain⟨np,ep⟩:=isN_of hp (rightZ_nat h1)
 obtain⟨nq,eq⟩:=isN_of hq h2
 have hq0:num lq≠0:=fun e=>h3 (by rw[←eq,e,limbs_zero])
 have hs:(sided s (num lp)).natAbs=num lp:=by unfold sided;split<;>omega
 obtain⟨m1,m2,m3⟩:=mk_num (sided s (num lp)) (num lq) hq0
 rw[hs,h4,Nat.div_one] at m1
 rw[hs,h4,Nat.div_one] at m2
 rw[sided_side hp.bd h1] at m3
 have m4:(theQ s lp lq).num=sided s (num lp):=by
  unfold theQ
  have h5:decide (sided s (num lp)<0)=s:=sided_side hp.bd h1
  have h6:decide ((mkRat (sided s (num lp)) (num lq)).num<0)=decide (sided s (num lp)<0):=by rw[m3,h5]
  have h7:((mkRat (sided s (num lp)) (num lq)).num<0)↔(sided s (num lp)<0):=by simpa using h6
  omega
 refine ⟨⟨p,q,?_,?_,?_⟩,⟨?_,?_⟩,m4,m2⟩
 ·unfold theQ;rw[m3]
 ·unfold theQ;rw[m1];exact np
 ·unfold theQ;rw[m2];exact nq
 ·rw[m4,hs];unfold Sz;rw[ep];exact Nat.le_max_left _ _
 ·unfold theQ;rw[m2];unfold Sz;rw[eq];exact Nat.le_max_right _ _
theorem rright5_any (s:Bool) (p q:Value) (lp lq:List Nat) (w:World) (hp:IsL w p lp) (hq:IsL w q lq) (np:lp.length≤100000) (nq:lq.length≤100000):
 Calls Tryz.prog 49 #[.agg #[.bool s,p,q]] w fun e w'=>e= .returned (.bool (rightQ s lp lq))∧Below w.heap.size w w':=by
 have hZ:=fun w h=>rzright_any s p lp w h
 have hN:=fun w h=>rright_any q lq w h
 rw[show decide (lq=[]∨lat lq (lq.length - 1)≠0)=rightN lq from rfl] at hN
 obtain⟨A,C,rfl,_,_⟩:=id hp.frmL
 obtain⟨D,E,rfl,_,_⟩:=id hq.frmL
 have j0:decide (lq=[])=decide ((lq.length:Int)=0):=by cases lq<;>simp;omega
 unfold rightQ
 cases hz:rightZ s lp
 ·rw[hz] at hZ
  rw[Bool.false_and]
  clear hz j0 hN
  obtain⟨g,hg⟩:∃g,g=w.heap.size:=⟨_,rfl⟩
  obtain⟨Y0,eY0,hA,bY0⟩:=box1 w 32 #[.bool s,.slice A lp.length C,.slice D lq.length E]
  have zY0:Y0.heap.size=g+1:=by rw[eY0,World.size_alloc,←hg]
  rw[←hg] at hA
  replace hp:=hp.b bY0
  replace hq:=hq.b bY0
  have hB:=bY0
  have hgw:w.heap.size≤g:=by omega
  have EY:=Lib.hid (And.intro hg eY0)
  clear hg eY0 zY0
  obtain⟨c0,c1,c2⟩:=hA.q3
  go_enter Tryz.func49,Tryz.ntmps49
  go_wp2_with fail
  rw[←EY.out.2,←EY.out.1]
  refine (hZ _ hp).mono ?_
  rintro e w2 ⟨rfl,b2⟩
  replace hp:=hp.b b2
  replace hq:=hq.b b2
  replace hA:=hA.b b2
  replace hB:=bOn hB b2
  clear c0 c1 c2
  obtain⟨c3,c4,c5⟩:=hA.q3
  go_wp2
  go_ret
  exact⟨rfl,hB⟩
 ·rw[hz] at hZ
  rw[Bool.true_and]
  cases hn:rightN lq
  ·rw[hn] at hN
   rw[Bool.false_and]
   clear hn j0
   obtain⟨g,hg⟩:∃g,g=w.heap.size:=⟨_,rfl⟩
   obtain⟨Y0,eY0,hA,bY0⟩:=box1 w 32 #[.bool s,.slice A lp.length C,.slice D lq.length E]
   have zY0:Y0.heap.size=g+1:=by rw[eY0,World.size_alloc,←hg]
   rw[←hg] at hA
   replace hp:=hp.b bY0
   replace hq:=hq.b bY0
   have hB:=bY0
   have hgw:w.heap.size≤g:=by omega
   have EY:=Lib.hid (And.intro hg eY0)
   clear hg eY0 zY0
   obtain⟨c0,c1,c2⟩:=hA.q3
   go_enter Tryz.func49,Tryz.ntmps49
   go_wp2_with fail
   rw[←EY.out.2,←EY.out.1]
   refine (hZ _ hp).mono ?_
   rintro e w2 ⟨rfl,b2⟩
   replace hp:=hp.b b2
   replace hq:=hq.b b2
   replace hA:=hA.b b2
   replace hB:=bOn hB b2
   clear c0 c1 c2
   obtain⟨c3,c4,c5⟩:=hA.q3
   go_wp2_with fail
   refine (hN _ hq).mono ?_
   rintro e w4 ⟨rfl,rfl⟩
   go_wp2
   go_ret
   exact⟨rfl,hB⟩
  ·rw[hn] at hN
   rw[Bool.true_and]
   by_cases h0:lq=[]
   ·rw[decide_eq_true h0,Bool.not_true,Bool.false_and]
    have j1:(lq.length:Int)=0:=by rw[h0];rfl
    have j2:lq.length=0:=by omega
    rw[j2] at hN hq
    clear h0 j0 j1
    rw[j2]
    obtain⟨g,hg⟩:∃g,g=w.heap.size:=⟨_,rfl⟩
    obtain⟨Y0,eY0,hA,bY0⟩:=box1 w 32 #[.bool s,.slice A lp.length C,.slice D 0 E]
    have zY0:Y0.heap.size=g+1:=by rw[eY0,World.size_alloc,←hg]
    rw[←hg] at hA
    replace hp:=hp.b bY0
    replace hq:=hq.b bY0
    have hB:=bY0
    have hgw:w.heap.size≤g:=by omega
    have EY:=Lib.hid (And.intro hg eY0)
    clear hg eY0 zY0
    obtain⟨c0,c1,c2⟩:=hA.q3
    go_enter Tryz.func49,Tryz.ntmps49
    go_wp2_with fail
    rw[←EY.out.2,←EY.out.1]
    refine (hZ _ hp).mono ?_
    rintro e w2 ⟨rfl,b2⟩
    replace hp:=hp.b b2
    replace hq:=hq.b b2
    replace hA:=hA.b b2
    replace hB:=bOn hB b2
    clear c0 c1 c2
    obtain⟨c3,c4,c5⟩:=hA.q3
    go_wp2_with fail
    refine (hN _ hq).mono ?_
    rintro e w4 ⟨rfl,rfl⟩
    go_wp2
    go_ret
    exact⟨rfl,hB⟩
   ·rw[decide_eq_false h0,Bool.not_false,Bool.true_and]
    have j1:((lq.length:Int) == 0)=false:=by
     rw[beq_eq_false_iff_ne]
     intro e
     exact h0 (List.eq_nil_of_length_eq_zero (by omega))
    have j2:decide ((lq.length:Int)=0)=false:=by rw[←j0];exact decide_eq_false h0
    obtain⟨n1,e1⟩:=isN_of hp (rightZ_nat hz)
    obtain⟨n2,e2⟩:=isN_of hq hn
    have hG:=fun w h1 h2=>gcd_any (.slice A lp.length C) (.slice D lq.length E) (num lp) (num lq) w h1 h2 (by unfold Sz;rw[e1];exact np) (by unfold Sz;rw[e2];exact nq)
    have hO:=fun w=>rof_any 1 (by unfold W64;omega) w
    have hS:=fun u v w h1 h2=>rsame_any u v (Nat.gcd (num lp) (num lq)) 1 w h1 h2
    clear e1 e2 h0 j0 hz hn np nq
    obtain⟨g,hg⟩:∃g,g=w.heap.size:=⟨_,rfl⟩
    obtain⟨Y0,eY0,hA,bY0⟩:=box1 w 32 #[.bool s,.slice A lp.length C,.slice D lq.length E]
    have zY0:Y0.heap.size=g+1:=by rw[eY0,World.size_alloc,←hg]
    rw[←hg] at hA
    replace hp:=hp.b bY0
    replace hq:=hq.b bY0
    replace n1:=n1.b bY0
    replace n2:=n2.b bY0
    have hB:=bY0
    have hgw:w.heap.size≤g:=by omega
    have EY:=Lib.hid (And.intro hg eY0)
    clear hg eY0 zY0
    obtain⟨c0,c1,c2⟩:=hA.q3
    go_enter Tryz.func49,Tryz.ntmps49
    go_wp2_with fail
    rw[←EY.out.2,←EY.out.1]
    refine (hZ _ hp).mono ?_
    rintro e w2 ⟨rfl,b2⟩
    replace hp:=hp.b b2
    replace hq:=hq.b b2
    replace n1:=n1.b b2
    replace n2:=n2.b b2
    replace hA:=hA.b b2
    replace hB:=bOn hB b2
    clear c0 c1 c2
    obtain⟨c3,c4,c5⟩:=hA.q3
    go_wp2_with fail
    refine (hN _ hq).mono ?_
    rintro e w4 ⟨rfl,rfl⟩
    go_wp2_with fail
    refine (hG _ n1 n2).mono ?_
    rintro e w5 ⟨v3,rfl,n3,b5⟩
    replace hp:=hp.b b5
    replace hq:=hq.b b5
    replace n1:=n1.b b5
    replace n2:=n2.b b5
    replace hA:=hA.b b5
    replace hB:=bOn hB b5
    clear c3 c4 c5
    obtain⟨c6,c7,c8⟩:=hA.q3
    go_wp2_with fail
    refine (hO _).mono ?_
    rintro e w7 ⟨v4,rfl,n4,b7⟩
    replace hp:=hp.b b7
    replace hq:=hq.b b7
    replace n1:=n1.b b7
    replace n2:=n2.b b7
    replace hA:=hA.b b7
    replace n3:=n3.b b7
    replace hB:=bOn hB b7
    clear c6 c7 c8
    obtain⟨c9,c10,c11⟩:=hA.q3
    go_wp2_with fail
    refine (hS _ _ _ n3 n4).mono ?_
    rintro e w9 ⟨rfl,n9,hn9⟩
    have b9:Below w7.heap.size w7 w9:=by rw[hn9];exact below_drewN (Below.refl _ _) n9
    clear hn9
    replace hp:=hp.b b9
    replace hq:=hq.b b9
    replace n1:=n1.b b9
    replace n2:=n2.b b9
    replace hA:=hA.b b9
    replace n3:=n3.b b9
    replace n4:=n4.b b9
    replace hB:=bOn hB b9
    clear c9 c10 c11
    obtain⟨c12,c13,c14⟩:=hA.q3
    go_wp2
    go_ret
    exact⟨rfl,hB⟩
theorem rfew5_any (s:Bool) (p q:Value) (lp lq:List Nat) (m:Nat) (w:World) (hp:IsL w p lp) (hq:IsL w q lq) (hm:m≤1000):
 Calls Tryz.prog 11 #[.agg #[.bool s,p,q],.int .i64 m] w fun e w'=>e= .returned (.bool (fewQ s lp lq m))∧Below w.heap.size w w':=by
 unfold fewQ
 obtain⟨A,C,rfl,_,_⟩:=id hp.frmL
 obtain⟨D,E,rfl,_,_⟩:=id hq.frmL
 by_cases h1:lp.length≤m
 ·rw[decide_eq_true h1,Bool.true_and]
  have i1:decide ((lp.length:Int)≤(m:Int))=true:=decide_eq_true (by omega)
  by_cases h2:lq.length≤m
  ·rw[decide_eq_true h2,Bool.true_and]
   have i2:decide ((lq.length:Int)≤(m:Int))=true:=decide_eq_true (by omega)
   have hR:=fun w h1 h2=>rright5_any s (.slice A lp.length C) (.slice D lq.length E) lp lq w h1 h2 (by omega) (by omega)
   generalize rightQ s lp lq=r at *
   have k1:decide (lp.length≤m)=true:=decide_eq_true h1
   have k2:decide (lq.length≤m)=true:=decide_eq_true h2
   obtain⟨g,hg⟩:∃g,g=w.heap.size:=⟨_,rfl⟩
   obtain⟨Y0,eY0,hA,bY0⟩:=box1 w 32 #[.bool s,.slice A lp.length C,.slice D lq.length E]
   have zY0:Y0.heap.size=g+1:=by rw[eY0,World.size_alloc,←hg]
   rw[←hg] at hA
   replace hp:=hp.b bY0
   replace hq:=hq.b bY0
   have hB:=bY0
   have hgw:w.heap.size≤g:=by omega
   have EY:=Lib.hid (And.intro hg eY0)
   clear hg eY0 zY0
   obtain⟨c0,c1,c2⟩:=hA.q3
   go_enter Tryz.func11,Tryz.ntmps11
   go_wp2_with fail
   rw[←EY.out.2,←EY.out.1]
   refine (hR _ hp hq).mono ?_
   rintro e w2 ⟨rfl,b2⟩
   replace hp:=hp.b b2
   replace hq:=hq.b b2
   replace hA:=hA.b b2
   replace hB:=bOn hB b2
   clear c0 c1 c2
   obtain⟨c3,c4,c5⟩:=hA.q3
   go_wp2
   go_ret
   exact⟨rfl,hB⟩
  ·rw[decide_eq_false h2,Bool.false_and]
   have i2:decide ((lq.length:Int)≤(m:Int))=false:=decide_eq_false (by omega)
   have k1:decide (lp.length≤m)=true:=decide_eq_true h1
   have k2:decide (lq.length≤m)=false:=decide_eq_false h2
   obtain⟨g,hg⟩:∃g,g=w.heap.size:=⟨_,rfl⟩
   obtain⟨Y0,eY0,hA,bY0⟩:=box1 w 32 #[.bool s,.slice A lp.length C,.slice D lq.length E]
   have zY0:Y0.heap.size=g+1:=by rw[eY0,World.size_alloc,←hg]
   rw[←hg] at hA
   replace hp:=hp.b bY0
   replace hq:=hq.b bY0
   have hB:=bY0
   have hgw:w.heap.size≤g:=by omega
   have EY:=Lib.hid (And.intro hg eY0)
   clear hg eY0 zY0
   obtain⟨c0,c1,c2⟩:=hA.q3
   go_enter Tryz.func11,Tryz.ntmps11
   go_wp2
   go_ret
   refine ⟨rfl,?_⟩
   rw[←EY.out.2,←EY.out.1]
   first | exact hB | (rw[EY.out.1];exact hB)
 ·rw[decide_eq_false h1,Bool.false_and]
  have i1:decide ((lp.length:Int)≤(m:Int))=false:=decide_eq_false (by omega)
  have k1:decide (lp.length≤m)=false:=decide_eq_false h1
  obtain⟨g,hg⟩:∃g,g=w.heap.size:=⟨_,rfl⟩
  obtain⟨Y0,eY0,hA,bY0⟩:=box1 w 32 #[.bool s,.slice A lp.length C,.slice D lq.length E]
  have zY0:Y0.heap.size=g+1:=by rw[eY0,World.size_alloc,←hg]
  rw[←hg] at hA
  replace hp:=hp.b bY0
  replace hq:=hq.b bY0
  have hB:=bY0
  have hgw:w.heap.size≤g:=by omega
  have EY:=Lib.hid (And.intro hg eY0)
  clear hg eY0 zY0
  obtain⟨c0,c1,c2⟩:=hA.q3
  go_enter Tryz.func11,Tryz.ntmps11
  go_wp2
  go_ret
  refine ⟨rfl,?_⟩
  rw[←EY.out.2,←EY.out.1]
  first | exact hB | (rw[EY.out.1];exact hB)
end Go.Proofs.YtdnjdglekifhpaaGreat
namespace Go.Proofs.YtdnjdglekifhpaaGreat
open Go.RowKit
def ResQ (bad:Bool) (r:Rat) (w:World) (v:Value):Prop:=if bad=true then v= .agg #[.bool false,.slice none 0 0,.slice none 0 0] else IsQ w v r
def ResS (bad:Bool) (a b:Rat) (w:World) (v:Value):Prop:=if bad=true then v= .agg #[.bool false,.slice none 0 0,.slice none 0 0,.bool false,.slice none 0 0,.slice none 0 0] else IsS w v a b
def errOf (bad:Bool):Int:=if bad=true then 1 else 0
section
variable {bad:Bool} {r a b:Rat} {w w':World} {v:Value}
theorem ResQ.below (h:ResQ bad r w v) (hb:Below w.heap.size w w'):ResQ bad r w' v:=by
 unfold ResQ at *;split
 ·rename_i e;rw[if_pos e] at h;exact h
 ·rename_i e;rw[if_neg e] at h;exact h.below hb
theorem ResS.below (h:ResS bad a b w v) (hb:Below w.heap.size w w'):ResS bad a b w' v:=by
 unfold ResS at *;split
 ·rename_i e;rw[if_pos e] at h;exact h
 ·rename_i e;rw[if_neg e] at h;exact h.below hb
theorem ResQ.opn (h:ResQ bad r w v):∃s A L C D M E,v= .agg #[.bool s,.slice A L C,.slice D M E]∧ResQ bad r w (.agg #[.bool s,.slice A L C,.slice D M E]):=by
 unfold ResQ at *
 split
 ·rename_i e;rw[if_pos e] at h;exact⟨_,_,_,_,_,_,_,h,rfl⟩
 ·rename_i e;rw[if_neg e] at h;exact h.opn
theorem ResS.opn (h:ResS bad a b w v):∃s A L C D M E t A' L' C' D' M' E',v= .agg #[.bool s,.slice A L C,.slice D M E,.bool t,.slice A' L' C',.slice D' M' E']∧ResS bad a b w (.agg #[.bool s,.slice A L C,.slice D M E,.bool t,.slice A' L' C',.slice D' M' E']):=by
 unfold ResS at *
 split
 ·rename_i e;rw[if_pos e] at h;exact⟨_,_,_,_,_,_,_,_,_,_,_,_,_,_,h,rfl⟩
 ·rename_i e;rw[if_neg e] at h
  obtain⟨s,A,L,C,D,M,E,t,A',L',C',D',M',E',e1,h1,h2⟩:=h.opn
  exact⟨s,A,L,C,D,M,E,t,A',L',C',D',M',E',e1,_,_,_,_,_,_,rfl,h1,h2⟩
theorem rssame_res {u:Value} (hu:ResS bad a b w u) (hv:ResS bad a b w v):
 Calls Tryz.prog 22 #[u,v] w fun e w'=>e= .returned (.bool true)∧Below w.heap.size w w':=by
 unfold ResS at *
 split at hu
 ·rename_i e;rw[if_pos e] at hv;subst hu;subst hv;exact rssame_zero w
 ·rename_i e;rw[if_neg e] at hv
  have:=rssame_any u v a b a b w hu hv
  rwa [decide_eq_true rfl,decide_eq_true rfl,Bool.true_and] at this
end
end Go.Proofs.YtdnjdglekifhpaaGreat
namespace Go.Proofs.YtdnjdglekifhpaaGreat
open Go.RowKit
abbrev ResQ.b:= @ResQ.below
abbrev ResS.b:= @ResS.below
end Go.Proofs.YtdnjdglekifhpaaGreat
namespace Go.Proofs.YtdnjdglekifhpaaGreat
theorem cmpQ_le_iff (a b:Rat):cmpQ a b≤0↔a≤b:=by
 rw[Rat.le_iff];unfold cmpQ cmpI;(repeat' split)<;>omega
theorem cmpQ_lt_iff (a b:Rat):cmpQ a b<0↔a<b:=by
 rw[Rat.lt_iff];unfold cmpQ cmpI;(repeat' split)<;>omega
theorem num_neg_iff (a:Rat):a.num<0↔a<0:=by
 rw[←Rat.not_le,←Rat.num_nonneg];omega
theorem mul_den (a:Rat):a*(a.den:Rat)=(a.num:Rat):=by
 have h:=Rat.mkRat_eq_div a.num a.den
 rw[Rat.mkRat_self] at h
 have hd:(a.den:Rat)≠0:=by
  have:=a.den_nz
  intro e
  have e2:((a.den:Int):Rat)=((0:Int):Rat):=e
  rw[Rat.intCast_inj] at e2
  omega
 have :a*(a.den:Rat)=(a.num:Rat) / (a.den:Rat)*(a.den:Rat):=by rw[←h]
 rw[this,Rat.div_mul_cancel hd]
theorem den_posQ (a:Rat):(0:Rat)<(a.den:Rat):=by
 have:=a.den_pos
 have h:((0:Int):Rat)<((a.den:Int):Rat):=by rw[Rat.intCast_lt_intCast];omega
 exact h
theorem powQ_pos (k:Nat):(0:Rat)<((2^k:Nat):Rat):=by
 have h:((0:Int):Rat)<(((2^k:Nat):Int):Rat):=by rw[Rat.intCast_lt_intCast];have:=Nat.pow_pos (n:=k) (show 0<2 by omega);omega
 exact h
theorem mkP_mul (z:Int) (k:Nat):mkRat z (2^k)*((2^k:Nat):Rat)=(z:Rat):=by
 rw[Rat.mkRat_eq_div,Rat.div_mul_cancel]
 have:=powQ_pos k
 intro e;rw[e] at this;exact absurd this (by decide)
theorem stepP (k:Nat):0<mkRat 1 (2^k)∧mkRat 1 (2^k)*((2^k:Nat):Rat)=1:=by
 have h1:=mkP_mul 1 k
 have h2:((1:Int):Rat)=1:=rfl
 rw[h2] at h1
 refine ⟨?_,h1⟩
 have hP:=powQ_pos k
 have :(0:Rat)*((2^k:Nat):Rat)<mkRat 1 (2^k)*((2^k:Nat):Rat):=by rw[h1,Rat.zero_mul];decide
 exact Rat.lt_of_mul_lt_mul_right this (Rat.le_of_lt hP)
theorem man_nonneg {beta:Int} (k:Nat) (h:0≤beta):0≤mkRat beta (2^k):=by
 rw[←Rat.divInt_ofNat]
 exact Rat.divInt_nonneg h (Int.natCast_nonneg _)
theorem divQ_eq (a b:Rat) (hb:0<b):divQ a b=a / b:=by
 have hn:0<b.num:=by
  have h1:¬b.num<0:=by rw[num_neg_iff,Rat.not_lt];exact Rat.le_of_lt hb
  have h2:b.num≠0:=fun e=>by
   rw[Rat.num_eq_zero] at e;rw[e] at hb;exact absurd hb (by decide)
  omega
 unfold divQ
 rw[decide_eq_false (by omega)]
 have hs:sided false b.den=(b.den:Int):=by simp[sided]
 rw[hs,Rat.div_def]
 have e1:b⁻¹=mkRat b.den b.num.natAbs:=by
  rw[Rat.inv_def,←Rat.divInt_ofNat]
  congr 1
  omega
 rw[e1]
 have e2:a=mkRat a.num a.den:=(Rat.mkRat_self a).symm
 conv=>rhs;rw[e2]
 rw[Rat.mkRat_mul_mkRat]
open Go.RowKit
attribute [local go_sem ↓] Go.wp_at_zero Go.wp_at_succ
noncomputable def rightI (s1:Bool) (l1 m1:List Nat) (s2:Bool) (l2 m2:List Nat):Bool:=rightQ s1 l1 m1 && rightQ s2 l2 m2 && decide (cmpQ (theQ s1 l1 m1) (theQ s2 l2 m2)≤0)
noncomputable def fewI (s1:Bool) (l1 m1:List Nat) (s2:Bool) (l2 m2:List Nat) (n:Nat):Bool:=fewQ s1 l1 m1 n && fewQ s2 l2 m2 n && rightI s1 l1 m1 s2 l2 m2
theorem rsright_c0 (s1 s2:Bool) (A1 D1 A2 D2:Option Addr) (C1 E1 C2 E2:Nat) (l1 m1 l2 m2:List Nat) (w:World) (p1:IsL w (.slice A1 l1.length C1) l1) (t1:IsL w (.slice D1 m1.length E1) m1) (p2:IsL w (.slice A2 l2.length C2) l2) (t2:IsL w (.slice D2 m2.length E2) m2) (k1:l1.length≤1000) (k2:m1.length≤1000) (_k3:l2.length≤1000) (_k4:m2.length≤1000) (r1:rightQ s1 l1 m1=false):
 Calls Tryz.prog 36 #[.agg #[.bool s1,.slice A1 l1.length C1,.slice D1 m1.length E1,.bool s2,.slice A2 l2.length C2,.slice D2 m2.length E2]] w fun e w'=>e= .returned (.bool false)∧Below w.heap.size w w':=by
 have hR1:=fun w h h'=>rright5_any s1 (.slice A1 l1.length C1) (.slice D1 m1.length E1) l1 m1 w h h' (by omega) (by omega)
 rw[r1] at hR1
 obtain⟨g,Y0,hA,hB,hgw,EY⟩:=boxes1 w 46 #[.bool s1,.slice A1 l1.length C1,.slice D1 m1.length E1,.bool s2,.slice A2 l2.length C2,.slice D2 m2.length E2]
 replace p1:=p1.b hB
 replace t1:=t1.b hB
 replace p2:=p2.b hB
 replace t2:=t2.b hB
 obtain⟨c0,c1,c2,c3,c4,c5⟩:=hA.q6
 go_enter Tryz.func36,Tryz.ntmps36
 go_wp2_with fail
 rw[←EY.out.2,←EY.out.1]
 go_wp2_with fail
 refine (hR1 _ p1 t1).mono ?_
 rintro e w2 ⟨rfl,b2⟩
 replace p1:=p1.b b2
 replace t1:=t1.b b2
 replace p2:=p2.b b2
 replace t2:=t2.b b2
 replace hA:=hA.b b2
 replace hB:=bOn hB b2
 clear c0 c1 c2 c3 c4 c5
 obtain⟨c6,c7,c8,c9,c10,c11⟩:=hA.q6
 go_wp2
 go_ret
 exact⟨rfl,hB⟩
theorem rsright_c1 (s1 s2:Bool) (A1 D1 A2 D2:Option Addr) (C1 E1 C2 E2:Nat) (l1 m1 l2 m2:List Nat) (w:World) (p1:IsL w (.slice A1 l1.length C1) l1) (t1:IsL w (.slice D1 m1.length E1) m1) (p2:IsL w (.slice A2 l2.length C2) l2) (t2:IsL w (.slice D2 m2.length E2) m2) (k1:l1.length≤1000) (k2:m1.length≤1000) (k3:l2.length≤1000) (k4:m2.length≤1000) (r1:rightQ s1 l1 m1=true) (r2:rightQ s2 l2 m2=false):
 Calls Tryz.prog 36 #[.agg #[.bool s1,.slice A1 l1.length C1,.slice D1 m1.length E1,.bool s2,.slice A2 l2.length C2,.slice D2 m2.length E2]] w fun e w'=>e= .returned (.bool false)∧Below w.heap.size w w':=by
 have hR1:=fun w h h'=>rright5_any s1 (.slice A1 l1.length C1) (.slice D1 m1.length E1) l1 m1 w h h' (by omega) (by omega)
 rw[r1] at hR1
 have hR2:=fun w h h'=>rright5_any s2 (.slice A2 l2.length C2) (.slice D2 m2.length E2) l2 m2 w h h' (by omega) (by omega)
 rw[r2] at hR2
 obtain⟨g,Y0,hA,hB,hgw,EY⟩:=boxes1 w 46 #[.bool s1,.slice A1 l1.length C1,.slice D1 m1.length E1,.bool s2,.slice A2 l2.length C2,.slice D2 m2.length E2]
 replace p1:=p1.b hB
 replace t1:=t1.b hB
 replace p2:=p2.b hB
 replace t2:=t2.b hB
 obtain⟨c0,c1,c2,c3,c4,c5⟩:=hA.q6
 go_enter Tryz.func36,Tryz.ntmps36
 go_wp2_with fail
 rw[←EY.out.2,←EY.out.1]
 go_wp2_with fail
 refine (hR1 _ p1 t1).mono ?_
 rintro e w2 ⟨rfl,b2⟩
 replace p1:=p1.b b2
 replace t1:=t1.b b2
 replace p2:=p2.b b2
 replace t2:=t2.b b2
 replace hA:=hA.b b2
 replace hB:=bOn hB b2
 clear c0 c1 c2 c3 c4 c5
 obtain⟨c6,c7,c8,c9,c10,c11⟩:=hA.q6
 go_wp2_with fail
 refine (hR2 _ p2 t2).mono ?_
 rintro e w4 ⟨rfl,b4⟩
 replace p1:=p1.b b4
 replace t1:=t1.b b4
 replace p2:=p2.b b4
 replace t2:=t2.b b4
 replace hA:=hA.b b4
 replace hB:=bOn hB b4
 clear c6 c7 c8 c9 c10 c11
 obtain⟨c12,c13,c14,c15,c16,c17⟩:=hA.q6
 go_wp2
 go_ret
 exact⟨rfl,hB⟩
theorem rsright_c2 (s1 s2:Bool) (A1 D1 A2 D2:Option Addr) (C1 E1 C2 E2:Nat) (l1 m1 l2 m2:List Nat) (w:World) (p1:IsL w (.slice A1 l1.length C1) l1) (t1:IsL w (.slice D1 m1.length E1) m1) (p2:IsL w (.slice A2 l2.length C2) l2) (t2:IsL w (.slice D2 m2.length E2) m2) (k1:l1.length≤1000) (k2:m1.length≤1000) (k3:l2.length≤1000) (k4:m2.length≤1000) (r1:rightQ s1 l1 m1=true) (r2:rightQ s2 l2 m2=true):
 Calls Tryz.prog 36 #[.agg #[.bool s1,.slice A1 l1.length C1,.slice D1 m1.length E1,.bool s2,.slice A2 l2.length C2,.slice D2 m2.length E2]] w fun e w'=>e= .returned (.bool (decide (cmpQ (theQ s1 l1 m1) (theQ s2 l2 m2)≤0)))∧Below w.heap.size w w':=by
 have hR1:=fun w h h'=>rright5_any s1 (.slice A1 l1.length C1) (.slice D1 m1.length E1) l1 m1 w h h' (by omega) (by omega)
 rw[r1] at hR1
 have hR2:=fun w h h'=>rright5_any s2 (.slice A2 l2.length C2) (.slice D2 m2.length E2) l2 m2 w h h' (by omega) (by omega)
 rw[r2] at hR2
 have hC:=fun w (h1:IsL w (.slice A1 l1.length C1) l1) (h2:IsL w (.slice D1 m1.length E1) m1) (h3:IsL w (.slice A2 l2.length C2) l2) (h4:IsL w (.slice D2 m2.length E2) m2)=>rqcmp_any _ _ _ _ w (isQ_of h1 h2 r1).1 (isQ_of h3 h4 r2).1 ((isQ_of h1 h2 r1).2.1.more (by omega)) ((isQ_of h3 h4 r2).2.1.more (by omega))
 generalize cmpQ (theQ s1 l1 m1) (theQ s2 l2 m2)=cm at *
 obtain⟨g,Y0,hA,hB,hgw,EY⟩:=boxes1 w 46 #[.bool s1,.slice A1 l1.length C1,.slice D1 m1.length E1,.bool s2,.slice A2 l2.length C2,.slice D2 m2.length E2]
 replace p1:=p1.b hB
 replace t1:=t1.b hB
 replace p2:=p2.b hB
 replace t2:=t2.b hB
 obtain⟨c0,c1,c2,c3,c4,c5⟩:=hA.q6
 go_enter Tryz.func36,Tryz.ntmps36
 go_wp2_with fail
 rw[←EY.out.2,←EY.out.1]
 go_wp2_with fail
 refine (hR1 _ p1 t1).mono ?_
 rintro e w2 ⟨rfl,b2⟩
 replace p1:=p1.b b2
 replace t1:=t1.b b2
 replace p2:=p2.b b2
 replace t2:=t2.b b2
 replace hA:=hA.b b2
 replace hB:=bOn hB b2
 clear c0 c1 c2 c3 c4 c5
 obtain⟨c6,c7,c8,c9,c10,c11⟩:=hA.q6
 go_wp2_with fail
 refine (hR2 _ p2 t2).mono ?_
 rintro e w4 ⟨rfl,b4⟩
 replace p1:=p1.b b4
 replace t1:=t1.b b4
 replace p2:=p2.b b4
 replace t2:=t2.b b4
 replace hA:=hA.b b4
 replace hB:=bOn hB b4
 clear c6 c7 c8 c9 c10 c11
 obtain⟨c12,c13,c14,c15,c16,c17⟩:=hA.q6
 go_wp2_with fail
 refine (hC _ p1 t1 p2 t2).mono ?_
 rintro e w6 ⟨rfl,b6⟩
 replace p1:=p1.b b6
 replace t1:=t1.b b6
 replace p2:=p2.b b6
 replace t2:=t2.b b6
 replace hA:=hA.b b6
 replace hB:=bOn hB b6
 clear c12 c13 c14 c15 c16 c17
 obtain⟨c18,c19,c20,c21,c22,c23⟩:=hA.q6
 go_wp2
 go_ret
 exact⟨rfl,hB⟩
theorem rsright_any (s1 s2:Bool) (A1 D1 A2 D2:Option Addr) (C1 E1 C2 E2:Nat) (l1 m1 l2 m2:List Nat) (w:World) (p1:IsL w (.slice A1 l1.length C1) l1) (t1:IsL w (.slice D1 m1.length E1) m1) (p2:IsL w (.slice A2 l2.length C2) l2) (t2:IsL w (.slice D2 m2.length E2) m2) (k1:l1.length≤1000) (k2:m1.length≤1000) (k3:l2.length≤1000) (k4:m2.length≤1000):
 Calls Tryz.prog 36 #[.agg #[.bool s1,.slice A1 l1.length C1,.slice D1 m1.length E1,.bool s2,.slice A2 l2.length C2,.slice D2 m2.length E2]] w fun e w'=>e= .returned (.bool (rightI s1 l1 m1 s2 l2 m2))∧Below w.heap.size w w':=by
 unfold rightI
 rcases r1:rightQ s1 l1 m1
 ·rw[Bool.false_and,Bool.false_and];exact rsright_c0 s1 s2 A1 D1 A2 D2 C1 E1 C2 E2 l1 m1 l2 m2 w p1 t1 p2 t2 k1 k2 k3 k4 r1
 rcases r2:rightQ s2 l2 m2
 ·rw[Bool.true_and,Bool.false_and];exact rsright_c1 s1 s2 A1 D1 A2 D2 C1 E1 C2 E2 l1 m1 l2 m2 w p1 t1 p2 t2 k1 k2 k3 k4 r1 r2
 rw[Bool.true_and,Bool.true_and];exact rsright_c2 s1 s2 A1 D1 A2 D2 C1 E1 C2 E2 l1 m1 l2 m2 w p1 t1 p2 t2 k1 k2 k3 k4 r1 r2
theorem rsfew_c0 (s1 s2:Bool) (A1 D1 A2 D2:Option Addr) (C1 E1 C2 E2:Nat) (l1 m1 l2 m2:List Nat) (w:World) (p1:IsL w (.slice A1 l1.length C1) l1) (t1:IsL w (.slice D1 m1.length E1) m1) (p2:IsL w (.slice A2 l2.length C2) l2) (t2:IsL w (.slice D2 m2.length E2) m2) (n:Nat) (hn:n≤1000) (r1:fewQ s1 l1 m1 n=false):
 Calls Tryz.prog 31 #[.agg #[.bool s1,.slice A1 l1.length C1,.slice D1 m1.length E1,.bool s2,.slice A2 l2.length C2,.slice D2 m2.length E2],.int .i64 n] w fun e w'=>e= .returned (.bool false)∧Below w.heap.size w w':=by
 have hR1:=fun w h h'=>rfew5_any s1 (.slice A1 l1.length C1) (.slice D1 m1.length E1) l1 m1 n w h h' hn
 rw[r1] at hR1
 obtain⟨g,Y0,hA,hB,hgw,EY⟩:=boxes1 w 46 #[.bool s1,.slice A1 l1.length C1,.slice D1 m1.length E1,.bool s2,.slice A2 l2.length C2,.slice D2 m2.length E2]
 replace p1:=p1.b hB
 replace t1:=t1.b hB
 replace p2:=p2.b hB
 replace t2:=t2.b hB
 obtain⟨c0,c1,c2,c3,c4,c5⟩:=hA.q6
 go_enter Tryz.func31,Tryz.ntmps31
 go_wp2_with fail
 rw[←EY.out.2,←EY.out.1]
 go_wp2_with fail
 refine (hR1 _ p1 t1).mono ?_
 rintro e w2 ⟨rfl,b2⟩
 replace p1:=p1.b b2
 replace t1:=t1.b b2
 replace p2:=p2.b b2
 replace t2:=t2.b b2
 replace hA:=hA.b b2
 replace hB:=bOn hB b2
 clear c0 c1 c2 c3 c4 c5
 obtain⟨c6,c7,c8,c9,c10,c11⟩:=hA.q6
 go_wp2
 go_ret
 exact⟨rfl,hB⟩
theorem rsfew_c1 (s1 s2:Bool) (A1 D1 A2 D2:Option Addr) (C1 E1 C2 E2:Nat) (l1 m1 l2 m2:List Nat) (w:World) (p1:IsL w (.slice A1 l1.length C1) l1) (t1:IsL w (.slice D1 m1.length E1) m1) (p2:IsL w (.slice A2 l2.length C2) l2) (t2:IsL w (.slice D2 m2.length E2) m2) (n:Nat) (hn:n≤1000) (r1:fewQ s1 l1 m1 n=true) (r2:fewQ s2 l2 m2 n=false):
 Calls Tryz.prog 31 #[.agg #[.bool s1,.slice A1 l1.length C1,.slice D1 m1.length E1,.bool s2,.slice A2 l2.length C2,.slice D2 m2.length E2],.int .i64 n] w fun e w'=>e= .returned (.bool false)∧Below w.heap.size w w':=by
 have hR1:=fun w h h'=>rfew5_any s1 (.slice A1 l1.length C1) (.slice D1 m1.length E1) l1 m1 n w h h' hn
 rw[r1] at hR1
 have hR2:=fun w h h'=>rfew5_any s2 (.slice A2 l2.length C2) (.slice D2 m2.length E2) l2 m2 n w h h' hn
 rw[r2] at hR2
 obtain⟨g,Y0,hA,hB,hgw,EY⟩:=boxes1 w 46 #[.bool s1,.slice A1 l1.length C1,.slice D1 m1.length E1,.bool s2,.slice A2 l2.length C2,.slice D2 m2.length E2]
 replace p1:=p1.b hB
 replace t1:=t1.b hB
 replace p2:=p2.b hB
 replace t2:=t2.b hB
 obtain⟨c0,c1,c2,c3,c4,c5⟩:=hA.q6
 go_enter Tryz.func31,Tryz.ntmps31
 go_wp2_with fail
 rw[←EY.out.2,←EY.out.1]
 go_wp2_with fail
 refine (hR1 _ p1 t1).mono ?_
 rintro e w2 ⟨rfl,b2⟩
 replace p1:=p1.b b2
 replace t1:=t1.b b2
 replace p2:=p2.b b2
 replace t2:=t2.b b2
 replace hA:=hA.b b2
 replace hB:=bOn hB b2
 clear c0 c1 c2 c3 c4 c5
 obtain⟨c6,c7,c8,c9,c10,c11⟩:=hA.q6
 go_wp2_with fail
 refine (hR2 _ p2 t2).mono ?_
 rintro e w4 ⟨rfl,b4⟩
 replace p1:=p1.b b4
 replace t1:=t1.b b4
 replace p2:=p2.b b4
 replace t2:=t2.b b4
 replace hA:=hA.b b4
 replace hB:=bOn hB b4
 clear c6 c7 c8 c9 c10 c11
 obtain⟨c12,c13,c14,c15,c16,c17⟩:=hA.q6
 go_wp2
 go_ret
 exact⟨rfl,hB⟩
theorem rsfew_c2 (s1 s2:Bool) (A1 D1 A2 D2:Option Addr) (C1 E1 C2 E2:Nat) (l1 m1 l2 m2:List Nat) (w:World) (p1:IsL w (.slice A1 l1.length C1) l1) (t1:IsL w (.slice D1 m1.length E1) m1) (p2:IsL w (.slice A2 l2.length C2) l2) (t2:IsL w (.slice D2 m2.length E2) m2) (n:Nat) (hn:n≤1000) (r1:fewQ s1 l1 m1 n=true) (r2:fewQ s2 l2 m2 n=true):
 Calls Tryz.prog 31 #[.agg #[.bool s1,.slice A1 l1.length C1,.slice D1 m1.length E1,.bool s2,.slice A2 l2.length C2,.slice D2 m2.length E2],.int .i64 n] w fun e w'=>e= .returned (.bool (rightI s1 l1 m1 s2 l2 m2))∧Below w.heap.size w w':=by
 have hR1:=fun w h h'=>rfew5_any s1 (.slice A1 l1.length C1) (.slice D1 m1.length E1) l1 m1 n w h h' hn
 rw[r1] at hR1
 have hR2:=fun w h h'=>rfew5_any s2 (.slice A2 l2.length C2) (.slice D2 m2.length E2) l2 m2 n w h h' hn
 rw[r2] at hR2
 have r1':=r1
 have r2':=r2
 unfold fewQ at r1' r2'
 simp only[Bool.and_eq_true,decide_eq_true_eq] at r1' r2'
 have hC:=fun w h1 h2 h3 h4=>rsright_any s1 s2 A1 D1 A2 D2 C1 E1 C2 E2 l1 m1 l2 m2 w h1 h2 h3 h4 (by omega) (by omega) (by omega) (by omega)
 clear r1' r2'
 generalize rightI s1 l1 m1 s2 l2 m2=ri at *
 obtain⟨g,Y0,hA,hB,hgw,EY⟩:=boxes1 w 46 #[.bool s1,.slice A1 l1.length C1,.slice D1 m1.length E1,.bool s2,.slice A2 l2.length C2,.slice D2 m2.length E2]
 replace p1:=p1.b hB
 replace t1:=t1.b hB
 replace p2:=p2.b hB
 replace t2:=t2.b hB
 obtain⟨c0,c1,c2,c3,c4,c5⟩:=hA.q6
 go_enter Tryz.func31,Tryz.ntmps31
 go_wp2_with fail
 rw[←EY.out.2,←EY.out.1]
 go_wp2_with fail
 refine (hR1 _ p1 t1).mono ?_
 rintro e w2 ⟨rfl,b2⟩
 replace p1:=p1.b b2
 replace t1:=t1.b b2
 replace p2:=p2.b b2
 replace t2:=t2.b b2
 replace hA:=hA.b b2
 replace hB:=bOn hB b2
 clear c0 c1 c2 c3 c4 c5
 obtain⟨c6,c7,c8,c9,c10,c11⟩:=hA.q6
 go_wp2_with fail
 refine (hR2 _ p2 t2).mono ?_
 rintro e w4 ⟨rfl,b4⟩
 replace p1:=p1.b b4
 replace t1:=t1.b b4
 replace p2:=p2.b b4
 replace t2:=t2.b b4
 replace hA:=hA.b b4
 replace hB:=bOn hB b4
 clear c6 c7 c8 c9 c10 c11
 obtain⟨c12,c13,c14,c15,c16,c17⟩:=hA.q6
 go_wp2_with fail
 refine (hC _ p1 t1 p2 t2).mono ?_
 rintro e w6 ⟨rfl,b6⟩
 replace p1:=p1.b b6
 replace t1:=t1.b b6
 replace p2:=p2.b b6
 replace t2:=t2.b b6
 replace hA:=hA.b b6
 replace hB:=bOn hB b6
 clear c12 c13 c14 c15 c16 c17
 obtain⟨c18,c19,c20,c21,c22,c23⟩:=hA.q6
 go_wp2
 go_ret
 exact⟨rfl,hB⟩
theorem rsfew_any (s1 s2:Bool) (A1 D1 A2 D2:Option Addr) (C1 E1 C2 E2:Nat) (l1 m1 l2 m2:List Nat) (w:World) (p1:IsL w (.slice A1 l1.length C1) l1) (t1:IsL w (.slice D1 m1.length E1) m1) (p2:IsL w (.slice A2 l2.length C2) l2) (t2:IsL w (.slice D2 m2.length E2) m2) (n:Nat) (hn:n≤1000):
 Calls Tryz.prog 31 #[.agg #[.bool s1,.slice A1 l1.length C1,.slice D1 m1.length E1,.bool s2,.slice A2 l2.length C2,.slice D2 m2.length E2],.int .i64 n] w fun e w'=>e= .returned (.bool (fewI s1 l1 m1 s2 l2 m2 n))∧Below w.heap.size w w':=by
 unfold fewI
 rcases r1:fewQ s1 l1 m1 n
 ·rw[Bool.false_and,Bool.false_and];exact rsfew_c0 s1 s2 A1 D1 A2 D2 C1 E1 C2 E2 l1 m1 l2 m2 w p1 t1 p2 t2 n hn r1
 rcases r2:fewQ s2 l2 m2 n
 ·rw[Bool.true_and,Bool.false_and];exact rsfew_c1 s1 s2 A1 D1 A2 D2 C1 E1 C2 E2 l1 m1 l2 m2 w p1 t1 p2 t2 n hn r1 r2
 rw[Bool.true_and,Bool.true_and];exact rsfew_c2 s1 s2 A1 D1 A2 D2 C1 E1 C2 E2 l1 m1 l2 m2 w p1 t1 p2 t2 n hn r1 r2
theorem aone_any (k:Nat) (w:World) (hk:k≤40):Calls Tryz.prog 110 #[.int .i64 k] w fun e w'=>e= .returned (.int .i64 ((2^k:Nat):Int))∧w=w':=by
 have hP40:2^k≤2^40:=Nat.pow_le_pow_right (by omega) hk
 have hPi:((2^k:Nat):Int)=(2:Int)^k:=by simp
 obtain⟨P,hP⟩:∃P,P=2^k:=⟨_,rfl⟩
 rw[←hP] at hP40 hPi ⊢
 have w1:IntKind.i64.wrap ((2:Int)^k)=(P:Int):=by rw[←hPi,IntKind.wrap_i64];omega
 have w2:IntKind.i64.wrap (1*(2:Int)^k)=(P:Int):=by rw[Int.one_mul];exact w1
 clear hP hPi
 go_enter Tryz.func110,Tryz.ntmps110
 go_wp2
 go_ret
 exact⟨rfl,rfl⟩
theorem abeta_no (n:Int) (k X:Nat) (w:World) (hk:k≤40) (hX:Blk w X 3 #[.int .i64 k]) (hn:¬0≤n):
 Calls Tryz.prog 143 #[.int .i64 n,.pointer (some ⟨X,0,none⟩)] w fun e w'=>e= .returned (.bool false)∧w=w':=by
 have hO:=fun w=>aone_any k w hk
 have c0:=hX.cell 0
 have d0:decide (0≤n)=false:=decide_eq_false hn
 generalize 2^k=P at *
 clear hn
 go_enter Tryz.func143,Tryz.ntmps143
 go_wp2
 go_ret
 exact⟨rfl,rfl⟩
theorem abeta_yes (n:Int) (k X:Nat) (w:World) (hk:k≤40) (hX:Blk w X 3 #[.int .i64 k]) (hn:0≤n):
 Calls Tryz.prog 143 #[.int .i64 n,.pointer (some ⟨X,0,none⟩)] w fun e w'=>e= .returned (.bool (decide (n<((2^k:Nat):Int))))∧w=w':=by
 have hO:=fun w=>aone_any k w hk
 have c0:=hX.cell 0
 have d0:decide (0≤n)=true:=decide_eq_true hn
 generalize 2^k=P at *
 clear hn
 go_enter Tryz.func143,Tryz.ntmps143
 go_wp2_with fail
 refine (hO _).mono ?_
 rintro e w1 ⟨rfl,rfl⟩
 go_wp2
 go_ret
 exact⟨rfl,rfl⟩
theorem abeta_any (n:Int) (k X:Nat) (w:World) (hk:k≤40) (hX:Blk w X 3 #[.int .i64 k]):
 Calls Tryz.prog 143 #[.int .i64 n,.pointer (some ⟨X,0,none⟩)] w fun e w'=>e= .returned (.bool (decide (0≤n) && decide (n<((2^k:Nat):Int))))∧w=w':=by
 by_cases h:0≤n
 ·rw[decide_eq_true h,Bool.true_and];exact abeta_yes n k X w hk hX h
 ·rw[decide_eq_false h,Bool.false_and];exact abeta_no n k X w hk hX h
def rightA (lr b1 b2 eps wd f:Int):Bool:=decide (0≤f∧f≤40∧0≤lr∧0<eps∧(0≤b1∧b1<((2^f.toNat:Nat):Int))∧(0≤b2∧b2<((2^f.toNat:Nat):Int))∧0≤wd∧wd≤((2^f.toNat:Nat):Int))
theorem aright_f0 (lr b1 b2 eps wd f:Int) (apart:Bool) (w:World) (h:f<0):
 Calls Tryz.prog 82 #[.agg #[.int .i64 lr,.int .i64 b1,.int .i64 b2,.int .i64 eps,.int .i64 wd,.bool apart],.int .i64 f] w fun e w'=>e= .returned (.bool false)∧Below w.heap.size w w':=by
 have d0:decide (f<0)=true:=decide_eq_true h
 obtain⟨g,Y1,hA,hF,hB,hgw,EY⟩:=boxes2 w 61 #[.int .i64 lr,.int .i64 b1,.int .i64 b2,.int .i64 eps,.int .i64 wd,.bool apart] 3 #[.int .i64 f]
 obtain⟨c0,c1,c2,c3,c4,c5⟩:=hA.q6
 have c6:=hF.q1
 go_enter Tryz.func82,Tryz.ntmps82
 go_wp2_with fail
 rw[←EY.out.2,←EY.out.1]
 go_wp2
 go_ret
 exact⟨rfl,by rw[EY.out.1];exact hB⟩
theorem aright_f1 (lr b1 b2 eps wd f:Int) (apart:Bool) (w:World) (h0:¬f<0) (h:40<f):
 Calls Tryz.prog 82 #[.agg #[.int .i64 lr,.int .i64 b1,.int .i64 b2,.int .i64 eps,.int .i64 wd,.bool apart],.int .i64 f] w fun e w'=>e= .returned (.bool false)∧Below w.heap.size w w':=by
 have d0:decide (f<0)=false:=decide_eq_false h0
 have d1:decide (40<f)=true:=decide_eq_true h
 obtain⟨g,Y1,hA,hF,hB,hgw,EY⟩:=boxes2 w 61 #[.int .i64 lr,.int .i64 b1,.int .i64 b2,.int .i64 eps,.int .i64 wd,.bool apart] 3 #[.int .i64 f]
 obtain⟨c0,c1,c2,c3,c4,c5⟩:=hA.q6
 have c6:=hF.q1
 go_enter Tryz.func82,Tryz.ntmps82
 go_wp2_with fail
 rw[←EY.out.2,←EY.out.1]
 go_wp2
 go_ret
 exact⟨rfl,by rw[EY.out.1];exact hB⟩
theorem aright_c0 (lr b1 b2 eps wd f:Int) (apart:Bool) (w:World) (f0:0≤f) (f1:f≤40) (hx:¬(0≤lr)):
 Calls Tryz.prog 82 #[.agg #[.int .i64 lr,.int .i64 b1,.int .i64 b2,.int .i64 eps,.int .i64 wd,.bool apart],.int .i64 f] w fun e w'=>e= .returned (.bool false)∧Below w.heap.size w w':=by
 obtain⟨k,rfl⟩:∃k:Nat,f=(k:Int):=⟨f.toNat,by omega⟩
 have hk:k≤40:=by omega
 try simp only[Int.toNat_natCast] at *
 have d0:decide ((k:Int)<0)=false:=decide_eq_false (by omega)
 have d1:decide (40<(k:Int))=false:=decide_eq_false (by omega)
 have hO:=fun w=>aone_any k w hk
 have hb:=fun n X w hX=>abeta_any n k X w hk hX
 have e0:decide (0≤lr)=false:=decide_eq_false hx
 generalize 2^k=P at *
 clear hb hx
 obtain⟨g,Y1,hA,hF,hB,hgw,EY⟩:=boxes2 w 61 #[.int .i64 lr,.int .i64 b1,.int .i64 b2,.int .i64 eps,.int .i64 wd,.bool apart] 3 #[.int .i64 k]
 obtain⟨c0,c1,c2,c3,c4,c5⟩:=hA.q6
 have c6:=hF.q1
 go_enter Tryz.func82,Tryz.ntmps82
 go_upto_region 4 with fail
 rw[←EY.out.2,←EY.out.1]
 replace hB:=hB.drew
 replace hA:=hA.drew
 replace hF:=hF.drew
 clear c0 c1 c2 c3 c4 c5 c6
 refine wp_region_noPanic ?_
 refine wp_region_held_drew (S:=fun w'=>w'.cell? ⟨g,0,none⟩=some (.int .i64 lr)∧w'.cell? ⟨g,1,none⟩=some (.int .i64 b1)∧w'.cell? ⟨g,2,none⟩=some (.int .i64 b2)∧w'.cell? ⟨g,3,none⟩=some (.int .i64 eps)∧w'.cell? ⟨g,4,none⟩=some (.int .i64 wd)∧w'.cell? ⟨g,5,none⟩=some (.bool apart)∧w'.cell? ⟨g+1,0,none⟩=some (.int .i64 k)) (by kernel_rfl) ?_ (fun hHeld=>?_)
 ·exact⟨hA.cell 0,hA.cell 1,hA.cell 2,hA.cell 3,hA.cell 4,hA.cell 5,hF.cell 0⟩
 obtain⟨wd4_1,hwd⟩:∃q,q=Y1.drew:=⟨_,rfl⟩
 rw[←hwd] at hB hA hF hHeld ⊢
 clear hwd
 refine tkA 0 rfl ?_
 refine tkA 1 rfl ?_
 refine tkA 2 rfl ?_
 refine tkA 3 rfl ?_
 refine tkS 4 rfl ?_
 refine tkS 5 rfl ?_
 refine tkS 6 rfl ?_
 refine tkA 7 rfl ?_
 refine tkA 8 rfl ?_
 refine tkS 9 rfl ?_
 refine tkS 10 rfl ?_
 refine tkS 11 rfl ?_
 refine tkS 12 rfl ?_
 refine tkA 13 rfl ?_
 refine tkA 14 rfl ?_
 refine tkS 15 rfl ?_
 refine tkS 16 rfl ?_
 refine tkS 17 rfl ?_
 refine tkS 18 rfl ?_
 refine tkA 19 rfl ?_
 refine tkA 20 rfl ?_
 refine tkS 21 rfl ?_
 refine tkS 22 rfl ?_
 refine tkS 23 rfl ?_
 refine tkA 24 rfl ?_
 refine tkA 25 rfl ?_
 refine tkS 26 rfl ?_
 refine tkS 27 rfl ?_
 refine tkS 28 rfl ?_
 refine tkS 29 rfl ?_
 refine tkS 30 rfl ?_
 refine tkA 31 rfl ?_
 refine tkA 32 rfl ?_
 try simp only[Act.put,lay]
 try dsimp only
 try simp only[Act.put,lay]
 refine wpAnyH_done (by kernel_rfl) ?_ _
 refine NoPanic.normal ?_
 skip
 obtain⟨c7,c8,c9,c10,c11,c12⟩:=hA.q6
 have c13:=hF.q1
 go_wp2
 go_ret
 exact⟨rfl,hB⟩
theorem aright_c1 (lr b1 b2 eps wd f:Int) (apart:Bool) (w:World) (f0:0≤f) (f1:f≤40) (h0:0≤lr) (hx:¬(0<eps)):
 Calls Tryz.prog 82 #[.agg #[.int .i64 lr,.int .i64 b1,.int .i64 b2,.int .i64 eps,.int .i64 wd,.bool apart],.int .i64 f] w fun e w'=>e= .returned (.bool false)∧Below w.heap.size w w':=by
 obtain⟨k,rfl⟩:∃k:Nat,f=(k:Int):=⟨f.toNat,by omega⟩
 have hk:k≤40:=by omega
 try simp only[Int.toNat_natCast] at *
 have d0:decide ((k:Int)<0)=false:=decide_eq_false (by omega)
 have d1:decide (40<(k:Int))=false:=decide_eq_false (by omega)
 have hO:=fun w=>aone_any k w hk
 have hb:=fun n X w hX=>abeta_any n k X w hk hX
 have e0:decide (0≤lr)=true:=decide_eq_true h0
 have e1:decide (0<eps)=false:=decide_eq_false hx
 generalize 2^k=P at *
 clear hb h0 hx
 obtain⟨g,Y1,hA,hF,hB,hgw,EY⟩:=boxes2 w 61 #[.int .i64 lr,.int .i64 b1,.int .i64 b2,.int .i64 eps,.int .i64 wd,.bool apart] 3 #[.int .i64 k]
 obtain⟨c0,c1,c2,c3,c4,c5⟩:=hA.q6
 have c6:=hF.q1
 go_enter Tryz.func82,Tryz.ntmps82
 go_upto_region 4 with fail
 rw[←EY.out.2,←EY.out.1]
 replace hB:=hB.drew
 replace hA:=hA.drew
 replace hF:=hF.drew
 clear c0 c1 c2 c3 c4 c5 c6
 refine wp_region_noPanic ?_
 refine wp_region_held_drew (S:=fun w'=>w'.cell? ⟨g,0,none⟩=some (.int .i64 lr)∧w'.cell? ⟨g,1,none⟩=some (.int .i64 b1)∧w'.cell? ⟨g,2,none⟩=some (.int .i64 b2)∧w'.cell? ⟨g,3,none⟩=some (.int .i64 eps)∧w'.cell? ⟨g,4,none⟩=some (.int .i64 wd)∧w'.cell? ⟨g,5,none⟩=some (.bool apart)∧w'.cell? ⟨g+1,0,none⟩=some (.int .i64 k)) (by kernel_rfl) ?_ (fun hHeld=>?_)
 ·exact⟨hA.cell 0,hA.cell 1,hA.cell 2,hA.cell 3,hA.cell 4,hA.cell 5,hF.cell 0⟩
 obtain⟨wd4_1,hwd⟩:∃q,q=Y1.drew:=⟨_,rfl⟩
 rw[←hwd] at hB hA hF hHeld ⊢
 clear hwd
 refine tkA 0 rfl ?_
 refine tkA 1 rfl ?_
 refine tkA 2 rfl ?_
 refine tkA 3 rfl ?_
 refine tkA 4 rfl ?_
 refine tkA 5 rfl ?_
 refine tkA 6 rfl ?_
 refine tkA 7 rfl ?_
 refine tkA 8 rfl ?_
 refine tkS 9 rfl ?_
 refine tkS 10 rfl ?_
 refine tkS 11 rfl ?_
 refine tkS 12 rfl ?_
 refine tkA 13 rfl ?_
 refine tkA 14 rfl ?_
 refine tkS 15 rfl ?_
 refine tkS 16 rfl ?_
 refine tkS 17 rfl ?_
 refine tkS 18 rfl ?_
 refine tkA 19 rfl ?_
 refine tkA 20 rfl ?_
 refine tkS 21 rfl ?_
 refine tkS 22 rfl ?_
 refine tkS 23 rfl ?_
 refine tkA 24 rfl ?_
 refine tkA 25 rfl ?_
 refine tkS 26 rfl ?_
 refine tkS 27 rfl ?_
 refine tkS 28 rfl ?_
 refine tkS 29 rfl ?_
 refine tkS 30 rfl ?_
 refine tkA 31 rfl ?_
 refine tkA 32 rfl ?_
 try simp only[Act.put,lay]
 try dsimp only
 try simp only[Act.put,lay]
 refine wpAnyH_done (by kernel_rfl) ?_ _
 refine NoPanic.normal ?_
 skip
 obtain⟨c7,c8,c9,c10,c11,c12⟩:=hA.q6
 have c13:=hF.q1
 go_wp2
 go_ret
 exact⟨rfl,hB⟩
theorem aright_c2 (lr b1 b2 eps wd f:Int) (apart:Bool) (w:World) (f0:0≤f) (f1:f≤40) (h0:0≤lr) (h1:0<eps) (hx:¬(0≤b1∧b1<((2^f.toNat:Nat):Int))):
 Calls Tryz.prog 82 #[.agg #[.int .i64 lr,.int .i64 b1,.int .i64 b2,.int .i64 eps,.int .i64 wd,.bool apart],.int .i64 f] w fun e w'=>e= .returned (.bool false)∧Below w.heap.size w w':=by
 obtain⟨k,rfl⟩:∃k:Nat,f=(k:Int):=⟨f.toNat,by omega⟩
 have hk:k≤40:=by omega
 try simp only[Int.toNat_natCast] at *
 have d0:decide ((k:Int)<0)=false:=decide_eq_false (by omega)
 have d1:decide (40<(k:Int))=false:=decide_eq_false (by omega)
 have hO:=fun w=>aone_any k w hk
 have hb:=fun n X w hX=>abeta_any n k X w hk hX
 have e0:decide (0≤lr)=true:=decide_eq_true h0
 have e1:decide (0<eps)=true:=decide_eq_true h1
 have hb2:=fun X w hX=>hb b1 X w hX
 rw[show (decide (0≤b1) && decide (b1<((2^k:Nat):Int)))=false by rw[←Bool.decide_and];exact decide_eq_false hx] at hb2
 generalize 2^k=P at *
 clear hb h0 h1 hx
 obtain⟨g,Y1,hA,hF,hB,hgw,EY⟩:=boxes2 w 61 #[.int .i64 lr,.int .i64 b1,.int .i64 b2,.int .i64 eps,.int .i64 wd,.bool apart] 3 #[.int .i64 k]
 obtain⟨c0,c1,c2,c3,c4,c5⟩:=hA.q6
 have c6:=hF.q1
 go_enter Tryz.func82,Tryz.ntmps82
 go_upto_region 4 with fail
 rw[←EY.out.2,←EY.out.1]
 replace hB:=hB.drew
 replace hA:=hA.drew
 replace hF:=hF.drew
 clear c0 c1 c2 c3 c4 c5 c6
 refine wp_region_noPanic ?_
 refine wp_region_held_drew (S:=fun w'=>w'.cell? ⟨g,0,none⟩=some (.int .i64 lr)∧w'.cell? ⟨g,1,none⟩=some (.int .i64 b1)∧w'.cell? ⟨g,2,none⟩=some (.int .i64 b2)∧w'.cell? ⟨g,3,none⟩=some (.int .i64 eps)∧w'.cell? ⟨g,4,none⟩=some (.int .i64 wd)∧w'.cell? ⟨g,5,none⟩=some (.bool apart)∧w'.cell? ⟨g+1,0,none⟩=some (.int .i64 k)) (by kernel_rfl) ?_ (fun hHeld=>?_)
 ·exact⟨hA.cell 0,hA.cell 1,hA.cell 2,hA.cell 3,hA.cell 4,hA.cell 5,hF.cell 0⟩
 obtain⟨wd4_1,hwd⟩:∃q,q=Y1.drew:=⟨_,rfl⟩
 rw[←hwd] at hB hA hF hHeld ⊢
 clear hwd
 refine tkA 0 rfl ?_
 refine tkA 1 rfl ?_
 refine tkA 2 rfl ?_
 refine tkA 3 rfl ?_
 refine tkA 4 rfl ?_
 refine tkA 5 rfl ?_
 refine tkA 6 rfl ?_
 refine tkA 7 rfl ?_
 refine tkA 8 rfl ?_
 refine tkA 9 rfl ?_
 refine tkA 10 rfl ?_
 refine tkA 11 rfl ?_
 try simp only[Act.put,lay]
 refine rd1 12 rfl fun K hK=>?_
 go_simp
 refine (hb2 _ _ hF).mono ?_
 rintro e u4_1 ⟨rfl,rfl⟩
 go_wp2_with fail
 refine hK.out _ _ ?_ fun hHeld=>?_
 ·exact⟨hA.cell 0,hA.cell 1,hA.cell 2,hA.cell 3,hA.cell 4,hA.cell 5,hF.cell 0⟩
 clear hK K
 refine tkA 13 rfl ?_
 refine tkA 14 rfl ?_
 refine tkS 15 rfl ?_
 refine tkS 16 rfl ?_
 refine tkS 17 rfl ?_
 refine tkS 18 rfl ?_
 refine tkA 19 rfl ?_
 refine tkA 20 rfl ?_
 refine tkS 21 rfl ?_
 refine tkS 22 rfl ?_
 refine tkS 23 rfl ?_
 refine tkA 24 rfl ?_
 refine tkA 25 rfl ?_
 refine tkS 26 rfl ?_
 refine tkS 27 rfl ?_
 refine tkS 28 rfl ?_
 refine tkS 29 rfl ?_
 refine tkS 30 rfl ?_
 refine tkA 31 rfl ?_
 refine tkA 32 rfl ?_
 try simp only[Act.put,lay]
 try dsimp only
 try simp only[Act.put,lay]
 refine wpAnyH_done (by kernel_rfl) ?_ _
 refine NoPanic.normal ?_
 skip
 obtain⟨c7,c8,c9,c10,c11,c12⟩:=hA.q6
 have c13:=hF.q1
 go_wp2
 go_ret
 exact⟨rfl,hB⟩
theorem aright_c3 (lr b1 b2 eps wd f:Int) (apart:Bool) (w:World) (f0:0≤f) (f1:f≤40) (h0:0≤lr) (h1:0<eps) (h2:0≤b1∧b1<((2^f.toNat:Nat):Int)) (hx:¬(0≤b2∧b2<((2^f.toNat:Nat):Int))):
 Calls Tryz.prog 82 #[.agg #[.int .i64 lr,.int .i64 b1,.int .i64 b2,.int .i64 eps,.int .i64 wd,.bool apart],.int .i64 f] w fun e w'=>e= .returned (.bool false)∧Below w.heap.size w w':=by
 obtain⟨k,rfl⟩:∃k:Nat,f=(k:Int):=⟨f.toNat,by omega⟩
 have hk:k≤40:=by omega
 try simp only[Int.toNat_natCast] at *
 have d0:decide ((k:Int)<0)=false:=decide_eq_false (by omega)
 have d1:decide (40<(k:Int))=false:=decide_eq_false (by omega)
 have hO:=fun w=>aone_any k w hk
 have hb:=fun n X w hX=>abeta_any n k X w hk hX
 have e0:decide (0≤lr)=true:=decide_eq_true h0
 have e1:decide (0<eps)=true:=decide_eq_true h1
 have hb2:=fun X w hX=>hb b1 X w hX
 rw[show (decide (0≤b1) && decide (b1<((2^k:Nat):Int)))=true by simp[h2.1];simpa using h2.2] at hb2
 have hb3:=fun X w hX=>hb b2 X w hX
 rw[show (decide (0≤b2) && decide (b2<((2^k:Nat):Int)))=false by rw[←Bool.decide_and];exact decide_eq_false hx] at hb3
 generalize 2^k=P at *
 clear hb h0 h1 h2 hx
 obtain⟨g,Y1,hA,hF,hB,hgw,EY⟩:=boxes2 w 61 #[.int .i64 lr,.int .i64 b1,.int .i64 b2,.int .i64 eps,.int .i64 wd,.bool apart] 3 #[.int .i64 k]
 obtain⟨c0,c1,c2,c3,c4,c5⟩:=hA.q6
 have c6:=hF.q1
 go_enter Tryz.func82,Tryz.ntmps82
 go_upto_region 4 with fail
 rw[←EY.out.2,←EY.out.1]
 replace hB:=hB.drew
 replace hA:=hA.drew
 replace hF:=hF.drew
 clear c0 c1 c2 c3 c4 c5 c6
 refine wp_region_noPanic ?_
 refine wp_region_held_drew (S:=fun w'=>w'.cell? ⟨g,0,none⟩=some (.int .i64 lr)∧w'.cell? ⟨g,1,none⟩=some (.int .i64 b1)∧w'.cell? ⟨g,2,none⟩=some (.int .i64 b2)∧w'.cell? ⟨g,3,none⟩=some (.int .i64 eps)∧w'.cell? ⟨g,4,none⟩=some (.int .i64 wd)∧w'.cell? ⟨g,5,none⟩=some (.bool apart)∧w'.cell? ⟨g+1,0,none⟩=some (.int .i64 k)) (by kernel_rfl) ?_ (fun hHeld=>?_)
 ·exact⟨hA.cell 0,hA.cell 1,hA.cell 2,hA.cell 3,hA.cell 4,hA.cell 5,hF.cell 0⟩
 obtain⟨wd4_1,hwd⟩:∃q,q=Y1.drew:=⟨_,rfl⟩
 rw[←hwd] at hB hA hF hHeld ⊢
 clear hwd
 refine tkA 0 rfl ?_
 refine tkA 1 rfl ?_
 refine tkA 2 rfl ?_
 refine tkA 3 rfl ?_
 refine tkA 4 rfl ?_
 refine tkA 5 rfl ?_
 refine tkA 6 rfl ?_
 refine tkA 7 rfl ?_
 refine tkA 8 rfl ?_
 refine tkA 9 rfl ?_
 refine tkA 10 rfl ?_
 refine tkA 11 rfl ?_
 try simp only[Act.put,lay]
 refine rd1 12 rfl fun K hK=>?_
 go_simp
 refine (hb2 _ _ hF).mono ?_
 rintro e u4_1 ⟨rfl,rfl⟩
 go_wp2_with fail
 refine hK.out _ _ ?_ fun hHeld=>?_
 ·exact⟨hA.cell 0,hA.cell 1,hA.cell 2,hA.cell 3,hA.cell 4,hA.cell 5,hF.cell 0⟩
 clear hK K
 refine tkA 13 rfl ?_
 refine tkA 14 rfl ?_
 refine tkA 15 rfl ?_
 refine tkA 16 rfl ?_
 refine tkA 17 rfl ?_
 try simp only[Act.put,lay]
 refine rd1 18 rfl fun K hK=>?_
 go_simp
 refine (hb3 _ _ hF).mono ?_
 rintro e u4_2 ⟨rfl,rfl⟩
 go_wp2_with fail
 refine hK.out _ _ ?_ fun hHeld=>?_
 ·exact⟨hA.cell 0,hA.cell 1,hA.cell 2,hA.cell 3,hA.cell 4,hA.cell 5,hF.cell 0⟩
 clear hK K
 refine tkA 19 rfl ?_
 refine tkA 20 rfl ?_
 refine tkS 21 rfl ?_
 refine tkS 22 rfl ?_
 refine tkS 23 rfl ?_
 refine tkA 24 rfl ?_
 refine tkA 25 rfl ?_
 refine tkS 26 rfl ?_
 refine tkS 27 rfl ?_
 refine tkS 28 rfl ?_
 refine tkS 29 rfl ?_
 refine tkS 30 rfl ?_
 refine tkA 31 rfl ?_
 refine tkA 32 rfl ?_
 try simp only[Act.put,lay]
 try dsimp only
 try simp only[Act.put,lay]
 refine wpAnyH_done (by kernel_rfl) ?_ _
 refine NoPanic.normal ?_
 skip
 obtain⟨c7,c8,c9,c10,c11,c12⟩:=hA.q6
 have c13:=hF.q1
 go_wp2
 go_ret
 exact⟨rfl,hB⟩
theorem aright_c4 (lr b1 b2 eps wd f:Int) (apart:Bool) (w:World) (f0:0≤f) (f1:f≤40) (h0:0≤lr) (h1:0<eps) (h2:0≤b1∧b1<((2^f.toNat:Nat):Int)) (h3:0≤b2∧b2<((2^f.toNat:Nat):Int)) (hx:¬(0≤wd)):
 Calls Tryz.prog 82 #[.agg #[.int .i64 lr,.int .i64 b1,.int .i64 b2,.int .i64 eps,.int .i64 wd,.bool apart],.int .i64 f] w fun e w'=>e= .returned (.bool false)∧Below w.heap.size w w':=by
 obtain⟨k,rfl⟩:∃k:Nat,f=(k:Int):=⟨f.toNat,by omega⟩
 have hk:k≤40:=by omega
 try simp only[Int.toNat_natCast] at *
 have d0:decide ((k:Int)<0)=false:=decide_eq_false (by omega)
 have d1:decide (40<(k:Int))=false:=decide_eq_false (by omega)
 have hO:=fun w=>aone_any k w hk
 have hb:=fun n X w hX=>abeta_any n k X w hk hX
 have e0:decide (0≤lr)=true:=decide_eq_true h0
 have e1:decide (0<eps)=true:=decide_eq_true h1
 have hb2:=fun X w hX=>hb b1 X w hX
 rw[show (decide (0≤b1) && decide (b1<((2^k:Nat):Int)))=true by simp[h2.1];simpa using h2.2] at hb2
 have hb3:=fun X w hX=>hb b2 X w hX
 rw[show (decide (0≤b2) && decide (b2<((2^k:Nat):Int)))=true by simp[h3.1];simpa using h3.2] at hb3
 have e4:decide (0≤wd)=false:=decide_eq_false hx
 generalize 2^k=P at *
 clear hb h0 h1 h2 h3 hx
 obtain⟨g,Y1,hA,hF,hB,hgw,EY⟩:=boxes2 w 61 #[.int .i64 lr,.int .i64 b1,.int .i64 b2,.int .i64 eps,.int .i64 wd,.bool apart] 3 #[.int .i64 k]
 obtain⟨c0,c1,c2,c3,c4,c5⟩:=hA.q6
 have c6:=hF.q1
 go_enter Tryz.func82,Tryz.ntmps82
 go_upto_region 4 with fail
 rw[←EY.out.2,←EY.out.1]
 replace hB:=hB.drew
 replace hA:=hA.drew
 replace hF:=hF.drew
 clear c0 c1 c2 c3 c4 c5 c6
 refine wp_region_noPanic ?_
 refine wp_region_held_drew (S:=fun w'=>w'.cell? ⟨g,0,none⟩=some (.int .i64 lr)∧w'.cell? ⟨g,1,none⟩=some (.int .i64 b1)∧w'.cell? ⟨g,2,none⟩=some (.int .i64 b2)∧w'.cell? ⟨g,3,none⟩=some (.int .i64 eps)∧w'.cell? ⟨g,4,none⟩=some (.int .i64 wd)∧w'.cell? ⟨g,5,none⟩=some (.bool apart)∧w'.cell? ⟨g+1,0,none⟩=some (.int .i64 k)) (by kernel_rfl) ?_ (fun hHeld=>?_)
 ·exact⟨hA.cell 0,hA.cell 1,hA.cell 2,hA.cell 3,hA.cell 4,hA.cell 5,hF.cell 0⟩
 obtain⟨wd4_1,hwd⟩:∃q,q=Y1.drew:=⟨_,rfl⟩
 rw[←hwd] at hB hA hF hHeld ⊢
 clear hwd
 refine tkA 0 rfl ?_
 refine tkA 1 rfl ?_
 refine tkA 2 rfl ?_
 refine tkA 3 rfl ?_
 refine tkA 4 rfl ?_
 refine tkA 5 rfl ?_
 refine tkA 6 rfl ?_
 refine tkA 7 rfl ?_
 refine tkA 8 rfl ?_
 refine tkA 9 rfl ?_
 refine tkA 10 rfl ?_
 refine tkA 11 rfl ?_
 try simp only[Act.put,lay]
 refine rd1 12 rfl fun K hK=>?_
 go_simp
 refine (hb2 _ _ hF).mono ?_
 rintro e u4_1 ⟨rfl,rfl⟩
 go_wp2_with fail
 refine hK.out _ _ ?_ fun hHeld=>?_
 ·exact⟨hA.cell 0,hA.cell 1,hA.cell 2,hA.cell 3,hA.cell 4,hA.cell 5,hF.cell 0⟩
 clear hK K
 refine tkA 13 rfl ?_
 refine tkA 14 rfl ?_
 refine tkA 15 rfl ?_
 refine tkA 16 rfl ?_
 refine tkA 17 rfl ?_
 try simp only[Act.put,lay]
 refine rd1 18 rfl fun K hK=>?_
 go_simp
 refine (hb3 _ _ hF).mono ?_
 rintro e u4_2 ⟨rfl,rfl⟩
 go_wp2_with fail
 refine hK.out _ _ ?_ fun hHeld=>?_
 ·exact⟨hA.cell 0,hA.cell 1,hA.cell 2,hA.cell 3,hA.cell 4,hA.cell 5,hF.cell 0⟩
 clear hK K
 refine tkA 19 rfl ?_
 refine tkA 20 rfl ?_
 refine tkA 21 rfl ?_
 refine tkA 22 rfl ?_
 refine tkA 23 rfl ?_
 refine tkA 24 rfl ?_
 refine tkA 25 rfl ?_
 refine tkS 26 rfl ?_
 refine tkS 27 rfl ?_
 refine tkS 28 rfl ?_
 refine tkS 29 rfl ?_
 refine tkS 30 rfl ?_
 refine tkA 31 rfl ?_
 refine tkA 32 rfl ?_
 try simp only[Act.put,lay]
 try dsimp only
 try simp only[Act.put,lay]
 refine wpAnyH_done (by kernel_rfl) ?_ _
 refine NoPanic.normal ?_
 skip
 obtain⟨c7,c8,c9,c10,c11,c12⟩:=hA.q6
 have c13:=hF.q1
 go_wp2
 go_ret
 exact⟨rfl,hB⟩
theorem aright_c5 (lr b1 b2 eps wd f:Int) (apart:Bool) (w:World) (f0:0≤f) (f1:f≤40) (h0:0≤lr) (h1:0<eps) (h2:0≤b1∧b1<((2^f.toNat:Nat):Int)) (h3:0≤b2∧b2<((2^f.toNat:Nat):Int)) (h4:0≤wd) (hx:¬(wd≤((2^f.toNat:Nat):Int))):
 Calls Tryz.prog 82 #[.agg #[.int .i64 lr,.int .i64 b1,.int .i64 b2,.int .i64 eps,.int .i64 wd,.bool apart],.int .i64 f] w fun e w'=>e= .returned (.bool false)∧Below w.heap.size w w':=by
 obtain⟨k,rfl⟩:∃k:Nat,f=(k:Int):=⟨f.toNat,by omega⟩
 have hk:k≤40:=by omega
 try simp only[Int.toNat_natCast] at *
 have d0:decide ((k:Int)<0)=false:=decide_eq_false (by omega)
 have d1:decide (40<(k:Int))=false:=decide_eq_false (by omega)
 have hO:=fun w=>aone_any k w hk
 have hb:=fun n X w hX=>abeta_any n k X w hk hX
 have e0:decide (0≤lr)=true:=decide_eq_true h0
 have e1:decide (0<eps)=true:=decide_eq_true h1
 have hb2:=fun X w hX=>hb b1 X w hX
 rw[show (decide (0≤b1) && decide (b1<((2^k:Nat):Int)))=true by simp[h2.1];simpa using h2.2] at hb2
 have hb3:=fun X w hX=>hb b2 X w hX
 rw[show (decide (0≤b2) && decide (b2<((2^k:Nat):Int)))=true by simp[h3.1];simpa using h3.2] at hb3
 have e4:decide (0≤wd)=true:=decide_eq_true h4
 have e5:decide (wd≤((2^k:Nat):Int))=false:=decide_eq_false hx
 generalize 2^k=P at *
 clear hb h0 h1 h2 h3 h4 hx
 obtain⟨g,Y1,hA,hF,hB,hgw,EY⟩:=boxes2 w 61 #[.int .i64 lr,.int .i64 b1,.int .i64 b2,.int .i64 eps,.int .i64 wd,.bool apart] 3 #[.int .i64 k]
 obtain⟨c0,c1,c2,c3,c4,c5⟩:=hA.q6
 have c6:=hF.q1
 go_enter Tryz.func82,Tryz.ntmps82
 go_upto_region 4 with fail
 rw[←EY.out.2,←EY.out.1]
 replace hB:=hB.drew
 replace hA:=hA.drew
 replace hF:=hF.drew
 clear c0 c1 c2 c3 c4 c5 c6
 refine wp_region_noPanic ?_
 refine wp_region_held_drew (S:=fun w'=>w'.cell? ⟨g,0,none⟩=some (.int .i64 lr)∧w'.cell? ⟨g,1,none⟩=some (.int .i64 b1)∧w'.cell? ⟨g,2,none⟩=some (.int .i64 b2)∧w'.cell? ⟨g,3,none⟩=some (.int .i64 eps)∧w'.cell? ⟨g,4,none⟩=some (.int .i64 wd)∧w'.cell? ⟨g,5,none⟩=some (.bool apart)∧w'.cell? ⟨g+1,0,none⟩=some (.int .i64 k)) (by kernel_rfl) ?_ (fun hHeld=>?_)
 ·exact⟨hA.cell 0,hA.cell 1,hA.cell 2,hA.cell 3,hA.cell 4,hA.cell 5,hF.cell 0⟩
 obtain⟨wd4_1,hwd⟩:∃q,q=Y1.drew:=⟨_,rfl⟩
 rw[←hwd] at hB hA hF hHeld ⊢
 clear hwd
 refine tkA 0 rfl ?_
 refine tkA 1 rfl ?_
 refine tkA 2 rfl ?_
 refine tkA 3 rfl ?_
 refine tkA 4 rfl ?_
 refine tkA 5 rfl ?_
 refine tkA 6 rfl ?_
 refine tkA 7 rfl ?_
 refine tkA 8 rfl ?_
 refine tkA 9 rfl ?_
 refine tkA 10 rfl ?_
 refine tkA 11 rfl ?_
 try simp only[Act.put,lay]
 refine rd1 12 rfl fun K hK=>?_
 go_simp
 refine (hb2 _ _ hF).mono ?_
 rintro e u4_1 ⟨rfl,rfl⟩
 go_wp2_with fail
 refine hK.out _ _ ?_ fun hHeld=>?_
 ·exact⟨hA.cell 0,hA.cell 1,hA.cell 2,hA.cell 3,hA.cell 4,hA.cell 5,hF.cell 0⟩
 clear hK K
 refine tkA 13 rfl ?_
 refine tkA 14 rfl ?_
 refine tkA 15 rfl ?_
 refine tkA 16 rfl ?_
 refine tkA 17 rfl ?_
 try simp only[Act.put,lay]
 refine rd1 18 rfl fun K hK=>?_
 go_simp
 refine (hb3 _ _ hF).mono ?_
 rintro e u4_2 ⟨rfl,rfl⟩
 go_wp2_with fail
 refine hK.out _ _ ?_ fun hHeld=>?_
 ·exact⟨hA.cell 0,hA.cell 1,hA.cell 2,hA.cell 3,hA.cell 4,hA.cell 5,hF.cell 0⟩
 clear hK K
 refine tkA 19 rfl ?_
 refine tkA 20 rfl ?_
 refine tkA 21 rfl ?_
 refine tkA 22 rfl ?_
 refine tkA 23 rfl ?_
 refine tkA 24 rfl ?_
 refine tkA 25 rfl ?_
 refine tkA 26 rfl ?_
 refine tkA 27 rfl ?_
 refine tkA 28 rfl ?_
 try simp only[Act.put,lay]
 refine rd1 29 rfl fun K hK=>?_
 go_simp
 refine (hO _).mono ?_
 rintro e u4_3 ⟨rfl,rfl⟩
 go_wp2_with fail
 refine hK.out _ _ ?_ fun hHeld=>?_
 ·exact⟨hA.cell 0,hA.cell 1,hA.cell 2,hA.cell 3,hA.cell 4,hA.cell 5,hF.cell 0⟩
 clear hK K
 refine tkA 30 rfl ?_
 refine tkA 31 rfl ?_
 refine tkA 32 rfl ?_
 try simp only[Act.put,lay]
 try dsimp only
 try simp only[Act.put,lay]
 refine wpAnyH_done (by kernel_rfl) ?_ _
 refine NoPanic.normal ?_
 skip
 obtain⟨c7,c8,c9,c10,c11,c12⟩:=hA.q6
 have c13:=hF.q1
 go_wp2
 go_ret
 exact⟨rfl,hB⟩
theorem aright_c6 (lr b1 b2 eps wd f:Int) (apart:Bool) (w:World) (f0:0≤f) (f1:f≤40) (h0:0≤lr) (h1:0<eps) (h2:0≤b1∧b1<((2^f.toNat:Nat):Int)) (h3:0≤b2∧b2<((2^f.toNat:Nat):Int)) (h4:0≤wd) (h5:wd≤((2^f.toNat:Nat):Int)):
 Calls Tryz.prog 82 #[.agg #[.int .i64 lr,.int .i64 b1,.int .i64 b2,.int .i64 eps,.int .i64 wd,.bool apart],.int .i64 f] w fun e w'=>e= .returned (.bool true)∧Below w.heap.size w w':=by
 obtain⟨k,rfl⟩:∃k:Nat,f=(k:Int):=⟨f.toNat,by omega⟩
 have hk:k≤40:=by omega
 try simp only[Int.toNat_natCast] at *
 have d0:decide ((k:Int)<0)=false:=decide_eq_false (by omega)
 have d1:decide (40<(k:Int))=false:=decide_eq_false (by omega)
 have hO:=fun w=>aone_any k w hk
 have hb:=fun n X w hX=>abeta_any n k X w hk hX
 have e0:decide (0≤lr)=true:=decide_eq_true h0
 have e1:decide (0<eps)=true:=decide_eq_true h1
 have hb2:=fun X w hX=>hb b1 X w hX
 rw[show (decide (0≤b1) && decide (b1<((2^k:Nat):Int)))=true by simp[h2.1];simpa using h2.2] at hb2
 have hb3:=fun X w hX=>hb b2 X w hX
 rw[show (decide (0≤b2) && decide (b2<((2^k:Nat):Int)))=true by simp[h3.1];simpa using h3.2] at hb3
 have e4:decide (0≤wd)=true:=decide_eq_true h4
 have e5:decide (wd≤((2^k:Nat):Int))=true:=decide_eq_true h5
 generalize 2^k=P at *
 clear hb h0 h1 h2 h3 h4 h5
 obtain⟨g,Y1,hA,hF,hB,hgw,EY⟩:=boxes2 w 61 #[.int .i64 lr,.int .i64 b1,.int .i64 b2,.int .i64 eps,.int .i64 wd,.bool apart] 3 #[.int .i64 k]
 obtain⟨c0,c1,c2,c3,c4,c5⟩:=hA.q6
 have c6:=hF.q1
 go_enter Tryz.func82,Tryz.ntmps82
 go_upto_region 4 with fail
 rw[←EY.out.2,←EY.out.1]
 replace hB:=hB.drew
 replace hA:=hA.drew
 replace hF:=hF.drew
 clear c0 c1 c2 c3 c4 c5 c6
 refine wp_region_noPanic ?_
 refine wp_region_held_drew (S:=fun w'=>w'.cell? ⟨g,0,none⟩=some (.int .i64 lr)∧w'.cell? ⟨g,1,none⟩=some (.int .i64 b1)∧w'.cell? ⟨g,2,none⟩=some (.int .i64 b2)∧w'.cell? ⟨g,3,none⟩=some (.int .i64 eps)∧w'.cell? ⟨g,4,none⟩=some (.int .i64 wd)∧w'.cell? ⟨g,5,none⟩=some (.bool apart)∧w'.cell? ⟨g+1,0,none⟩=some (.int .i64 k)) (by kernel_rfl) ?_ (fun hHeld=>?_)
 ·exact⟨hA.cell 0,hA.cell 1,hA.cell 2,hA.cell 3,hA.cell 4,hA.cell 5,hF.cell 0⟩
 obtain⟨wd4_1,hwd⟩:∃q,q=Y1.drew:=⟨_,rfl⟩
 rw[←hwd] at hB hA hF hHeld ⊢
 clear hwd
 refine tkA 0 rfl ?_
 refine tkA 1 rfl ?_
 refine tkA 2 rfl ?_
 refine tkA 3 rfl ?_
 refine tkA 4 rfl ?_
 refine tkA 5 rfl ?_
 refine tkA 6 rfl ?_
 refine tkA 7 rfl ?_
 refine tkA 8 rfl ?_
 refine tkA 9 rfl ?_
 refine tkA 10 rfl ?_
 refine tkA 11 rfl ?_
 try simp only[Act.put,lay]
 refine rd1 12 rfl fun K hK=>?_
 go_simp
 refine (hb2 _ _ hF).mono ?_
 rintro e u4_1 ⟨rfl,rfl⟩
 go_wp2_with fail
 refine hK.out _ _ ?_ fun hHeld=>?_
 ·exact⟨hA.cell 0,hA.cell 1,hA.cell 2,hA.cell 3,hA.cell 4,hA.cell 5,hF.cell 0⟩
 clear hK K
 refine tkA 13 rfl ?_
 refine tkA 14 rfl ?_
 refine tkA 15 rfl ?_
 refine tkA 16 rfl ?_
 refine tkA 17 rfl ?_
 try simp only[Act.put,lay]
 refine rd1 18 rfl fun K hK=>?_
 go_simp
 refine (hb3 _ _ hF).mono ?_
 rintro e u4_2 ⟨rfl,rfl⟩
 go_wp2_with fail
 refine hK.out _ _ ?_ fun hHeld=>?_
 ·exact⟨hA.cell 0,hA.cell 1,hA.cell 2,hA.cell 3,hA.cell 4,hA.cell 5,hF.cell 0⟩
 clear hK K
 refine tkA 19 rfl ?_
 refine tkA 20 rfl ?_
 refine tkA 21 rfl ?_
 refine tkA 22 rfl ?_
 refine tkA 23 rfl ?_
 refine tkA 24 rfl ?_
 refine tkA 25 rfl ?_
 refine tkA 26 rfl ?_
 refine tkA 27 rfl ?_
 refine tkA 28 rfl ?_
 try simp only[Act.put,lay]
 refine rd1 29 rfl fun K hK=>?_
 go_simp
 refine (hO _).mono ?_
 rintro e u4_3 ⟨rfl,rfl⟩
 go_wp2_with fail
 refine hK.out _ _ ?_ fun hHeld=>?_
 ·exact⟨hA.cell 0,hA.cell 1,hA.cell 2,hA.cell 3,hA.cell 4,hA.cell 5,hF.cell 0⟩
 clear hK K
 refine tkA 30 rfl ?_
 refine tkA 31 rfl ?_
 refine tkA 32 rfl ?_
 try simp only[Act.put,lay]
 try dsimp only
 try simp only[Act.put,lay]
 refine wpAnyH_done (by kernel_rfl) ?_ _
 refine NoPanic.normal ?_
 skip
 obtain⟨c7,c8,c9,c10,c11,c12⟩:=hA.q6
 have c13:=hF.q1
 go_wp2
 go_ret
 exact⟨rfl,hB⟩
theorem aright_any (lr b1 b2 eps wd f:Int) (apart:Bool) (w:World):
 Calls Tryz.prog 82 #[.agg #[.int .i64 lr,.int .i64 b1,.int .i64 b2,.int .i64 eps,.int .i64 wd,.bool apart],.int .i64 f] w fun e w'=>e= .returned (.bool (rightA lr b1 b2 eps wd f))∧Below w.heap.size w w':=by
 have no:¬(0≤f∧f≤40∧0≤lr∧0<eps∧(0≤b1∧b1<((2^f.toNat:Nat):Int))∧(0≤b2∧b2<((2^f.toNat:Nat):Int))∧0≤wd∧wd≤((2^f.toNat:Nat):Int))→rightA lr b1 b2 eps wd f=false:=fun h=>decide_eq_false h
 by_cases f0:f<0
 ·rw[no (by omega)];exact aright_f0 lr b1 b2 eps wd f apart w f0
 by_cases f1:40<f
 ·rw[no (by omega)];exact aright_f1 lr b1 b2 eps wd f apart w f0 f1
 by_cases h0:0≤lr;rotate_left
 ·rw[no (fun h=>h0 (h.2.2.1))];exact aright_c0 lr b1 b2 eps wd f apart w (by omega) (by omega) h0
 by_cases h1:0<eps;rotate_left
 ·rw[no (fun h=>h1 (h.2.2.2.1))];exact aright_c1 lr b1 b2 eps wd f apart w (by omega) (by omega) h0 h1
 by_cases h2:0≤b1∧b1<((2^f.toNat:Nat):Int);rotate_left
 ·rw[no (fun h=>h2 (h.2.2.2.2.1))];exact aright_c2 lr b1 b2 eps wd f apart w (by omega) (by omega) h0 h1 h2
 by_cases h3:0≤b2∧b2<((2^f.toNat:Nat):Int);rotate_left
 ·rw[no (fun h=>h3 (h.2.2.2.2.2.1))];exact aright_c3 lr b1 b2 eps wd f apart w (by omega) (by omega) h0 h1 h2 h3
 by_cases h4:0≤wd;rotate_left
 ·rw[no (fun h=>h4 (h.2.2.2.2.2.2.1))];exact aright_c4 lr b1 b2 eps wd f apart w (by omega) (by omega) h0 h1 h2 h3 h4
 by_cases h5:wd≤((2^f.toNat:Nat):Int);rotate_left
 ·rw[no (fun h=>h5 (h.2.2.2.2.2.2.2))];exact aright_c5 lr b1 b2 eps wd f apart w (by omega) (by omega) h0 h1 h2 h3 h4 h5
 rw[show rightA lr b1 b2 eps wd f=true from decide_eq_true ⟨by omega,by omega,h0,h1,h2,h3,h4,h5⟩]
 exact aright_c6 lr b1 b2 eps wd f apart w (by omega) (by omega) h0 h1 h2 h3 h4 h5
def powQ (x:Rat):Nat→Rat
 | 0=>1
 | n+1=>powQ x n*x
theorem sz_powQ {x:Rat} (h:BQ x 1):∀n,BQ (powQ x n) (2*n+1)
 | 0=>BQ.int (n:=1) (by unfold W64;omega)
 | n+1=>((sz_powQ h n).mul h).more (by omega)
theorem plack_any (beta:Int) (k t:Nat) (w:World) (hk:k≤40) (hb:In64 beta) (ht:t≤100):
 Calls Tryz.prog 84 #[.int .i64 beta,.int .i64 k,.int .i64 t] w fun e w'=>∃v',e= .returned v'∧IsS w' v' (1 - powQ (mkRat beta (2^k)) t) (1 - powQ (mkRat beta (2^k)) t)∧Below w.heap.size w w':=by
 have hN:=fun w=>pnum_any beta k w hk hb
 have hO:=fun w=>pof_any 1 (by omega) (by omega) w
 rw[show ((1:Int):Rat)=1 from rfl] at hO
 have sx:BQ (mkRat beta (2^k)) 1:=BQ.mk (Sz.u64 (by have:=hb.1;have:=hb.2;unfold W64;omega)) ((Sz.two_pow k).more (by omega)) (by omega)
 have b1:BQ (1:Rat) 1:=BQ.int (n:=1) (by unfold W64;omega)
 have sp:=sz_powQ sx
 have hIv:=fun v r w h=>pivof_any v r w h
 generalize mkRat beta (2^k)=x at *
 clear hb
 obtain⟨g,Y0,hR,hB,hgw,EY⟩:=boxes1 w 46 #[.bool false,.slice none 0 0,.slice none 0 0,.bool false,.slice none 0 0,.slice none 0 0]
 obtain⟨c0,c1,c2,c3,c4,c5⟩:=hR.q6
 go_enter Tryz.func84,Tryz.ntmps84
 go_wp2_with fail
 rw[←EY.out.2,←EY.out.1]
 refine (hN _).mono ?_
 rintro e w2 ⟨v7,rfl,q7,b2⟩
 replace hR:=hR.b b2
 replace hB:=bOn hB b2
 clear c0 c1 c2 c3 c4 c5
 obtain⟨c6,c7,c8,c9,c10,c11⟩:=hR.q6
 obtain⟨s7,A7,L7,C7,D7,M7,E7,rfl,q7⟩:=q7.opn
 obtain⟨X4,V4,h7,bV4,lX4,nX4,EV4⟩:=boxL hB 32 #[.bool s7,.slice A7 L7 C7,.slice D7 M7 E7]
 have dX4_hR:=nX4 _ hR.lt
 clear nX4
 go_upto_region 2 with fail
 rw[←EV4.out.1,←EV4.out.2]
 replace hR:=hR.b bV4
 replace q7:=q7.b bV4
 replace hB:=bOn hB bV4
 clear c6 c7 c8 c9 c10 c11
 obtain⟨c12,c13,c14,c15,c16,c17⟩:=hR.q6
 obtain⟨c18,c19,c20⟩:=h7.q3
 go_wp2_with fail
 refine (hO _).mono ?_
 rintro e w6 ⟨v9,rfl,q9,b6⟩
 replace hR:=hR.b b6
 replace q7:=q7.b b6
 replace h7:=h7.b b6
 replace hB:=bOn hB b6
 clear c12 c13 c14 c15 c16 c17 c18 c19 c20
 obtain⟨c21,c22,c23,c24,c25,c26⟩:=hR.q6
 obtain⟨c27,c28,c29⟩:=h7.q3
 obtain⟨s9,A9,L9,C9,D9,M9,E9,rfl,q9⟩:=q9.opn
 obtain⟨X8,V8,h9,bV8,lX8,nX8,EV8⟩:=boxL hB 32 #[.bool s9,.slice A9 L9 C9,.slice D9 M9 E9]
 have dX8_hR:=nX8 _ hR.lt
 have dX8_h7:=nX8 _ h7.lt
 clear nX8
 go_upto_region 3 with fail
 rw[←EV8.out.1,←EV8.out.2]
 replace hR:=hR.b bV8
 replace q7:=q7.b bV8
 replace h7:=h7.b bV8
 replace q9:=q9.b bV8
 replace hB:=bOn hB bV8
 clear c21 c22 c23 c24 c25 c26 c27 c28 c29
 obtain⟨c30,c31,c32,c33,c34,c35⟩:=hR.q6
 obtain⟨c36,c37,c38⟩:=h7.q3
 obtain⟨c39,c40,c41⟩:=h9.q3
 go_wp2_with fail
 go_loopw [18] (fun iV wr=>∃(i:Nat) (s9:Bool) (A9 D9:Option Addr) (L9 C9 M9 E9:Nat),iV= .int .i64 i∧i≤t∧Blk wr g 46 #[.bool false,.slice none 0 0,.slice none 0 0,.bool false,.slice none 0 0,.slice none 0 0]∧Blk wr X4 32 #[.bool s7,.slice A7 L7 C7,.slice D7 M7 E7]∧IsQ wr (.agg #[.bool s7,.slice A7 L7 C7,.slice D7 M7 E7]) x∧Blk wr X8 32 #[.bool s9,.slice A9 L9 C9,.slice D9 M9 E9]∧IsQ wr (.agg #[.bool s9,.slice A9 L9 C9,.slice D9 M9 E9]) (powQ x i)∧Below w.heap.size w wr) (fun iV _=>t - (intOf iV).toNat)
 case atStart=>exact⟨0,_,_,_,_,_,_,_,rfl,Nat.zero_le _,hR,h7,q7,h9,q9,hB⟩
 case round=>
  clear hR h7 q7 h9 q9 hB
  obtain⟨i,s9,A9,D9,L9,C9,M9,E9,rfl,hi,hR,h7,q7,h9,q9,hB⟩:=hrel
  by_cases hlt:i<t
  ·clear c30 c31 c32 c33 c34 c35 c36 c37 c38 c39 c40 c41
   obtain⟨c42,c43,c44,c45,c46,c47⟩:=hR.q6
   obtain⟨c48,c49,c50⟩:=h7.q3
   obtain⟨c51,c52,c53⟩:=h9.q3
   have i1:(i:Int)<(t:Int):=by omega
   have hM:=fun u v w h h'=>pmul_any u v (powQ x i) x w h h' ((sp i).more (by omega)) (sx.more (by omega))
   rw[show powQ x i*x=powQ x (i+1) from rfl] at hM
   go_wp2_with fail
   refine (hM _ _ _ q9 q7).mono ?_
   rintro e w11 ⟨v10,rfl,q10,b11⟩
   replace hR:=hR.b b11
   replace q7:=q7.b b11
   replace h7:=h7.b b11
   replace q9:=q9.b b11
   replace h9:=h9.b b11
   replace hB:=bOn hB b11
   clear c42 c43 c44 c45 c46 c47 c48 c49 c50 c51 c52 c53
   obtain⟨c54,c55,c56,c57,c58,c59⟩:=hR.q6
   obtain⟨c60,c61,c62⟩:=h7.q3
   obtain⟨c63,c64,c65⟩:=h9.q3
   obtain⟨s10,A10,L10,C10,D10,M10,E10,rfl,q10⟩:=q10.opn
   obtain⟨W8,eW,f1,f2,f3,f4⟩:=fill3 h9 (.bool s10) (.slice A10 L10 C10) (.slice D10 M10 E10) (by simp[noU])
   have xf:=h9.frozen
   go_upto_region 6 with fail
   rw[←eW]
   replace hR:=f3 _ _ _ hR (by omega)
   replace h7:=f3 _ _ _ h7 (by omega)
   replace q7:=q7.filled f2
   replace q10:=q10.filled f2
   replace hB:=f4 _ _ (by omega) hB
   clear eW f2 f3 f4 xf h9 q9
   clear c54 c55 c56 c57 c58 c59 c60 c61 c62 c63 c64 c65
   go_wp2
   exact⟨⟨i+1,_,_,_,_,_,_,_,by go_num,by omega,hR,h7,q7,f1,q10,hB⟩,by simp[intOf];omega⟩
  ·obtain rfl:i=t:=by omega
   clear c30 c31 c32 c33 c34 c35 c36 c37 c38 c39 c40 c41
   obtain⟨c42,c43,c44,c45,c46,c47⟩:=hR.q6
   obtain⟨c48,c49,c50⟩:=h7.q3
   obtain⟨c51,c52,c53⟩:=h9.q3
   have hS:=fun u v w h h'=>prsub_any u v 1 (powQ x i) w h h' (b1.more (by omega)) ((sp i).more (by omega))
   generalize hrs:(1:Rat) - powQ x i=rs at *
   have HRS:=Lib.hid hrs
   clear hrs
   generalize hrp:powQ x i=rp at *
   have HRP:=Lib.hid hrp
   clear hrp
   go_upto_region 7 with fail
   clear c42 c43 c44 c45 c46 c47 c48 c49 c50 c51 c52 c53
   replace hB:=hB.drew
   replace hR:=hR.drew
   replace q9:=q9.b (bdrew _)
   replace h9:=h9.drew
   refine wp_region_noPanic ?_
   refine wp_region_held_drew (S:=fun w'=>World.grownBy wr.drew w' (some (g))) (by kernel_rfl) (grown_of (Below.refl _ _) _) (fun hHeld=>?_)
   obtain⟨wd7_1,hwd⟩:∃q,q=wr.drew:=⟨_,rfl⟩
   rw[←hwd] at hB hR q9 h9 hHeld ⊢
   clear hwd
   refine tkH 1 rfl (v:=?v221) ?h221 ?r221
   case h221=>
    intro w hSw
    (try dsimp only at hSw)
    obtain⟨yh9_0,yh9_1,yh9_2⟩:=(Blk.grownT h9 hSw (fun e=>absurd (Option.some.inj e) (by first | assumption | exact Ne.symm (by assumption) | omega))).q3
    go_simp
    try (with_reducible rfl)
   try simp only[Act.put,lay]
   refine wpAnyH_facts [(0,24),(2,26),(3,27)] [] [] (pick [(0,fun (v:Value) (w:World)=>∃v11,v11=v∧IsQ w v11 1),(2,fun (v:Value) (w:World)=>∃v12,v12=v∧IsQ w v12 rs),(3,fun (v:Value) (w:World)=>∃v13,v13=v∧IsS w v13 rs rs)]) #[true,true,true,true,false] (fun _ h=>grown_of h _) (pick_pers (show PersAll _ from ⟨fun _ _ _ b ⟨v11,e,q11⟩=>⟨v11,e,q11.below b⟩,fun _ _ _ b ⟨v12,e,q12⟩=>⟨v12,e,q12.below b⟩,fun _ _ _ b ⟨v13,e,h13⟩=>⟨v13,e,h13.below b⟩,trivial⟩)) (hord_of (by kernel_rfl)) (by kernel_rfl) (by kernel_rfl) (by kernel_rfl) (by kernel_rfl) (fun _ _ _ _ _ h=>h) ?ops1 ?pur1 ?done1 (Below.refl _ _) (Nat.le_of_ble_eq_true (by kernel_rfl))
   case ops1=>
    refine .cons rfl (fun a w zS K hK=>?_) ?_
    ·go_simp
     refine (hO _).mono ?_
     rintro e w' ⟨v11,rfl,q11,b⟩
     exact hK _ _ ⟨v11,rfl,q11⟩ b
    refine .cons rfl (fun a w zS K hK=>?_) ?_
    ·have q9:=q9.below zS.1
     obtain⟨v24,e24,v11,rfl,q11⟩:=zS.2.2 0 24 (by kernel_rfl)
     have e25:=zS.2.1 25 _ (by kernel_rfl) rfl
     go_simp
     refine (hS _ _ _ q11 q9).mono ?_
     rintro e w' ⟨v12,rfl,q12,b⟩
     exact hK _ _ ⟨v12,rfl,q12⟩ b
    refine .cons rfl (fun a w zS K hK=>?_) ?_
    ·obtain⟨v26,e26,v12,rfl,q12⟩:=zS.2.2 2 26 (by kernel_rfl)
     go_simp
     refine (hIv _ _ _ q12).mono ?_
     rintro e w' ⟨v13,rfl,h13,b⟩
     exact hK _ _ ⟨v13,rfl,h13⟩ b
    exact .nil
   case pur1=>
    exact .nil
   case done1=>
    intro fuel a wr7_1 zf zS zdf zsz zs zd
    obtain⟨fuel,rfl⟩:∃n,fuel=n+1:=⟨fuel - 1,by have h:1≤fuel:=Nat.le_trans (Nat.le_of_ble_eq_true (by kernel_rfl)) zf;omega⟩
    clear zf
    have nhR:=hR.lt
    replace hR:=hR.below zS nhR
    replace q9:=q9.b zS
    have nh9:=h9.lt
    replace h9:=h9.below zS nh9
    obtain⟨v24_,e24_,v11,rfl,q11⟩:=zd 0 24 (by kernel_rfl)
    obtain⟨v26_,e26_,v12,rfl,q12⟩:=zd 2 26 (by kernel_rfl)
    obtain⟨v27_,e27_,v13,rfl,h13⟩:=zd 3 27 (by kernel_rfl)
    obtain rfl:=act_of [(24,v11),(26,v12),(27,v13)] ⟨e24_,e26_,e27_,trivial⟩ zdf zsz (fun s h=>zs s h)
    simp only[putAll,List.set_cons_zero,List.set_cons_succ]
    clear zdf zsz zs zd e24_ e26_ e27_
    replace hB:=bOn hB zS
    clear nhR nh9
    obtain⟨s13,A13,L13,C13,D13,M13,E13,s14,A14,L14,C14,D14,M14,E14,rfl,q13,q14⟩:=h13.opn
    have zG:=grown_of zS (some (g))
    refine rd1 4 rfl fun K hK=>?_
    obtain⟨ws7_4,eu,hR',kz,kb,kB⟩:=fill6 hR (.bool s13) (.slice A13 L13 C13) (.slice D13 M13 E13) (.bool s14) (.slice A14 L14 C14) (.slice D14 M14 E14) (by simp[noU])
    obtain⟨x0,x1,x2,x3,x4,x5⟩:=hR.q6
    have xf:=hR.frozen
    replace zG:=(grown_set (grown_set (grown_set (grown_set (grown_set (grown_set zG (p:=⟨g,0,none⟩) (.inl rfl) (.bool s13)) (p:=⟨g,1,none⟩) (.inl rfl) (.slice A13 L13 C13)) (p:=⟨g,2,none⟩) (.inl rfl) (.slice D13 M13 E13)) (p:=⟨g,3,none⟩) (.inl rfl) (.bool s14)) (p:=⟨g,4,none⟩) (.inl rfl) (.slice A14 L14 C14)) (p:=⟨g,5,none⟩) (.inl rfl) (.slice D14 M14 E14))
    rw[←eu] at zG
    go_simp
    rw[←eu]
    replace q9:=q9.filled kz
    replace h9:=kb _ _ _ h9 (by first | assumption | exact Ne.symm (by assumption) | omega)
    replace q11:=q11.filled kz
    replace q12:=q12.filled kz
    replace q13:=q13.filled kz
    replace q14:=q14.filled kz
    replace hB:=kB _ _ (by omega) hB
    replace hR:=hR'
    clear hR' kz kb kB eu xf x0 x1 x2 x3 x4 x5
    refine hK.out _ _ zG (fun hHeld=>?_)
    clear hK K
    try simp only[lay]
    try dsimp only
    try simp only[Act.put,lay]
    refine wpAnyH_done (by kernel_rfl) ?_ _
    refine NoPanic.normal ?_
    clear zG
    obtain⟨c54,c55,c56,c57,c58,c59⟩:=hR.q6
    obtain⟨c60,c61,c62⟩:=h9.q3
    go_wp2_with fail
    exact bodyPost_ret (v:= .agg #[.bool s13,.slice A13 L13 C13,.slice D13 M13 E13,.bool s14,.slice A14 L14 C14,.slice D14 M14 E14]) (by simp[results,Tryz.results84,go_sem,c54,c55,c56,c57,c58,c59]) rfl ⟨_,rfl,⟨_,_,_,_,_,_,rfl,by rw[HRP.out,HRS.out];exact q13,by rw[HRP.out,HRS.out];exact q14⟩,hB⟩
theorem sidedZ {w:World} {s:Bool} {p q:Value} {b:Rat} (h:IsQ w (.agg #[.bool s,p,q]) b):IsZ w (.agg #[.bool s,q]) (sided (decide (b.num<0)) b.den):=by
 obtain⟨e,_,hq⟩:=h.parts
 have hd:=b.den_pos
 refine ⟨q,?_,?_⟩
 ·rw[e]
  by_cases hn:b.num<0
  ·rw[decide_eq_true hn]
   have :decide (sided true b.den<0)=true:=decide_eq_true (by simp[sided];omega)
   rw[this]
  ·rw[decide_eq_false hn]
   have :decide (sided false b.den<0)=false:=decide_eq_false (by simp[sided])
   rw[this]
 ·rw[sided_abs];exact hq
theorem prdiv_any (va vb:Value) (a b:Rat) (w:World) (ha:IsQ w va a) (hb:IsQ w vb b) (sa:BQ a 10000) (sb:BQ b 10000) (h0:b.num≠0):
 Calls Tryz.prog 145 #[va,vb] w fun e w'=>∃v',e= .returned (.tuple #[v',.int .i64 0])∧IsQ w' v' (divQ a b)∧Below w.heap.size w w':=by
 obtain⟨s1,A1,L1,C1,D1,M1,E1,rfl,q1⟩:=ha.opn
 obtain⟨s2,A2,L2,C2,D2,M2,E2,rfl,q2⟩:=hb.opn
 have hZ:=fun w h1 h2=>pzmul_any (.agg #[.bool s1,.slice A1 L1 C1]) (.agg #[.bool s2,.slice D2 M2 E2]) a.num (sided (decide (b.num<0)) b.den) w h1 h2 (sa.1.more (by omega)) (by rw[sided_abs];exact sb.2.more (by omega))
 have hN:=fun w h1 h2=>mul_any (.slice D1 M1 E1) (.slice A2 L2 C2) a.den b.num.natAbs w h1 h2 (sa.2.fin (by omega)) (sb.1.fin (by omega))
 have hM:=fun u v w h1 h2=>prmake_any u v (a.num*sided (decide (b.num<0)) b.den) (a.den*b.num.natAbs) w h1 h2 ((sa.1.imul (b:=sided (decide (b.num<0)) b.den) (by rw[sided_abs];exact sb.2)).more (by omega)) ((sa.2.mul sb.1).more (by omega)) (Nat.mul_pos a.den_pos (by omega))
 rw[show mkRat (a.num*sided (decide (b.num<0)) b.den) (a.den*b.num.natAbs)=divQ a b from rfl] at hM
 generalize divQ a b=r at *
 generalize a.num*sided (decide (b.num<0)) b.den=p at *
 generalize a.den*b.num.natAbs=q at *
 clear ha hb sa sb h0
 obtain⟨g,hg⟩:∃g,g=w.heap.size:=⟨_,rfl⟩
 obtain⟨Y0,eY0,hA,bY0⟩:=box1 w 32 #[.bool s1,.slice A1 L1 C1,.slice D1 M1 E1]
 have zY0:Y0.heap.size=g+1:=by rw[eY0,World.size_alloc,←hg]
 rw[←hg] at hA
 replace q1:=q1.b bY0
 replace q2:=q2.b bY0
 have hB:=bY0
 obtain⟨Y1,eY1,hC,bY1⟩:=box1 Y0 32 #[.bool s2,.slice A2 L2 C2,.slice D2 M2 E2]
 have zY1:Y1.heap.size=g+1+1:=by rw[eY1,World.size_alloc,zY0]
 rw[zY0] at hC
 replace hA:=hA.b bY1
 replace q1:=q1.b bY1
 replace q2:=q2.b bY1
 replace hB:=bOn hB bY1
 obtain⟨Y2,eY2,hR,bY2⟩:=box1 Y1 32 #[.bool false,.slice none 0 0,.slice none 0 0]
 have zY2:Y2.heap.size=g+1+1+1:=by rw[eY2,World.size_alloc,zY1]
 rw[zY1] at hR
 replace hA:=hA.b bY2
 replace hC:=hC.b bY2
 replace q1:=q1.b bY2
 replace q2:=q2.b bY2
 replace hB:=bOn hB bY2
 have hgw:w.heap.size≤g:=by omega
 have EY:=Lib.hid (And.intro hg (And.intro eY0 (And.intro eY1 eY2)))
 clear hg eY0 zY0 eY1 zY1 eY2 zY2
 obtain⟨c0,c1,c2⟩:=hA.q3
 obtain⟨c3,c4,c5⟩:=hC.q3
 obtain⟨c6,c7,c8⟩:=hR.q3
 go_enter Tryz.func145,Tryz.ntmps145
 have z1:=q1.parts.2.1
 have n1:=q1.parts.2.2
 have n2:=q2.parts.2.1.parts.2
 have z2:=sidedZ q2
 go_upto_region 1 with fail
 rw[←EY.out.2.1,←EY.out.2.2.1,←EY.out.2.2.2,←EY.out.1]
 replace hB:=hB.drew
 replace q1:=q1.b (bdrew _)
 replace q2:=q2.b (bdrew _)
 replace hA:=hA.drew
 replace hC:=hC.drew
 replace hR:=hR.drew
 replace z1:=z1.b (bdrew _)
 replace n1:=n1.b (bdrew _)
 replace n2:=n2.b (bdrew _)
 replace z2:=z2.b (bdrew _)
 clear c0 c1 c2 c3 c4 c5 c6 c7 c8
 refine wp_region_noPanic ?_
 refine wp_region_held_drew (S:=fun w'=>w'.cell? ⟨g,0,none⟩=some (.bool s1)∧w'.cell? ⟨g,1,none⟩=some (.slice A1 L1 C1)∧w'.cell? ⟨g,2,none⟩=some (.slice D1 M1 E1)∧w'.cell? ⟨g+1,0,none⟩=some (.bool s2)∧w'.cell? ⟨g+1,1,none⟩=some (.slice A2 L2 C2)∧w'.cell? ⟨g+1,2,none⟩=some (.slice D2 M2 E2)) (by kernel_rfl) ?_ (fun hHeld=>?_)
 ·exact⟨hA.cell 0,hA.cell 1,hA.cell 2,hC.cell 0,hC.cell 1,hC.cell 2⟩
 obtain⟨wd1_1,hwd⟩:∃q,q=Y2.drew:=⟨_,rfl⟩
 rw[←hwd] at hB q1 q2 hA hC hR z1 n1 n2 z2 hHeld ⊢
 clear hwd
 refine tkA 0 rfl ?_
 refine tkA 1 rfl ?_
 refine tkA 2 rfl ?_
 refine tkA 3 rfl ?_
 refine tkA 4 rfl ?_
 refine tkA 5 rfl ?_
 refine tkA 6 rfl ?_
 refine tkA 7 rfl ?_
 refine tkA 9 rfl ?_
 refine tkA 10 rfl ?_
 refine tkA 11 rfl ?_
 refine tkA 12 rfl ?_
 refine tkA 13 rfl ?_
 try simp only[Act.put,lay]
 refine rd1 8 rfl fun K hK=>?_
 go_simp
 refine (hZ _ z1 z2).mono ?_
 rintro e u1_1 ⟨v3,rfl,z3,b1_1⟩
 replace q1:=q1.b b1_1
 replace q2:=q2.b b1_1
 replace hA:=hA.b b1_1
 replace hC:=hC.b b1_1
 replace hR:=hR.b b1_1
 replace z1:=z1.b b1_1
 replace n1:=n1.b b1_1
 replace n2:=n2.b b1_1
 replace z2:=z2.b b1_1
 replace hB:=bOn hB b1_1
 go_wp2_with fail
 refine hK.out _ _ ?_ fun hHeld=>?_
 ·exact⟨hA.cell 0,hA.cell 1,hA.cell 2,hC.cell 0,hC.cell 1,hC.cell 2⟩
 clear hK K
 try simp only[Act.put,lay]
 refine rd1 14 rfl fun K hK=>?_
 go_simp
 refine (hN _ n1 n2).mono ?_
 rintro e u1_2 ⟨v4,rfl,n4,b1_2⟩
 replace q1:=q1.b b1_2
 replace q2:=q2.b b1_2
 replace hA:=hA.b b1_2
 replace hC:=hC.b b1_2
 replace hR:=hR.b b1_2
 replace z1:=z1.b b1_2
 replace n1:=n1.b b1_2
 replace n2:=n2.b b1_2
 replace z2:=z2.b b1_2
 replace z3:=z3.b b1_2
 replace hB:=bOn hB b1_2
 go_wp2_with fail
 refine hK.out _ _ ?_ fun hHeld=>?_
 ·exact⟨hA.cell 0,hA.cell 1,hA.cell 2,hC.cell 0,hC.cell 1,hC.cell 2⟩
 clear hK K
 try simp only[Act.put,lay]
 refine rd1 15 rfl fun K hK=>?_
 go_simp
 refine (hM _ _ _ z3 n4).mono ?_
 rintro e u1_3 ⟨v5,rfl,q5,b1_3⟩
 replace q1:=q1.b b1_3
 replace q2:=q2.b b1_3
 replace hA:=hA.b b1_3
 replace hC:=hC.b b1_3
 replace hR:=hR.b b1_3
 replace z1:=z1.b b1_3
 replace n1:=n1.b b1_3
 replace n2:=n2.b b1_3
 replace z2:=z2.b b1_3
 replace z3:=z3.b b1_3
 replace n4:=n4.b b1_3
 replace hB:=bOn hB b1_3
 obtain⟨s5,A5,L5,C5,D5,M5,E5,rfl,q5⟩:=q5.opn
 go_wp2_with fail
 refine hK.out _ _ ?_ fun hHeld=>?_
 ·exact⟨hA.cell 0,hA.cell 1,hA.cell 2,hC.cell 0,hC.cell 1,hC.cell 2⟩
 clear hK K
 refine tkA 16 rfl ?_
 refine tkA 17 rfl ?_
 try simp only[Act.put,lay]
 refine rd1 18 rfl fun K hK=>?_
 obtain⟨u1_4,eu,hR',kz,kb,kB⟩:=fill3 hR (.bool s5) (.slice A5 L5 C5) (.slice D5 M5 E5) (by simp[noU])
 obtain⟨x0,x1,x2⟩:=hR.q3
 have xf:=hR.frozen
 go_simp
 rw[←eu]
 replace q1:=q1.filled kz
 replace q2:=q2.filled kz
 replace hA:=kb _ _ _ hA (by omega)
 replace hC:=kb _ _ _ hC (by omega)
 replace z1:=z1.filled kz
 replace n1:=kz _ _ n1
 replace n2:=kz _ _ n2
 replace z2:=z2.filled kz
 replace z3:=z3.filled kz
 replace n4:=kz _ _ n4
 replace q5:=q5.filled kz
 replace hB:=kB _ _ (by omega) hB
 replace hR:=hR'
 clear hR' kz kb kB eu xf x0 x1 x2
 refine hK.out _ _ ?_ fun hHeld=>?_
 ·exact⟨hA.cell 0,hA.cell 1,hA.cell 2,hC.cell 0,hC.cell 1,hC.cell 2⟩
 clear hK K
 refine tkA 19 rfl ?_
 try simp only[Act.put,lay]
 try dsimp only
 try simp only[Act.put,lay]
 refine wpAnyH_done (by kernel_rfl) ?_ _
 refine NoPanic.normal ?_
 skip
 obtain⟨c9,c10,c11⟩:=hA.q3
 obtain⟨c12,c13,c14⟩:=hC.q3
 obtain⟨c15,c16,c17⟩:=hR.q3
 go_wp2_with fail
 exact bodyPost_ret (v:= .tuple #[.agg #[.bool s5,.slice A5 L5 C5,.slice D5 M5 E5],.int .i64 0]) (by simp[results,Tryz.results145,go_sem,c15,c16,c17]) rfl ⟨_,rfl,q5,hB⟩
def quo4 (a b c d:Rat):List Rat:=[divQ a c,divQ a d,divQ b c,divQ b d]
theorem quo4_at {a b c d:Rat} {i j:Nat} (hi:i<2) (hj:j<2):(quo4 a b c d).take (2*i+j+1)=(quo4 a b c d).take (2*i+j)++[divQ (qnt [a,b] i) (qnt [c,d] j)]:=by
 match i,hi,j,hj with
 | 0,_,0,_=>rfl
 | 0,_,1,_=>rfl
 | 1,_,0,_=>rfl
 | 1,_,1,_=>rfl
theorem qnt_two {a b:Rat} {P:Rat→Prop} (ha:P a) (hb:P b) {i:Nat} (hi:i<2):P (qnt [a,b] i):=by
 match i,hi with
 | 0,_=>exact ha
 | 1,_=>exact hb
theorem add0 (g n:Nat):(⟨g,0,none⟩:Addr).add n=⟨g,n,none⟩:=by
 unfold Addr.add
 by_cases h:n=0
 ·rw[if_pos h,h]
 ·rw[if_neg h,Nat.zero_add]
theorem bq_div {a b:Rat} {k m:Nat} (ha:BQ a k) (hb:BQ b m):BQ (divQ a b) (k+m+1):=by
 unfold divQ
 exact BQ.mk ((ha.1.imul (b:=sided (decide (b.num<0)) b.den) (by rw[sided_abs];exact hb.2)).more (by omega)) ((ha.2.mul hb.1).more (by omega)) (by omega)
theorem IsQ.lets {w:World} {s:Bool} {p q:Value} {r:Rat} (h:IsQ w (.agg #[.bool s,p,q]) r):∃A L C D M E,p= .slice A L C∧q= .slice D M E:=by
 obtain⟨s1,A,L,C,D,M,E,e,_⟩:=h.opn
 cases e
 exact⟨_,_,_,_,_,_,rfl,rfl⟩
theorem pivdiv_any (u v:Value) (a b c d:Rat) (w:World) (h:IsS w u a b) (h':IsS w v c d) (sa:BQ a 4000) (sb:BQ b 4000) (sc:BQ c 4000) (sd:BQ d 4000) (hno:(decide (cmpQ c 0≤0) && decide (cmpQ 0 d≤0))=false) (c0:c.num≠0) (d0:d.num≠0):
 Calls Tryz.prog 83 #[u,v] w fun e w'=>∃v',e= .returned (.tuple #[v',.int .i64 0])∧IsS w' v' (mnTo (quo4 a b c d) 3) (mxTo (quo4 a b c d) 3)∧Below w.heap.size w w':=by
 obtain⟨i0',hi',hz0,hz1,hz2⟩:=info_parts info_rat
 have hO:=fun w=>pof_any 0 (by omega) (by omega) w
 rw[show ((0:Int):Rat)=0 from rfl] at hO
 have bz:BQ (0:Rat) 1:=BQ.int (n:=0) (by unfold W64;omega)
 have hH:=fun v u w h h'=>phas_any v u c d 0 w h h' (sc.more (by omega)) (sd.more (by omega)) (bz.more (by omega))
 rw[hno] at hH
 obtain⟨z0,ez0⟩:∃z:Rat,z=0:=⟨_,rfl⟩
 rw[←ez0] at hO hH
 have hAr:=fun v w h=>around_any v (quo4 a b c d) w h (by simp[quo4]) (fun i hi=>by
  rw[←qnt_at hi]
  match i,hi with
  | 0,_=>exact (bq_div sa sc).more (by omega)
  | 1,_=>exact (bq_div sa sd).more (by omega)
  | 2,_=>exact (bq_div sb sc).more (by omega)
  | 3,_=>exact (bq_div sb sd).more (by omega))
 rw[show (quo4 a b c d).length - 1=3 from rfl] at hAr
 have hQ:=fun i (hi:i<2)=>qnt_two (P:=fun q=>BQ q 4000) sa sb hi
 have hQ':=fun i (hi:i<2)=>qnt_two (P:=fun q=>BQ q 4000) sc sd hi
 have hN:=fun i (hi:i<2)=>qnt_two (P:=fun q=>q.num≠0) c0 d0 hi
 obtain⟨s1,A1,L1,C1,D1,M1,E1,s2,A2,L2,C2,D2,M2,E2,rfl,q1,q2⟩:=h.opn
 obtain⟨s3,A3,L3,C3,D3,M3,E3,s4,A4,L4,C4,D4,M4,E4,rfl,q3,q4⟩:=h'.opn
 clear h h' sa sb sc sd hno c0 d0 ez0 bz
 obtain⟨g,Y2,hA,hC,hR,hB,hgw,EY⟩:=boxes3 w 46 #[.bool s1,.slice A1 L1 C1,.slice D1 M1 E1,.bool s2,.slice A2 L2 C2,.slice D2 M2 E2] 46 #[.bool s3,.slice A3 L3 C3,.slice D3 M3 E3,.bool s4,.slice A4 L4 C4,.slice D4 M4 E4] 46 #[.bool false,.slice none 0 0,.slice none 0 0,.bool false,.slice none 0 0,.slice none 0 0]
 replace q1:=q1.b hB
 replace q2:=q2.b hB
 replace q3:=q3.b hB
 replace q4:=q4.b hB
 obtain⟨c0,c1,c2,c3,c4,c5⟩:=hA.q6
 obtain⟨c6,c7,c8,c9,c10,c11⟩:=hC.q6
 obtain⟨c12,c13,c14,c15,c16,c17⟩:=hR.q6
 go_enter Tryz.func83,Tryz.ntmps83
 go_upto_region 1 with fail
 rw[←EY.out.2,←EY.out.1]
 replace hB:=hB.drew
 replace q1:=q1.b (bdrew _)
 replace q2:=q2.b (bdrew _)
 replace q3:=q3.b (bdrew _)
 replace q4:=q4.b (bdrew _)
 replace hA:=hA.drew
 replace hC:=hC.drew
 replace hR:=hR.drew
 clear c0 c1 c2 c3 c4 c5 c6 c7 c8 c9 c10 c11 c12 c13 c14 c15 c16 c17
 refine wp_region_noPanic ?_
 refine wp_region_held_drew (S:=fun w'=>w'.cell? ⟨g+1,0,none⟩=some (.bool s3)∧w'.cell? ⟨g+1,1,none⟩=some (.slice A3 L3 C3)∧w'.cell? ⟨g+1,2,none⟩=some (.slice D3 M3 E3)∧w'.cell? ⟨g+1,3,none⟩=some (.bool s4)∧w'.cell? ⟨g+1,4,none⟩=some (.slice A4 L4 C4)∧w'.cell? ⟨g+1,5,none⟩=some (.slice D4 M4 E4)) (by kernel_rfl) ?_ (fun hHeld=>?_)
 ·exact⟨hC.cell 0,hC.cell 1,hC.cell 2,hC.cell 3,hC.cell 4,hC.cell 5⟩
 obtain⟨wd1_1,hwd⟩:∃q,q=Y2.drew:=⟨_,rfl⟩
 rw[←hwd] at hB q1 q2 q3 q4 hA hC hR hHeld ⊢
 clear hwd
 refine tkA 0 rfl ?_
 try simp only[Act.put,lay]
 refine rd1 1 rfl fun K hK=>?_
 go_simp
 refine (hO _).mono ?_
 rintro e u1_1 ⟨v5,rfl,q5,b1_1⟩
 replace q1:=q1.b b1_1
 replace q2:=q2.b b1_1
 replace q3:=q3.b b1_1
 replace q4:=q4.b b1_1
 replace hA:=hA.b b1_1
 replace hC:=hC.b b1_1
 replace hR:=hR.b b1_1
 replace hB:=bOn hB b1_1
 go_wp2_with fail
 refine hK.out _ _ ?_ fun hHeld=>?_
 ·exact⟨hC.cell 0,hC.cell 1,hC.cell 2,hC.cell 3,hC.cell 4,hC.cell 5⟩
 clear hK K
 try simp only[Act.put,lay]
 refine rd1 2 rfl fun K hK=>?_
 go_simp
 refine (hH _ _ _ ⟨_,_,_,_,_,_,rfl,q3,q4⟩ q5).mono ?_
 rintro e u1_2 ⟨rfl,b1_2⟩
 replace q1:=q1.b b1_2
 replace q2:=q2.b b1_2
 replace q3:=q3.b b1_2
 replace q4:=q4.b b1_2
 replace hA:=hA.b b1_2
 replace hC:=hC.b b1_2
 replace hR:=hR.b b1_2
 replace q5:=q5.b b1_2
 replace hB:=bOn hB b1_2
 go_wp2_with fail
 refine hK.out _ _ ?_ fun hHeld=>?_
 ·exact⟨hC.cell 0,hC.cell 1,hC.cell 2,hC.cell 3,hC.cell 4,hC.cell 5⟩
 clear hK K
 try simp only[Act.put,lay]
 try dsimp only
 try simp only[Act.put,lay]
 refine wpAnyH_done (by kernel_rfl) ?_ _
 refine NoPanic.normal ?_
 skip
 obtain⟨c18,c19,c20,c21,c22,c23⟩:=hA.q6
 obtain⟨c24,c25,c26,c27,c28,c29⟩:=hC.q6
 obtain⟨c30,c31,c32,c33,c34,c35⟩:=hR.q6
 clear hO hH
 obtain⟨X4,eX⟩:∃X,X=u1_2.heap.size:=⟨_,rfl⟩
 have lX4:w.heap.size≤X4:=by rw[eX];exact hB.size
 have dX4_hA:g<X4:=by have:=hA.lt;omega
 have dX4_hC:g+1<X4:=by have:=hC.lt;omega
 have dX4_hR:g+1+1<X4:=by have:=hR.lt;omega
 obtain⟨V4_0,eV0,hS,bV0⟩:=box1 u1_2 32 #[.bool s1,.slice A1 L1 C1,.slice D1 M1 E1,.bool s2,.slice A2 L2 C2,.slice D2 M2 E2]
 have zV0:V4_0.heap.size=X4+1:=by rw[eV0,World.size_alloc,←eX]
 rw[←eX] at hS
 replace q1:=q1.b bV0
 replace q2:=q2.b bV0
 replace q3:=q3.b bV0
 replace q4:=q4.b bV0
 replace hA:=hA.b bV0
 replace hC:=hC.b bV0
 replace hR:=hR.b bV0
 replace hB:=bOn hB bV0
 have EV4:=Lib.hid (And.intro eX eV0)
 clear eX eV0 zV0
 obtain⟨c36,c37,c38,c39,c40,c41⟩:=hA.q6
 obtain⟨c42,c43,c44,c45,c46,c47⟩:=hC.q6
 obtain⟨c48,c49,c50,c51,c52,c53⟩:=hR.q6
 obtain⟨c54,c55,c56,c57,c58,c59⟩:=hS.q6
 go_wp2_with fail
 rw[←EV4.out.1,←EV4.out.2]
 clear c18 c19 c20 c21 c22 c23 c24 c25 c26 c27 c28 c29 c30 c31 c32 c33 c34 c35 c36 c37 c38 c39 c40 c41 c42 c43 c44 c45 c46 c47 c48 c49 c50 c51 c52 c53 c54 c55 c56 c57 c58 c59
 obtain⟨B,hBe⟩:∃B,B=V4_0.heap.size:=⟨_,rfl⟩
 have oB:X4<B:=by rw[hBe];exact hS.lt
 have hBW:w.heap.size≤B:=by rw[hBe];exact hB.size
 have gB:g+1+1<B:=by rw[hBe];exact hR.lt
 have hsz:B≤V4_0.heap.size:=by omega
 clear hBe
 go_loopw [6,23] (fun oV iV wr=>∃i:Nat,iV= .int .i64 i∧i≤2∧OwnQs wr B oV ((quo4 a b c d).take (2*i))∧Blk wr g 46 #[.bool s1,.slice A1 L1 C1,.slice D1 M1 E1,.bool s2,.slice A2 L2 C2,.slice D2 M2 E2]∧Blk wr (g+1) 46 #[.bool s3,.slice A3 L3 C3,.slice D3 M3 E3,.bool s4,.slice A4 L4 C4,.slice D4 M4 E4]∧Blk wr (g+1+1) 46 #[.bool false,.slice none 0 0,.slice none 0 0,.bool false,.slice none 0 0,.slice none 0 0]∧Blk wr X4 32 #[.bool s1,.slice A1 L1 C1,.slice D1 M1 E1,.bool s2,.slice A2 L2 C2,.slice D2 M2 E2]∧IsQ wr (.agg #[.bool s1,.slice A1 L1 C1,.slice D1 M1 E1]) a∧IsQ wr (.agg #[.bool s2,.slice A2 L2 C2,.slice D2 M2 E2]) b∧IsQ wr (.agg #[.bool s3,.slice A3 L3 C3,.slice D3 M3 E3]) c∧IsQ wr (.agg #[.bool s4,.slice A4 L4 C4,.slice D4 M4 E4]) d∧B≤wr.heap.size∧Below w.heap.size w wr) (fun _ iV _=>2 - (intOf iV).toNat)
 case atStart=>exact⟨0,rfl,by omega,OwnQs.nil _ _,hA,hC,hR,hS,q1,q2,q3,q4,hsz,hB⟩
 case round=>
  clear hsz hA hC hR hS q1 q2 q3 q4 hB
  obtain⟨i,rfl,hi,ho,hA,hC,hR,hS,q1,q2,q3,q4,hsz,hB⟩:=hrel
  by_cases hi2:i<2;rotate_left
  ·obtain rfl:i=2:=by omega
   have ho2:IsQs wr _ (quo4 a b c d):=ho.is
   clear ho
   obtain⟨c60,c61,c62,c63,c64,c65⟩:=hA.q6
   obtain⟨c66,c67,c68,c69,c70,c71⟩:=hC.q6
   obtain⟨c72,c73,c74,c75,c76,c77⟩:=hR.q6
   obtain⟨c78,c79,c80,c81,c82,c83⟩:=hS.q6
   go_wp2_with fail
   refine (hAr _ _ ho2).mono ?_
   rintro e w7 ⟨v9,rfl,h9,b7⟩
   replace hA:=hA.b b7
   replace hC:=hC.b b7
   replace hR:=hR.b b7
   replace hS:=hS.b b7
   replace hB:=bOn hB b7
   clear c60 c61 c62 c63 c64 c65 c66 c67 c68 c69 c70 c71 c72 c73 c74 c75 c76 c77 c78 c79 c80 c81 c82 c83
   obtain⟨c84,c85,c86,c87,c88,c89⟩:=hA.q6
   obtain⟨c90,c91,c92,c93,c94,c95⟩:=hC.q6
   obtain⟨c96,c97,c98,c99,c100,c101⟩:=hR.q6
   obtain⟨c102,c103,c104,c105,c106,c107⟩:=hS.q6
   obtain⟨s9,A9,L9,C9,D9,M9,E9,s10,A10,L10,C10,D10,M10,E10,rfl,q9,q10⟩:=h9.opn
   obtain⟨p1,p2,p3⟩:=put6 hR (.bool s9) (.slice A9 L9 C9) (.slice D9 M9 E9) (.bool s10) (.slice A10 L10 C10) (.slice D10 M10 E10) (by simp[noU]) hB (by omega)
   have rc0:World.cell? _ ⟨g+1+1,0,none⟩=some (.bool false):=hR.cell 0
   have rf0:=hR.frozen 0
   have rc1:World.cell? _ ⟨g+1+1,1,none⟩=some (.slice none 0 0):=hR.cell 1
   have rf1:=hR.frozen 1
   have rc2:World.cell? _ ⟨g+1+1,2,none⟩=some (.slice none 0 0):=hR.cell 2
   have rf2:=hR.frozen 2
   have rc3:World.cell? _ ⟨g+1+1,3,none⟩=some (.bool false):=hR.cell 3
   have rf3:=hR.frozen 3
   have rc4:World.cell? _ ⟨g+1+1,4,none⟩=some (.slice none 0 0):=hR.cell 4
   have rf4:=hR.frozen 4
   have rc5:World.cell? _ ⟨g+1+1,5,none⟩=some (.slice none 0 0):=hR.cell 5
   have rf5:=hR.frozen 5
   have P:=Lib.hid (And.intro (⟨_,_,_,_,_,_,rfl,q9.kept p2,q10.kept p2⟩:IsS _ _ (mnTo (quo4 a b c d) 3) (mxTo (quo4 a b c d) 3)) (And.intro p3 p1.cells6))
   clear p1 p2 p3
   go_wp2_with fail
   obtain⟨P1,P2,P3,P4,P5,P6,P7,P8⟩:=P.out
   exact bodyPost_ret (v:= .tuple #[.agg #[.bool s9,.slice A9 L9 C9,.slice D9 M9 E9,.bool s10,.slice A10 L10 C10,.slice D10 M10 E10],.int .i64 0]) (by simp[results,Tryz.results83,go_sem,P3,P4,P5,P6,P7,P8]) rfl ⟨_,rfl,P1,P2⟩
  have i0:(0:Int)≤(i:Int):=by omega
  have i1:(i:Int)<2:=by omega
  have hLs:IsQs wr (.slice (some ⟨X4,0,none⟩) 2 2) [a,b]:=IsQs.of_blk (es:=[(s1,.slice A1 L1 C1,.slice D1 M1 E1),(s2,.slice A2 L2 C2,.slice D2 M2 E2)]) (rs:=[a,b]) hS (((OkQ.nil _).snoc q1).snoc q2) (by simp)
  obtain⟨ad',c',s6,p',r',e1,_,x0,x1,x2,q6⟩:=hLs.at_ (i:=i) hi2
  obtain⟨e1, -, -⟩:=Value.slice.inj e1
  obtain rfl:=Option.some.inj e1
  rw[qnt_at] at q6
  obtain⟨A6,L6,C6,D6,M6,E6,rfl,rfl⟩:=q6.lets
  have ha:=add0 X4 (i*3)
  rw[ha] at x0 x1 x2
  clear hLs e1
  obtain⟨c60,c61,c62,c63,c64,c65⟩:=hA.q6
  obtain⟨c66,c67,c68,c69,c70,c71⟩:=hC.q6
  obtain⟨c72,c73,c74,c75,c76,c77⟩:=hR.q6
  obtain⟨c78,c79,c80,c81,c82,c83⟩:=hS.q6
  have hoW:=ho
  obtain⟨X7,V7,h8,bV7,lX7,nX7,EV7⟩:=boxL hB 32 #[.bool s6,.slice A6 L6 C6,.slice D6 M6 E6]
  have dX7_hA:=nX7 _ hA.lt
  have dX7_hC:=nX7 _ hC.lt
  have dX7_hR:=nX7 _ hR.lt
  have dX7_hS:=nX7 _ hS.lt
  clear nX7
  go_upto_region 7 with fail
  rw[←EV7.out.1,←EV7.out.2]
  replace q1:=q1.b bV7
  replace q2:=q2.b bV7
  replace q3:=q3.b bV7
  replace q4:=q4.b bV7
  replace hA:=hA.b bV7
  replace hC:=hC.b bV7
  replace hR:=hR.b bV7
  replace hS:=hS.b bV7
  replace q6:=q6.b bV7
  replace ho:=ho.b bV7
  replace hB:=bOn hB bV7
  clear c60 c61 c62 c63 c64 c65 c66 c67 c68 c69 c70 c71 c72 c73 c74 c75 c76 c77 c78 c79 c80 c81 c82 c83
  obtain⟨c84,c85,c86,c87,c88,c89⟩:=hA.q6
  obtain⟨c90,c91,c92,c93,c94,c95⟩:=hC.q6
  obtain⟨c96,c97,c98,c99,c100,c101⟩:=hR.q6
  obtain⟨c102,c103,c104,c105,c106,c107⟩:=hS.q6
  obtain⟨c108,c109,c110⟩:=h8.q3
  clear x0 x1 x2 ha
  obtain⟨X9,eX⟩:∃X,X=V7.heap.size:=⟨_,rfl⟩
  have lX9:w.heap.size≤X9:=by rw[eX];exact hB.size
  have dX9_hA:g<X9:=by have:=hA.lt;omega
  have dX9_hC:g+1<X9:=by have:=hC.lt;omega
  have dX9_hR:g+1+1<X9:=by have:=hR.lt;omega
  have dX9_hS:X4<X9:=by have:=hS.lt;omega
  have dX9_h8:X7<X9:=by have:=h8.lt;omega
  obtain⟨V9_0,eV0,hT,bV0⟩:=box1 V7 32 #[.bool s3,.slice A3 L3 C3,.slice D3 M3 E3,.bool s4,.slice A4 L4 C4,.slice D4 M4 E4]
  have zV0:V9_0.heap.size=X9+1:=by rw[eV0,World.size_alloc,←eX]
  rw[←eX] at hT
  replace q1:=q1.b bV0
  replace q2:=q2.b bV0
  replace q3:=q3.b bV0
  replace q4:=q4.b bV0
  replace hA:=hA.b bV0
  replace hC:=hC.b bV0
  replace hR:=hR.b bV0
  replace hS:=hS.b bV0
  replace q6:=q6.b bV0
  replace ho:=ho.b bV0
  replace h8:=h8.b bV0
  replace hB:=bOn hB bV0
  have EV9:=Lib.hid (And.intro eX eV0)
  clear eX eV0 zV0
  obtain⟨c111,c112,c113,c114,c115,c116⟩:=hA.q6
  obtain⟨c117,c118,c119,c120,c121,c122⟩:=hC.q6
  obtain⟨c123,c124,c125,c126,c127,c128⟩:=hR.q6
  obtain⟨c129,c130,c131,c132,c133,c134⟩:=hS.q6
  obtain⟨c135,c136,c137⟩:=h8.q3
  obtain⟨c138,c139,c140,c141,c142,c143⟩:=hT.q6
  go_wp2_with fail
  rw[←EV9.out.1,←EV9.out.2]
  clear c84 c85 c86 c87 c88 c89 c90 c91 c92 c93 c94 c95 c96 c97 c98 c99 c100 c101 c102 c103 c104 c105 c106 c107 c108 c109 c110 c111 c112 c113 c114 c115 c116 c117 c118 c119 c120 c121 c122 c123 c124 c125 c126 c127 c128 c129 c130 c131 c132 c133 c134 c135 c136 c137 c138 c139 c140 c141 c142 c143
  have z8:wr.heap.size≤X7:=by rw[EV7.out.2];exact Nat.le_refl _
  have zB:wr.heap.size≤X9:=by omega
  have o8:∀u:Value,OwnQs wr B u ((quo4 a b c d).take (2*i))→u.ownBlock≠some X7∧u.ownBlock≠some X9:=fun u hu=>⟨fun e=>by have:=(hu.lt _ e).2;omega,fun e=>by have:=(hu.lt _ e).2;omega⟩
  obtain⟨o8,oB'⟩:=o8 _ hoW
  clear hoW
  have hszV:B≤V9_0.heap.size:=by have:=hT.lt;omega
  have b8:B≤X7:=by omega
  have bB:B≤X9:=by omega
  skip
  go_loopw [6,33] (fun oV jV wi=>∃j:Nat,jV= .int .i64 j∧j≤2∧OwnQs wi B oV ((quo4 a b c d).take (2*i+j))∧oV.ownBlock≠some X7∧oV.ownBlock≠some X9∧Blk wi g 46 #[.bool s1,.slice A1 L1 C1,.slice D1 M1 E1,.bool s2,.slice A2 L2 C2,.slice D2 M2 E2]∧Blk wi (g+1) 46 #[.bool s3,.slice A3 L3 C3,.slice D3 M3 E3,.bool s4,.slice A4 L4 C4,.slice D4 M4 E4]∧Blk wi (g+1+1) 46 #[.bool false,.slice none 0 0,.slice none 0 0,.bool false,.slice none 0 0,.slice none 0 0]∧Blk wi X4 32 #[.bool s1,.slice A1 L1 C1,.slice D1 M1 E1,.bool s2,.slice A2 L2 C2,.slice D2 M2 E2]∧IsQ wi (.agg #[.bool s1,.slice A1 L1 C1,.slice D1 M1 E1]) a∧IsQ wi (.agg #[.bool s2,.slice A2 L2 C2,.slice D2 M2 E2]) b∧IsQ wi (.agg #[.bool s3,.slice A3 L3 C3,.slice D3 M3 E3]) c∧IsQ wi (.agg #[.bool s4,.slice A4 L4 C4,.slice D4 M4 E4]) d∧Blk wi X7 32 #[.bool s6,.slice A6 L6 C6,.slice D6 M6 E6]∧Blk wi X9 32 #[.bool s3,.slice A3 L3 C3,.slice D3 M3 E3,.bool s4,.slice A4 L4 C4,.slice D4 M4 E4]∧IsQ wi (.agg #[.bool s6,.slice A6 L6 C6,.slice D6 M6 E6]) (qnt [a,b] i)∧B≤wi.heap.size∧Below w.heap.size w wi) (fun _ jV _=>2 - (intOf jV).toNat)
  case atStart=>exact⟨0,rfl,by omega,ho,o8,oB',hA,hC,hR,hS,q1,q2,q3,q4,h8,hT,q6,hszV,hB⟩
  case round=>
   clear ho o8 oB' hA hC hR hS q1 q2 q3 q4 h8 hT q6 hszV hB hsz
   obtain⟨j,rfl,hj,ho,o8,oB',hA,hC,hR,hS,q1,q2,q3,q4,h8,hT,q6,hsz,hB⟩:=hrel
   by_cases hj2:j<2;rotate_left
   ·obtain rfl:j=2:=by omega
    go_wp2
    exact⟨⟨i+1,by go_num,by omega,ho,hA,hC,hR,hS,q1,q2,q3,q4,hsz,hB⟩,by simp[intOf];omega⟩
   have j0:(0:Int)≤(j:Int):=by omega
   have j1:(j:Int)<2:=by omega
   have hLs:IsQs wr (.slice (some ⟨X9,0,none⟩) 2 2) [c,d]:=IsQs.of_blk (es:=[(s3,.slice A3 L3 C3,.slice D3 M3 E3),(s4,.slice A4 L4 C4,.slice D4 M4 E4)]) (rs:=[c,d]) hT (((OkQ.nil _).snoc q3).snoc q4) (by simp)
   obtain⟨ad',c',s7,p',r',e1,_,x0,x1,x2,q7⟩:=hLs.at_ (i:=j) hj2
   obtain⟨e1, -, -⟩:=Value.slice.inj e1
   obtain rfl:=Option.some.inj e1
   rw[qnt_at] at q7
   obtain⟨A7,L7,C7,D7,M7,E7,rfl,rfl⟩:=q7.lets
   have ha:=add0 X9 (j*3)
   rw[ha] at x0 x1 x2
   clear hLs e1
   obtain⟨c144,c145,c146,c147,c148,c149⟩:=hA.q6
   obtain⟨c150,c151,c152,c153,c154,c155⟩:=hC.q6
   obtain⟨c156,c157,c158,c159,c160,c161⟩:=hR.q6
   obtain⟨c162,c163,c164,c165,c166,c167⟩:=hS.q6
   obtain⟨c168,c169,c170⟩:=h8.q3
   obtain⟨c171,c172,c173,c174,c175,c176⟩:=hT.q6
   obtain⟨X12,V12,h10,bV12,lX12,nX12,EV12⟩:=boxL hB 32 #[.bool s7,.slice A7 L7 C7,.slice D7 M7 E7]
   have dX12_hA:=nX12 _ hA.lt
   have dX12_hC:=nX12 _ hC.lt
   have dX12_hR:=nX12 _ hR.lt
   have dX12_hS:=nX12 _ hS.lt
   have dX12_h8:=nX12 _ h8.lt
   have dX12_hT:=nX12 _ hT.lt
   clear nX12
   go_upto_region 10 with fail
   rw[←EV12.out.1,←EV12.out.2]
   replace q1:=q1.b bV12
   replace q2:=q2.b bV12
   replace q3:=q3.b bV12
   replace q4:=q4.b bV12
   replace hA:=hA.b bV12
   replace hC:=hC.b bV12
   replace hR:=hR.b bV12
   replace hS:=hS.b bV12
   replace q6:=q6.b bV12
   replace ho:=ho.b bV12
   replace h8:=h8.b bV12
   replace hT:=hT.b bV12
   replace q7:=q7.b bV12
   replace hB:=bOn hB bV12
   clear c144 c145 c146 c147 c148 c149 c150 c151 c152 c153 c154 c155 c156 c157 c158 c159 c160 c161 c162 c163 c164 c165 c166 c167 c168 c169 c170 c171 c172 c173 c174 c175 c176
   obtain⟨c177,c178,c179,c180,c181,c182⟩:=hA.q6
   obtain⟨c183,c184,c185,c186,c187,c188⟩:=hC.q6
   obtain⟨c189,c190,c191,c192,c193,c194⟩:=hR.q6
   obtain⟨c195,c196,c197,c198,c199,c200⟩:=hS.q6
   obtain⟨c201,c202,c203⟩:=h8.q3
   obtain⟨c204,c205,c206,c207,c208,c209⟩:=hT.q6
   obtain⟨c210,c211,c212⟩:=h10.q3
   clear x0 x1 x2 ha
   have hDv:=fun u v w h1 h2=>prdiv_any u v (qnt [a,b] i) (qnt [c,d] j) w h1 h2 ((hQ i hi2).more (by omega)) ((hQ' j hj2).more (by omega)) (hN j hj2)
   have HT:=Lib.hid (quo4_at (a:=a) (b:=b) (c:=c) (d:=d) hi2 hj2)
   generalize divQ (qnt [a,b] i) (qnt [c,d] j)=rq at *
   generalize hrx:qnt [a,b] i=rx at *
   have HX:=Lib.hid hrx
   clear hrx
   generalize qnt [c,d] j=ry at *
   obtain⟨rl,erl⟩:∃rl,rl=(quo4 a b c d).take (2*i+j):=⟨_,rfl⟩
   have hrl:rl.length≤4:=by rw[erl,List.length_take];simp[quo4];omega
   rw[←erl] at ho HT
   clear erl
   go_wp2_with fail
   refine (hDv _ _ _ q6 q7).mono ?_
   rintro e w14 ⟨v11,rfl,q11,b14⟩
   replace q1:=q1.b b14
   replace q2:=q2.b b14
   replace q3:=q3.b b14
   replace q4:=q4.b b14
   replace hA:=hA.b b14
   replace hC:=hC.b b14
   replace hR:=hR.b b14
   replace hS:=hS.b b14
   replace q6:=q6.b b14
   replace ho:=ho.b b14
   replace h8:=h8.b b14
   replace hT:=hT.b b14
   replace q7:=q7.b b14
   replace h10:=h10.b b14
   replace hB:=bOn hB b14
   clear c177 c178 c179 c180 c181 c182 c183 c184 c185 c186 c187 c188 c189 c190 c191 c192 c193 c194 c195 c196 c197 c198 c199 c200 c201 c202 c203 c204 c205 c206 c207 c208 c209 c210 c211 c212
   obtain⟨c213,c214,c215,c216,c217,c218⟩:=hA.q6
   obtain⟨c219,c220,c221,c222,c223,c224⟩:=hC.q6
   obtain⟨c225,c226,c227,c228,c229,c230⟩:=hR.q6
   obtain⟨c231,c232,c233,c234,c235,c236⟩:=hS.q6
   obtain⟨c237,c238,c239⟩:=h8.q3
   obtain⟨c240,c241,c242,c243,c244,c245⟩:=hT.q6
   obtain⟨c246,c247,c248⟩:=h10.q3
   obtain⟨s11,A11,L11,C11,D11,M11,E11,rfl,q11⟩:=q11.opn
   obtain⟨X16,V16,h11,bV16,lX16,nX16,EV16⟩:=boxL hB 32 #[.bool s11,.slice A11 L11 C11,.slice D11 M11 E11]
   have dX16_hA:=nX16 _ hA.lt
   have dX16_hC:=nX16 _ hC.lt
   have dX16_hR:=nX16 _ hR.lt
   have dX16_hS:=nX16 _ hS.lt
   have dX16_h8:=nX16 _ h8.lt
   have dX16_hT:=nX16 _ hT.lt
   have dX16_h10:=nX16 _ h10.lt
   clear nX16
   go_upto_region 11 with fail
   rw[←EV16.out.1,←EV16.out.2]
   replace q1:=q1.b bV16
   replace q2:=q2.b bV16
   replace q3:=q3.b bV16
   replace q4:=q4.b bV16
   replace hA:=hA.b bV16
   replace hC:=hC.b bV16
   replace hR:=hR.b bV16
   replace hS:=hS.b bV16
   replace q6:=q6.b bV16
   replace ho:=ho.b bV16
   replace h8:=h8.b bV16
   replace hT:=hT.b bV16
   replace q7:=q7.b bV16
   replace h10:=h10.b bV16
   replace q11:=q11.b bV16
   replace hB:=bOn hB bV16
   clear c213 c214 c215 c216 c217 c218 c219 c220 c221 c222 c223 c224 c225 c226 c227 c228 c229 c230 c231 c232 c233 c234 c235 c236 c237 c238 c239 c240 c241 c242 c243 c244 c245 c246 c247 c248
   obtain⟨c249,c250,c251,c252,c253,c254⟩:=hA.q6
   obtain⟨c255,c256,c257,c258,c259,c260⟩:=hC.q6
   obtain⟨c261,c262,c263,c264,c265,c266⟩:=hR.q6
   obtain⟨c267,c268,c269,c270,c271,c272⟩:=hS.q6
   obtain⟨c273,c274,c275⟩:=h8.q3
   obtain⟨c276,c277,c278,c279,c280,c281⟩:=hT.q6
   obtain⟨c282,c283,c284⟩:=h10.q3
   obtain⟨c285,c286,c287⟩:=h11.q3
   obtain⟨es,k1,k2,k3⟩:=ho
   obtain⟨N,eN⟩:∃N,N=rl.length:=⟨_,rfl⟩
   rw[←eN] at k2 hrl
   obtain⟨A9,c9,rfl,_,_,_⟩:=own3_form k2
   have HN:=Lib.hid eN
   clear eN
   have bA:Below V16.heap.size V16 (V16.alloc (.cells #[.bool s11,.slice A11 L11 C11,.slice D11 M11 E11] 32)):=(Below.refl _ _).alloc (Nat.le_refl _) _
   have hsc:B≤V16.heap.size:=by have:=hT.lt;omega
   have hnoA:=k3.below k2 bA
   have hkA:=k1.below bA
   have hqA:=q11.below bA
   go_wp2_with (at_builtin;go_must (refine wpList_append_noU _ rfl _ _ 40 rfl B 32 i0' _ 3 56 Tryz.underlying40 hi' hz0 hz1 hz2 rfl (by omega) (by simp[Value.cells,noU]) _ N (flatQ es) rfl (k2.alloc _) hnoA ⟨V16.heap.size,0,none⟩ 1 1 (cellsQ (s11,.slice A11 L11 C11,.slice D11 M11 E11)) rfl rfl (lit3_cells _ _ _ _ _) (by simp[cellsQ,Value.oneCell']) (by simp[cellsQ,noU]) (by omega) (by unfold maxLen;omega) (by omega) (by simp;omega) ?_;intro v' w2 hown' hgrow hno' hat;obtain⟨A8',c8',ev8,_,_,_⟩:=own3_form hown';subst ev8))
   have hpush:OwnQs w2 B (.slice A8' (N+1) c8') (rl++[rq]):=OwnQs.push (e:=(s11,.slice A11 L11 C11,.slice D11 M11 E11)) hkA hnoA (by rw[←HN.out];exact k2.alloc _) hqA (by rw[←HN.out];exact hown') hgrow hno'
   have kq:∀u r,IsQ V16 u r→IsQ w2 u r:=fun u r h=>(h.below bA).kept (fun v n h=>IsL.noUB h hnoA (k2.alloc _) hgrow)
   have kb:∀X t cs,Blk V16 X t cs→(Value.slice A9 N c9).ownBlock≠some X→Blk w2 X t cs:=fun X t cs h hne=>(hgrow.block X (by have:=h.lt;simp;omega) (fun e=>hne e.symm)).trans (h.below bA h.lt)
   have kl:∀X,X<B→(Value.slice A9 N c9).ownBlock≠some X:=fun X hX e=>by have:=(k2.lt X e).1;omega
   have kn:∀X,X<V16.heap.size→(Value.slice A9 N c9).ownBlock≠some X→(Value.slice A8' (N+1) c8').ownBlock≠some X:=fun X hX hne e=>by
    rcases hat with h | h
    ·rw[h] at e;exact hne e
    ·rw[h] at e;injection e with e;simp at e;omega
   have hBw:Below w.heap.size w w2:=hB.trans ((((Below.refl w.heap.size V16).alloc hB.size _)).grown hgrow (by simp;have:=hB.size;omega) (fun k e=>by have:=(k2.lt k e).1;omega))
   have l8:=h8.lt
   have lT:=hT.lt
   have hsw:B≤w2.heap.size:=by have:=hgrow.size;simp at this;omega
   rw[←HT.out] at hpush
   replace hA:=kb _ _ _ hA (kl _ (by omega))
   replace hC:=kb _ _ _ hC (kl _ (by omega))
   replace hR:=kb _ _ _ hR (kl _ (by omega))
   replace hS:=kb _ _ _ hS (kl _ (by omega))
   replace h8:=kb _ _ _ h8 o8
   replace hT:=kb _ _ _ hT oB'
   replace q1:=kq _ _ q1
   replace q2:=kq _ _ q2
   replace q3:=kq _ _ q3
   replace q4:=kq _ _ q4
   replace q6:=kq _ _ q6
   exact⟨⟨j+1,by go_num,by omega,hpush,kn _ l8 o8,kn _ lT oB',hA,hC,hR,hS,q1,q2,q3,q4,h8,hT,(by rw[HX.out];exact q6),hsw,hBw⟩,by simp[intOf];omega⟩
end Go.Proofs.YtdnjdglekifhpaaGreat
