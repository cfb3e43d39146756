/- ADAM: against the real moments of the same gradients, from noughts on, kept moments are never farther away than their bounds, step by step. No conditions: every input. -/
import Derived.Deep.Slices
import Derived.Test.YtdnjdglekifhpaaGreatTgd
set_option maxRecDepth 100000
set_option maxHeartbeats 8000000
namespace Go.Proofs.YtdnjdglekifhpaaGreat
open Go.RowKit
attribute [local go_sem ↓] Go.wp_at_zero Go.wp_at_succ
theorem numbers_false (va:Value) (l:List Int) (f:Nat) (w:World) (h:IsI w va l) (hi:AllIn l) (hf:f≤40) (hn:l.length≤1000):
 Calls Tryz.prog 47 #[va,.int .i64 f,.bool false] w fun e w'=>∃v',e= .returned v'∧OwnQs w' w.heap.size v' ((List.range l.length).map fun i=>numQ false f (iat l i))∧Below w.heap.size w w':=by
 obtain⟨i0,hi0,hz0,hz1,hz2⟩:=info_parts info_rat
 obtain⟨A,c,rfl,hc1,hc2,hr⟩:=h
 obtain⟨X,hX⟩:∃X,X=w.heap.size:=⟨_,rfl⟩
 obtain⟨W1,hW1,hO,hB⟩:=box1 w 32 #[]
 rw[←hX] at hO
 have own0:OwnQs W1 w.heap.size (.slice (some ⟨X,0,none⟩) 0 0) []:=by
  refine ⟨[],OkQ.nil _,?_,fun g cs t fr e1 e2=>?_⟩
  ·have:=World.ownsRow_lit w #[] 0 (base:=w.heap.size) (e:=32) (size:=3) (by omega) (by unfold maxLen;omega) rfl
   rw[←hX,←hW1] at this;rw[←hX];exact this
  ·have e3:g=X:=by simpa [Value.ownBlock] using e1.symm
   subst e3
   have hO':W1.heap[g]?=_:=hO
   rw[hO'] at e2;cases e2;simp
 have HW:=Lib.hid (And.intro hW1 hX)
 clear hW1 hO hX
 have hRt:=fun y w iy=>rrat_any y f w hf iy
 obtain⟨G,hG⟩:∃G:Nat→Rat,G=fun i=>numQ false f (iat l i):=⟨_,rfl⟩
 have HG:=Lib.hid hG
 rw[←hG]
 clear hG
 go_enter Tryz.func47,Tryz.ntmps47
 go_upto_region 2 with fail
 rw[←HW.out.1,←HW.out.2]
 go_wp2_with fail
 go_loopw [7,8] (fun vo i wr=>∃(j:Nat) (v:Value),v=vo∧i= .int .i64 j∧j≤l.length∧OwnQs wr w.heap.size v ((List.range j).map G)∧Below w.heap.size w wr) (fun _ i _=>l.length - (intOf i).toNat)
 case atStart=>exact⟨0,_,rfl,rfl,by omega,own0,hB⟩
 case round=>
  clear own0 hB HW
  obtain⟨j,v0,rfl,rfl,hj,ho,hB⟩:=hrel
  by_cases hlt:j<l.length;rotate_left
  ·obtain rfl:j=l.length:=by omega
   go_wp2
   go_ret
   exact⟨_,rfl,ho,hB⟩
  have j0:(j:Int)<(l.length:Int):=by omega
  have j1:(0:Int)≤(j:Int):=by omega
  obtain⟨ad,rfl,_,hx⟩:=is_cell (hr.below hB) hlt
  have iy:=hi j
  have HRR:=Lib.hid (show (List.range (j+1)).map G=(List.range j).map G++[G j] by rw[List.range_succ,List.map_append];rfl)
  have HL:=Lib.hid (show j=((List.range j).map G).length by simp)
  have HGj:=Lib.hid (congrFun HG.out j)
  generalize G j=gj at *
  generalize (List.range j).map G=rl at *
  generalize hy:iat l j=y at *
  clear hy
  go_wp2_with fail
  refine (hRt _ _ iy).mono ?_
  rintro e w31 ⟨v31,rfl,q31,b31⟩
  replace ho:=ho.b b31
  replace hx:=cellAU b31 hx
  replace hB:=bOn hB b31
  obtain⟨s31,A31,L31,C31,D31,M31,E31,rfl,q31⟩:=q31.opn
  clear hx
  have so:∀x,v0.ownBlock=some x→x<w31.heap.size:=fun x hx=>(ho.lt x hx).2
  obtain⟨X33,V33,h9,bV33,lX33,nX33,EV33⟩:=boxL hB 32 #[.bool s31,.slice A31 L31 C31,.slice D31 M31 E31]
  clear nX33
  go_upto_region 6 with fail
  rw[←EV33.out.1,←EV33.out.2]
  replace ho:=ho.b bV33
  replace q31:=q31.b bV33
  replace hB:=bOn hB bV33
  obtain⟨c0,c1,c2⟩:=h9.q3
  replace so:v0.ownBlock≠some X33:=fun e=>Nat.lt_irrefl _ (Nat.lt_of_lt_of_le (so _ e) (Nat.le_of_eq EV33.out.2.symm))
  obtain⟨rq,hrq⟩:∃r,r=mkRat y (2^f):=⟨_,rfl⟩
  rw[←hrq] at q31
  obtain rfl:gj=rq:=by rw[HGj.out,hrq];rfl
  clear hrq
  have hXs:=hB.size
  obtain⟨es,k1,k2,k3⟩:=ho
  rw[←HL.out] at k2
  obtain⟨A9,c9,rfl,_,_,_⟩:=own3_form k2
  have hnoA:NoUB (V33.alloc (.cells #[.bool s31,.slice A31 L31 C31,.slice D31 M31 E31] 32)) (.slice A9 j c9):=k3.below k2 ((Below.refl _ _).alloc (Nat.le_refl _) _)
  have hkA:OkQ (V33.alloc (.cells #[.bool s31,.slice A31 L31 C31,.slice D31 M31 E31] 32)) es rl:=k1.below ((Below.refl _ _).alloc (Nat.le_refl _) _)
  have hqA:IsQ (V33.alloc (.cells #[.bool s31,.slice A31 L31 C31,.slice D31 M31 E31] 32)) (.agg #[.bool s31,.slice A31 L31 C31,.slice D31 M31 E31]) gj:=q31.below ((Below.refl _ _).alloc (Nat.le_refl _) _)
  go_wp2_with (at_builtin;go_must (refine wpList_append_noU _ rfl _ _ 40 rfl w.heap.size 32 i0 _ 3 56 Tryz.underlying40 hi0 hz0 hz1 hz2 rfl (by omega) (by simp[Value.cells,noU]) _ j (flatQ es) rfl (k2.alloc _) hnoA ⟨V33.heap.size,0,none⟩ 1 1 (cellsQ (s31,.slice A31 L31 C31,.slice D31 M31 E31)) rfl rfl (lit3_cells _ _ _ _ _) (by simp[cellsQ,Value.oneCell']) (by simp[cellsQ,noU]) (by omega) (by unfold maxLen;omega) (by omega) (by simp;omega) ?_;intro v' w2 hown' hgrow hno' hat;obtain⟨A8,c8,ev8,_,_,_⟩:=own3_form hown';subst ev8))
  have hpush:OwnQs w2 w.heap.size (.slice A8 (j+1) c8) (rl++[gj]):=OwnQs.push (e:=(s31,.slice A31 L31 C31,.slice D31 M31 E31)) hkA hnoA (by rw[←HL.out];exact k2.alloc _) hqA (by rw[←HL.out];exact hown') hgrow hno'
  have hBw:Below w.heap.size w w2:=hB.trans (((Below.refl w.heap.size V33).alloc (by omega) _).grown hgrow (by simp;omega) (fun k e=>by have:=(k2.lt k e).1;omega))
  refine ⟨⟨j+1,_,rfl,congrArg (Value.int .i64) (by omega),by omega,by rw[HRR.out];exact hpush,hBw⟩,by simp[intOf];omega⟩
theorem numbers_true (va:Value) (l:List Int) (f:Nat) (w:World) (h:IsI w va l) (hi:AllIn l) (hf:f≤40) (hn:l.length≤1000):
 Calls Tryz.prog 47 #[va,.int .i64 f,.bool true] w fun e w'=>∃v',e= .returned v'∧OwnQs w' w.heap.size v' ((List.range l.length).map fun i=>numQ true f (iat l i))∧Below w.heap.size w w':=by
 obtain⟨i0,hi0,hz0,hz1,hz2⟩:=info_parts info_rat
 obtain⟨A,c,rfl,hc1,hc2,hr⟩:=h
 obtain⟨X,hX⟩:∃X,X=w.heap.size:=⟨_,rfl⟩
 obtain⟨W1,hW1,hO,hB⟩:=box1 w 32 #[]
 rw[←hX] at hO
 have own0:OwnQs W1 w.heap.size (.slice (some ⟨X,0,none⟩) 0 0) []:=by
  refine ⟨[],OkQ.nil _,?_,fun g cs t fr e1 e2=>?_⟩
  ·have:=World.ownsRow_lit w #[] 0 (base:=w.heap.size) (e:=32) (size:=3) (by omega) (by unfold maxLen;omega) rfl
   rw[←hX,←hW1] at this;rw[←hX];exact this
  ·have e3:g=X:=by simpa [Value.ownBlock] using e1.symm
   subst e3
   have hO':W1.heap[g]?=_:=hO
   rw[hO'] at e2;cases e2;simp
 have HW:=Lib.hid (And.intro hW1 hX)
 clear hW1 hO hX
 have hRt:=fun y w iy=>rrat_any y f w hf iy
 have hMul:=fun y u v w (iy:In64 y) h1 h2=>rqmul_any u v (mkRat y (2^f)) (mkRat y (2^f)) w h1 h2 ((sz_man1 iy hf).more (by omega)) ((sz_man1 iy hf).more (by omega))
 obtain⟨G,hG⟩:∃G:Nat→Rat,G=fun i=>numQ true f (iat l i):=⟨_,rfl⟩
 have HG:=Lib.hid hG
 rw[←hG]
 clear hG
 go_enter Tryz.func47,Tryz.ntmps47
 go_upto_region 2 with fail
 rw[←HW.out.1,←HW.out.2]
 go_wp2_with fail
 go_loopw [7,8] (fun vo i wr=>∃(j:Nat) (v:Value),v=vo∧i= .int .i64 j∧j≤l.length∧OwnQs wr w.heap.size v ((List.range j).map G)∧Below w.heap.size w wr) (fun _ i _=>l.length - (intOf i).toNat)
 case atStart=>exact⟨0,_,rfl,rfl,by omega,own0,hB⟩
 case round=>
  clear own0 hB HW
  obtain⟨j,v0,rfl,rfl,hj,ho,hB⟩:=hrel
  by_cases hlt:j<l.length;rotate_left
  ·obtain rfl:j=l.length:=by omega
   go_wp2
   go_ret
   exact⟨_,rfl,ho,hB⟩
  have j0:(j:Int)<(l.length:Int):=by omega
  have j1:(0:Int)≤(j:Int):=by omega
  obtain⟨ad,rfl,_,hx⟩:=is_cell (hr.below hB) hlt
  have iy:=hi j
  have HRR:=Lib.hid (show (List.range (j+1)).map G=(List.range j).map G++[G j] by rw[List.range_succ,List.map_append];rfl)
  have HL:=Lib.hid (show j=((List.range j).map G).length by simp)
  have HGj:=Lib.hid (congrFun HG.out j)
  generalize G j=gj at *
  generalize (List.range j).map G=rl at *
  generalize hy:iat l j=y at *
  clear hy
  go_wp2_with fail
  refine (hRt _ _ iy).mono ?_
  rintro e w31 ⟨v31,rfl,q31,b31⟩
  replace ho:=ho.b b31
  replace hx:=cellAU b31 hx
  replace hB:=bOn hB b31
  obtain⟨s31,A31,L31,C31,D31,M31,E31,rfl,q31⟩:=q31.opn
  clear hx
  have so:∀x,v0.ownBlock=some x→x<w31.heap.size:=fun x hx=>(ho.lt x hx).2
  obtain⟨X33,V33,h9,bV33,lX33,nX33,EV33⟩:=boxL hB 32 #[.bool s31,.slice A31 L31 C31,.slice D31 M31 E31]
  clear nX33
  go_upto_region 6 with fail
  rw[←EV33.out.1,←EV33.out.2]
  replace ho:=ho.b bV33
  replace q31:=q31.b bV33
  replace hB:=bOn hB bV33
  obtain⟨c0,c1,c2⟩:=h9.q3
  replace so:v0.ownBlock≠some X33:=fun e=>Nat.lt_irrefl _ (Nat.lt_of_lt_of_le (so _ e) (Nat.le_of_eq EV33.out.2.symm))
  go_wp2_with fail
  refine (hMul _ _ _ _ iy q31 q31).mono ?_
  rintro e w35 ⟨v32,rfl,q32,b35⟩
  replace ho:=ho.b b35
  replace q31:=q31.b b35
  replace h9:=h9.b b35
  replace hB:=bOn hB b35
  clear c0 c1 c2
  obtain⟨c3,c4,c5⟩:=h9.q3
  obtain⟨s32,A32,L32,C32,D32,M32,E32,rfl,q32⟩:=q32.opn
  obtain⟨W8,eW,f1,f2,f3,f4⟩:=fill3 h9 (.bool s32) (.slice A32 L32 C32) (.slice D32 M32 E32) (by simp[noU])
  have xf:=h9.frozen
  go_upto_region 8 with fail
  rw[←eW]
  replace ho:=ho.filled so f2 f3
  replace q32:=q32.filled f2
  replace hB:=f4 _ _ (by assumption) hB
  replace h9:=f1
  clear eW f1 f2 f3 f4 xf q31
  clear c3 c4 c5
  obtain⟨c6,c7,c8⟩:=h9.q3
  obtain⟨rq,hrq⟩:∃r,r=mkRat y (2^f)*mkRat y (2^f):=⟨_,rfl⟩
  rw[←hrq] at q32
  obtain rfl:gj=rq:=by rw[HGj.out,hrq];rfl
  clear hrq
  have hXs:=hB.size
  obtain⟨es,k1,k2,k3⟩:=ho
  rw[←HL.out] at k2
  obtain⟨A9,c9,rfl,_,_,_⟩:=own3_form k2
  have hnoA:NoUB (W8.alloc (.cells #[.bool s32,.slice A32 L32 C32,.slice D32 M32 E32] 32)) (.slice A9 j c9):=k3.below k2 ((Below.refl _ _).alloc (Nat.le_refl _) _)
  have hkA:OkQ (W8.alloc (.cells #[.bool s32,.slice A32 L32 C32,.slice D32 M32 E32] 32)) es rl:=k1.below ((Below.refl _ _).alloc (Nat.le_refl _) _)
  have hqA:IsQ (W8.alloc (.cells #[.bool s32,.slice A32 L32 C32,.slice D32 M32 E32] 32)) (.agg #[.bool s32,.slice A32 L32 C32,.slice D32 M32 E32]) gj:=q32.below ((Below.refl _ _).alloc (Nat.le_refl _) _)
  go_wp2_with (at_builtin;go_must (refine wpList_append_noU _ rfl _ _ 40 rfl w.heap.size 32 i0 _ 3 56 Tryz.underlying40 hi0 hz0 hz1 hz2 rfl (by omega) (by simp[Value.cells,noU]) _ j (flatQ es) rfl (k2.alloc _) hnoA ⟨W8.heap.size,0,none⟩ 1 1 (cellsQ (s32,.slice A32 L32 C32,.slice D32 M32 E32)) rfl rfl (lit3_cells _ _ _ _ _) (by simp[cellsQ,Value.oneCell']) (by simp[cellsQ,noU]) (by omega) (by unfold maxLen;omega) (by omega) (by simp;omega) ?_;intro v' w2 hown' hgrow hno' hat;obtain⟨A8,c8,ev8,_,_,_⟩:=own3_form hown';subst ev8))
  have hpush:OwnQs w2 w.heap.size (.slice A8 (j+1) c8) (rl++[gj]):=OwnQs.push (e:=(s32,.slice A32 L32 C32,.slice D32 M32 E32)) hkA hnoA (by rw[←HL.out];exact k2.alloc _) hqA (by rw[←HL.out];exact hown') hgrow hno'
  have hBw:Below w.heap.size w w2:=hB.trans (((Below.refl w.heap.size W8).alloc (by omega) _).grown hgrow (by simp;omega) (fun k e=>by have:=(k2.lt k e).1;omega))
  refine ⟨⟨j+1,_,rfl,congrArg (Value.int .i64) (by omega),by omega,by rw[HRR.out];exact hpush,hBw⟩,by simp[intOf];omega⟩
end Go.Proofs.YtdnjdglekifhpaaGreat
namespace Go.Proofs.YtdnjdglekifhpaaGreat
open Go.ChangeShapes Go.WideShapes Go.ChangeAt Go.RowKit Go.Joins Go.Deep
section
variable {H:Type} {enc:TypeId×Value→H} {W:World}
theorem cells_adamin:Tryz.prog.cellsOf 66=13:=by kernel_rfl
theorem cells_adamc:Tryz.prog.cellsOf 61=6:=by kernel_rfl
theorem cells_rowsc:Tryz.prog.cellsOf 64=4:=by kernel_rfl
theorem cells_sli64:Tryz.prog.cellsOf 62=1:=by kernel_rfl
theorem open_i64n {t:TypeId} {fuel:Nat} {v:Value} {x:DataW H×List MemPlace} (ht:Tryz.prog.underlying t=some (.slice 2))
 (h:DataW.trod enc Tryz.prog W 0 (fun _=>true) true fuel t [v]=some x) (hlt:∀p∈x.2,p.block<W.heap.size):∃l,IsI W v l∧AllIn l:=by
 rcases open_ints ht Tryz.underlying2 (by kernel_rfl:Tryz.prog.cellsOf 2=1) h with ⟨hcs,hx⟩ | ⟨a,len,cap,zs,hcs,_,hl,hm,hzl,hx,hcell,hwz⟩
 ·simp at hcs
  subst hcs
  exact⟨[],IsI.nil W,AllIn.nil⟩
 ·simp at hcs
  subst hcs
  subst hx
  simp only[if_true] at hzl
  unfold maxLen at hm
  have hll:(zs.take len).length=len:=by simp;omega
  refine ⟨zs.take len,⟨some a,cap,by rw[hll],by omega,by omega,?_⟩,AllIn.of_mem (fun n hn=>wf_i64 (hwz n (List.mem_of_mem_take hn)))⟩
  rw[hll]
  refine ⟨by rw[is_len,hll];omega,fun h0=>⟨a,rfl,?_,fun j u hu=>?_⟩⟩
  ·obtain⟨b,off,spot⟩:=a
   have hspot:spot=none:=by simpa [Addr.add] using World.cell?_spot (hcell 0 (by omega))
   subst hspot
   exact hlt (.cell b off) (MemPlace.mem_row.2 ⟨0,by omega,by simp⟩)
  ·have hj:j<len:=by
    rcases Nat.lt_or_ge j len with h' | h'
    ·exact h'
    ·rw[List.getElem?_eq_none (by rw[is_len,hll];exact h')] at hu;cases hu
   have hjz:j<zs.length:=by omega
   rw[hcell j hjz]
   rw[is_at _ j (by rw[hll];exact hj)] at hu
   rw[←Option.some.inj hu]
   have e:zs.getD j 0=zs[j]:=by simp[List.getD,hjz]
   have e2:iat (zs.take len) j=zs[j]:=by simp[iat,hj,hjz]
   rw[e,e2]
theorem open_adamin {base:Nat} {v:Value} {d:DataW H} {p:List MemPlace} (hv:Value.okWide Tryz.prog W .any base 66 v) (h:DataW.Trod enc Tryz.prog W 0 (fun _=>true) true 66 v d p)
 (hlt:∀x∈p,x.block<W.heap.size):
 ∃(lr b1 b2 eps wd:Int) (apart:Bool) (f p0 p1:Int) (g0 g1 g2 g3:Value) (l0 l1 l2 l3:List Int),v= .agg #[.int .i64 lr,.int .i64 b1,.int .i64 b2,.int .i64 eps,.int .i64 wd,.bool apart,.int .i64 f,.int .i64 p0,.int .i64 p1,g0,g1,g2,g3]∧(In64 lr∧In64 b1∧In64 b2∧In64 eps∧In64 wd∧In64 f)∧(IsI W g0 l0∧IsI W g1 l1∧IsI W g2 l2∧IsI W g3 l3)∧AllIn l0:=by
 obtain⟨cs,rfl,hsz⟩:=okWide_struct Tryz.underlying66 hv
 obtain⟨l⟩:=cs
 match l,hsz.trans cells_adamin with
 | [c0, c1, c2, c3, c4, c5, c6, c7, c8, c9, c10, c11, c12], _ =>
   obtain⟨fuel,hf⟩:=h
   obtain⟨xs,n,_,hx,_,hlen,hg⟩:=DataW.trod_struct Tryz.underlying66 hf
   match xs,hlen with
   | [y0, y1, y2, y3], _ =>
     obtain⟨rfl,rfl⟩:=Prod.mk.inj hx
     have a0:DataW.trod enc Tryz.prog W 0 (fun _=>true) true n 61 (([c0,c1,c2,c3,c4,c5,c6,c7,c8,c9,c10,c11,c12].drop 0).take (Tryz.prog.cellsOf 61))=some y0:=hg 0 _ rfl
     have a1:DataW.trod enc Tryz.prog W 0 (fun _=>true) true n 3 (([c0,c1,c2,c3,c4,c5,c6,c7,c8,c9,c10,c11,c12].drop 6).take (Tryz.prog.cellsOf 3))=some y1:=hg 1 _ rfl
     have a2:DataW.trod enc Tryz.prog W 0 (fun _=>true) true n 34 (([c0,c1,c2,c3,c4,c5,c6,c7,c8,c9,c10,c11,c12].drop 7).take (Tryz.prog.cellsOf 34))=some y2:=hg 2 _ rfl
     have a3:DataW.trod enc Tryz.prog W 0 (fun _=>true) true n 64 (([c0,c1,c2,c3,c4,c5,c6,c7,c8,c9,c10,c11,c12].drop 9).take (Tryz.prog.cellsOf 64))=some y3:=hg 3 _ rfl
     rw[cells_adamc] at a0
     rw[cells_intk] at a1
     rw[cells_pair] at a2
     rw[cells_rowsc] at a3
     obtain⟨f,e1,_,w1⟩:=DataW.trod_int Tryz.underlying3 a1
     obtain⟨pq,hp0,hp1,_,_⟩:=open_pair (show DataW.trod enc Tryz.prog W 0 (fun _=>true) true n 34 [c7,c8]=some y2 from a2)
     obtain⟨xs1,n1,_,_,_,hl1,hg1⟩:=DataW.trod_struct Tryz.underlying61 a0
     obtain⟨xs2,n2,_,hx2,_,hl2,hg2⟩:=DataW.trod_struct Tryz.underlying64 a3
     match xs1,hl1,xs2,hl2 with
     | [u0, u1, u2, u3, u4, u5], _, [z0, z1, z2, z3], _ =>
       have m0:DataW.trod enc Tryz.prog W 0 (fun _=>true) true n1 2 (([c0,c1,c2,c3,c4,c5].drop 0).take (Tryz.prog.cellsOf 2))=some u0:=hg1 0 _ rfl
       have m1:DataW.trod enc Tryz.prog W 0 (fun _=>true) true n1 2 (([c0,c1,c2,c3,c4,c5].drop 1).take (Tryz.prog.cellsOf 2))=some u1:=hg1 1 _ rfl
       have m2:DataW.trod enc Tryz.prog W 0 (fun _=>true) true n1 2 (([c0,c1,c2,c3,c4,c5].drop 2).take (Tryz.prog.cellsOf 2))=some u2:=hg1 2 _ rfl
       have m3:DataW.trod enc Tryz.prog W 0 (fun _=>true) true n1 2 (([c0,c1,c2,c3,c4,c5].drop 3).take (Tryz.prog.cellsOf 2))=some u3:=hg1 3 _ rfl
       have m4:DataW.trod enc Tryz.prog W 0 (fun _=>true) true n1 2 (([c0,c1,c2,c3,c4,c5].drop 4).take (Tryz.prog.cellsOf 2))=some u4:=hg1 4 _ rfl
       have m5:DataW.trod enc Tryz.prog W 0 (fun _=>true) true n1 4 (([c0,c1,c2,c3,c4,c5].drop 5).take (Tryz.prog.cellsOf 4))=some u5:=hg1 5 _ rfl
       have k0:DataW.trod enc Tryz.prog W 0 (fun _=>true) true n2 62 (([c9,c10,c11,c12].drop 0).take (Tryz.prog.cellsOf 62))=some z0:=hg2 0 _ rfl
       have k1:DataW.trod enc Tryz.prog W 0 (fun _=>true) true n2 62 (([c9,c10,c11,c12].drop 1).take (Tryz.prog.cellsOf 62))=some z1:=hg2 1 _ rfl
       have k2:DataW.trod enc Tryz.prog W 0 (fun _=>true) true n2 62 (([c9,c10,c11,c12].drop 2).take (Tryz.prog.cellsOf 62))=some z2:=hg2 2 _ rfl
       have k3:DataW.trod enc Tryz.prog W 0 (fun _=>true) true n2 62 (([c9,c10,c11,c12].drop 3).take (Tryz.prog.cellsOf 62))=some z3:=hg2 3 _ rfl
       rw[cells_i64k] at m0 m1 m2 m3 m4
       rw[cells_boolm] at m5
       rw[cells_sli64] at k0 k1 k2 k3
       obtain⟨lr,d0,_,v0⟩:=DataW.trod_int Tryz.underlying2 m0
       obtain⟨b1,d1,_,v1⟩:=DataW.trod_int Tryz.underlying2 m1
       obtain⟨b2,d2,_,v2⟩:=DataW.trod_int Tryz.underlying2 m2
       obtain⟨eps,d3,_,v3⟩:=DataW.trod_int Tryz.underlying2 m3
       obtain⟨wd,d4,_,v4⟩:=DataW.trod_int Tryz.underlying2 m4
       obtain⟨ap,d5,_⟩:=DataW.trod_bool Tryz.underlying4 m5
       simp at e1 d0 d1 d2 d3 d4 d5
       subst e1 d0 d1 d2 d3 d4 d5 hp0 hp1
       have hy:y3.2=[z0,z1,z2,z3].flatMap (·.2):=by rw[hx2]
       have hz:∀z∈[z0,z1,z2,z3],∀q∈z.2,q.block<W.heap.size:=fun z hz q hq=>hlt q (by
        simp only[List.mem_flatMap]
        exact⟨y3,by simp,by rw[hy,List.mem_flatMap];exact⟨z,hz,hq⟩⟩)
       obtain⟨l0,i0,j0⟩:=open_i64n Tryz.underlying62 (show DataW.trod enc Tryz.prog W 0 (fun _=>true) true n2 62 [c9]=some z0 from k0) (hz z0 (by simp))
       obtain⟨l1,i1,_⟩:=open_i64n Tryz.underlying62 (show DataW.trod enc Tryz.prog W 0 (fun _=>true) true n2 62 [c10]=some z1 from k1) (hz z1 (by simp))
       obtain⟨l2,i2,_⟩:=open_i64n Tryz.underlying62 (show DataW.trod enc Tryz.prog W 0 (fun _=>true) true n2 62 [c11]=some z2 from k2) (hz z2 (by simp))
       obtain⟨l3,i3,_⟩:=open_i64n Tryz.underlying62 (show DataW.trod enc Tryz.prog W 0 (fun _=>true) true n2 62 [c12]=some z3 from k3) (hz z3 (by simp))
       exact⟨lr,b1,b2,eps,wd,ap,f,pq.1,pq.2,c9,c10,c11,c12,l0,l1,l2,l3,rfl,⟨wf_i64 v0,wf_i64 v1,wf_i64 v2,wf_i64 v3,wf_i64 v4,wf_i64 w1⟩,⟨i0,i1,i2,i3⟩,j0⟩
end
def IsRs (w:World) (v:Value) (ls:List (List Int)):Prop:=∃A c,v= .slice A ls.length c∧ls.length≤c∧c≤9223372036854775807∧(0<ls.length→∃ad,A=some ad∧ad.block<w.heap.size∧∀i l,ls[i]?=some l→∃u,w.cell? (ad.add i)=some u∧IsI w u l)
theorem IsRs.len {w:World} {v:Value} {ls:List (List Int)} (h:IsRs w v ls):∃A c,v= .slice A ls.length c:=by
 obtain⟨A,c,rfl,_⟩:=h;exact⟨A,c,rfl⟩
theorem IsRs.at_ {w:World} {A:Option Addr} {n c i:Nat} {ls:List (List Int)} (h:IsRs w (.slice A n c) ls) {l:List Int} (hi:ls[i]?=some l):∃ad B C,A=some ad∧w.cell? (ad.add i)=some (.slice B l.length C)∧IsI w (.slice B l.length C) l:=by
 obtain⟨A',c',e,_,_,r⟩:=h
 have hlt:=(List.getElem?_eq_some_iff.1 hi).1
 obtain⟨ad,rfl,_,hc⟩:=r (by omega)
 obtain⟨u,k1,k2⟩:=hc i l hi
 obtain⟨B,C,rfl,_⟩:=id k2
 injection e with e1
 exact⟨ad,B,C,e1,k1,k2⟩
section
variable {H:Type} {enc:TypeId×Value→H} {W:World}
theorem cells_keep2:Tryz.prog.cellsOf 85=8:=by kernel_rfl
theorem open_keep4c {fuel:Nat} {c0 c1 c2 c3:Value} {x:DataW H×List MemPlace} (h:DataW.trod enc Tryz.prog W 0 (fun _=>true) true fuel 23 [c0,c1,c2,c3]=some x):
 ∃k z m o:Int,c0= .int .i64 k∧c1= .int .i64 z∧c2= .int .i64 m∧c3= .int .i64 o:=by
 obtain⟨xs,n,_,rfl,_,hlen,hg⟩:=DataW.trod_struct Tryz.underlying23 h
 match xs,hlen with
 | [z0, z1, z2, z3], _ =>
   have b0:DataW.trod enc Tryz.prog W 0 (fun _=>true) true n 3 (([c0,c1,c2,c3].drop 0).take (Tryz.prog.cellsOf 3))=some z0:=hg 0 _ rfl
   have b1:DataW.trod enc Tryz.prog W 0 (fun _=>true) true n 3 (([c0,c1,c2,c3].drop 1).take (Tryz.prog.cellsOf 3))=some z1:=hg 1 _ rfl
   have b2:DataW.trod enc Tryz.prog W 0 (fun _=>true) true n 3 (([c0,c1,c2,c3].drop 2).take (Tryz.prog.cellsOf 3))=some z2:=hg 2 _ rfl
   have b3:DataW.trod enc Tryz.prog W 0 (fun _=>true) true n 2 (([c0,c1,c2,c3].drop 3).take (Tryz.prog.cellsOf 2))=some z3:=hg 3 _ rfl
   rw[cells_i64k] at b3
   rw[cells_intk] at b0 b1 b2
   obtain⟨k,f0,_,_⟩:=DataW.trod_int Tryz.underlying3 b0
   obtain⟨z,f1,_,_⟩:=DataW.trod_int Tryz.underlying3 b1
   obtain⟨m,f2,_,_⟩:=DataW.trod_int Tryz.underlying3 b2
   obtain⟨o,f3,_,_⟩:=DataW.trod_int Tryz.underlying2 b3
   simp at f0 f1 f2 f3
   subst f0 f1 f2 f3
   exact⟨k,z,m,o,rfl,rfl,rfl,rfl⟩
theorem open_keep2 {base:Nat} {v:Value} {d:DataW H} {p:List MemPlace} (hv:Value.okWide Tryz.prog W .any base 85 v) (h:DataW.Trod enc Tryz.prog W 0 (fun _=>true) true 85 v d p):
 ∃k z m o k' z' m' o':Int,v= .agg #[.int .i64 k,.int .i64 z,.int .i64 m,.int .i64 o,.int .i64 k',.int .i64 z',.int .i64 m',.int .i64 o']:=by
 obtain⟨⟨l⟩,rfl,hsz⟩:=okWide_arr Tryz.underlying85 hv
 rw[cells_keep2] at hsz
 match l,hsz with
 | [c0, c1, c2, c3, c4, c5, c6, c7], _ =>
   obtain⟨fuel,hf⟩:=h
   obtain⟨xs,m,_,hxp,_,hl,h1⟩:=DataW.trod_array Tryz.underlying85 hf
   match xs,hl with
   | [y0, y1], _ =>
     have a0:DataW.trod enc Tryz.prog W 0 (fun _=>true) true m 23 (([c0,c1,c2,c3,c4,c5,c6,c7].drop (0*Tryz.prog.cellsOf 23)).take (Tryz.prog.cellsOf 23))=some y0:=h1 0 (by omega)
     have a1:DataW.trod enc Tryz.prog W 0 (fun _=>true) true m 23 (([c0,c1,c2,c3,c4,c5,c6,c7].drop (1*Tryz.prog.cellsOf 23)).take (Tryz.prog.cellsOf 23))=some y1:=h1 1 (by omega)
     rw[cells_keep] at a0 a1
     obtain⟨k,z,m,o,rfl,rfl,rfl,rfl⟩:=open_keep4c (show DataW.trod enc Tryz.prog W 0 (fun _=>true) true _ 23 [c0,c1,c2,c3]=some y0 from a0)
     obtain⟨k',z',m',o',rfl,rfl,rfl,rfl⟩:=open_keep4c (show DataW.trod enc Tryz.prog W 0 (fun _=>true) true _ 23 [c4,c5,c6,c7]=some y1 from a1)
     exact⟨k,z,m,o,k',z',m',o',rfl⟩
theorem open_rows2 {base:Nat} {v:Value} {d:DataW H} {p:List MemPlace} (hv:Value.okWide Tryz.prog W .any base 86 v) (h:DataW.Trod enc Tryz.prog W 0 (fun _=>true) true 86 v d p)
 (hlt:∀x∈p,x.block<W.heap.size):∃ls,IsRs W v ls∧∀l∈ls,AllIn l:=by
 obtain⟨a0,len,cap,rfl⟩:=okWide_slice Tryz.underlying86 hv
 obtain⟨fuel,hf⟩:=h
 rcases open_slice1 Tryz.underlying86 cells_sli64 hf with ⟨hcs,hx⟩ | ⟨a,len',cap',m,n,V,D,Pl,hcs,_,hl,hm,hmm,hx,hi⟩
 ·simp[Value.cells] at hcs
  obtain⟨rfl,rfl,rfl⟩:=hcs
  exact⟨[],⟨none,0,rfl,Nat.le_refl _,by omega,fun h0=>by simp at h0⟩,by simp⟩
 ·simp[Value.cells] at hcs
  obtain⟨rfl,rfl,rfl⟩:=hcs
  simp only[Prod.mk.injEq] at hx
  obtain⟨_,rfl⟩:=hx
  simp only[if_true] at hmm
  subst hmm
  unfold maxLen at hm
  have hel:∀i,i<len→∃l:List Int,W.cell? (a.add i)=some (V i)∧IsI W (V i) l∧AllIn l:=by
   intro i him
   obtain⟨hc,ht⟩:=hi i (by omega)
   obtain⟨l,h1,h2⟩:=open_i64n Tryz.underlying62 ht (fun q hq=>hlt q (List.mem_append_right _ (List.mem_flatMap.2 ⟨i,List.mem_range.2 (by omega),hq⟩)))
   exact⟨l,hc,h1,h2⟩
  obtain⟨ls,hls,hp⟩:=list_of len hel
  refine ⟨ls,⟨some a,m,by rw[hls],by omega,by omega,fun h0=>⟨a,rfl,?_,fun i l h=>⟨_,(hp i l h).1,(hp i l h).2.1⟩⟩⟩,fun l hl=>?_⟩
  ·obtain⟨b,off,spot⟩:=a
   have hx:=hp 0 ls[0] (List.getElem?_eq_getElem (by omega))
   have hspot:spot=none:=by simpa [Addr.add] using World.cell?_spot hx.1
   subst hspot
   exact hlt (.cell b off) (List.mem_append_left _ (MemPlace.mem_row.2 ⟨0,by omega,by simp⟩))
  ·obtain⟨i,hi'⟩:=List.getElem?_of_mem hl
   exact (hp i l hi').2.2
end
end Go.Proofs.YtdnjdglekifhpaaGreat
namespace Go.Proofs.YtdnjdglekifhpaaGreat
open Go.RowKit
attribute [local go_sem ↓] Go.wp_at_zero Go.wp_at_succ
theorem powers_any (lr b1 b2 eps wd:Int) (apart:Bool) (f:Nat) (p0 p1:Int) (w:World) (hf:f≤40) (ib1:In64 b1) (ib2:In64 b2) (ip0:In64 p0) (ip1:In64 p1):
 Calls Tryz.prog 43 #[.agg #[.int .i64 lr,.int .i64 b1,.int .i64 b2,.int .i64 eps,.int .i64 wd,.bool apart],.int .i64 f,.agg #[.int .i64 p0,.int .i64 p1]] w fun e w'=>(∃q0 q1,e= .returned (.agg #[.int .i64 q0,.int .i64 q1])∧In64 q0∧In64 q1)∧Below w.heap.size w w':=by
 have hM1:=fun w=>fmul_any p0 b1 f hf ip0.1 ip0.2 ib1.1 ib1.2 w
 have hM2:=fun w=>fmul_any p1 b2 f hf ip1.1 ip1.2 ib2.1 ib2.2 w
 have k1:=fitV_in (mulZ p0 b1 f)
 have k2:=fitV_in (mulZ p1 b2 f)
 generalize fitV (mulZ p0 b1 f)=q0 at *
 generalize fitV (mulZ p1 b2 f)=q1 at *
 generalize fitE (mulZ p0 b1 f)=e0 at *
 generalize fitE (mulZ p1 b2 f)=e1 at *
 clear ip0 ip1 ib1 ib2
 obtain⟨g,Y2,hA,hP,hR,hB,hgw,EY⟩:=boxes3 w 61 #[.int .i64 lr,.int .i64 b1,.int .i64 b2,.int .i64 eps,.int .i64 wd,.bool apart] 34 #[.int .i64 p0,.int .i64 p1] 34 #[.int .i64 0,.int .i64 0]
 obtain⟨c0,c1,c2,c3,c4,c5⟩:=hA.q6
 obtain⟨c6,c7⟩:=hP.q2
 obtain⟨c8,c9⟩:=hR.q2
 go_enter Tryz.func43,Tryz.ntmps43
 go_wp2_with fail
 rw[←EY.out.2,←EY.out.1]
 refine (hM1 _).mono ?_
 rintro e w22 ⟨rfl,b22⟩
 replace hA:=hA.b b22
 replace hP:=hP.b b22
 replace hR:=hR.b b22
 replace hB:=bOn hB b22
 clear c0 c1 c2 c3 c4 c5 c6 c7 c8 c9
 obtain⟨c10,c11,c12,c13,c14,c15⟩:=hA.q6
 obtain⟨c16,c17⟩:=hP.q2
 obtain⟨c18,c19⟩:=hR.q2
 go_wp2_with fail
 refine (hM2 _).mono ?_
 rintro e w24 ⟨rfl,b24⟩
 replace hA:=hA.b b24
 replace hP:=hP.b b24
 replace hR:=hR.b b24
 replace hB:=bOn hB b24
 clear c10 c11 c12 c13 c14 c15 c16 c17 c18 c19
 obtain⟨c20,c21,c22,c23,c24,c25⟩:=hA.q6
 obtain⟨c26,c27⟩:=hP.q2
 obtain⟨c28,c29⟩:=hR.q2
 obtain⟨W8,eW,f1,f2,f3,f4⟩:=fill2 hR (.int .i64 q0) (.int .i64 q1) (by simp[noU])
 have xf:=hR.frozen
 obtain⟨u0,u1⟩:=f1.q2
 replace hB:=f4 _ _ (by omega) hB
 have EW:=Lib.hid eW
 clear eW f1 f2 f3 f4
 go_wp2_with fail
 rw[←EW.out]
 exact bodyPost_ret (v:= .agg #[.int .i64 q0,.int .i64 q1]) (by simp[results,Tryz.results43,go_sem,u0,u1]) rfl ⟨⟨_,_,rfl,k1,k2⟩,hB⟩
end Go.Proofs.YtdnjdglekifhpaaGreat
namespace Go.Proofs.YtdnjdglekifhpaaGreat
open Go.RowKit
section
variable {w w' W:World} {v:Value} {X:Nat} {t:TypeId} {cs:Array Value}
def Off (X:Nat) (v:Value):Prop:=∀A n c,v= .slice (some A) n c→0<n→A.block≠X
theorem blk_ne {g:Nat} {t':TypeId} {cs':Array Value} (h:w.heap[g]?=some (.cells cs' t' (0,0))) (hX:Blk w X t cs) (ht:t≠t'):g≠X:=by
 intro e
 subst e
 have hX':w.heap[g]?=_:=hX
 rw[hX'] at h
 injection h with h
 injection h with _ h
 exact ht h
theorem off_arr {l:List Int} (h:ArrI w v l) (hX:Blk w X t cs) (ht:t≠2):Off X v:=by
 obtain⟨g,n,rfl,_,_,h⟩:=h
 intro A n' c e _
 injection e with e
 injection e with e
 subst e
 exact blk_ne h hX ht
theorem off_ownsI {B n:Nat} {xs:List Value} (h:w.ownsRow B 2 1 v n xs) (hX:Blk w X t cs) (ht:t≠2):Off X v:=by
 rcases h.2 with ⟨rfl,_⟩ | ⟨g,cap,cur,rfl,_,hg,_⟩
 ·intro A n' c e;cases e
 ·intro A n' c e _
  injection e with e
  injection e with e
  subst e
  exact blk_ne hg hX ht
theorem OwnQs.neT {B:Nat} {rs:List Rat} (h:OwnQs w B v rs) (hX:Blk w X t cs) (ht:t≠32):v.ownBlock≠some X:=by
 obtain⟨es,_,h2,_⟩:=h
 rcases h2.2 with ⟨rfl,_⟩ | ⟨g,cap,cur,rfl,_,hg,_⟩
 ·simp[Value.ownBlock]
 ·intro e
  have :g=X:=by simpa [Value.ownBlock] using e
  exact blk_ne hg hX ht this
theorem off_own {B:Nat} {rs:List Rat} (h:OwnQs w B v rs) (hX:Blk w X t cs) (ht:t≠32):Off X v:=by
 intro A n c e _ e2
 exact h.neT hX ht (by rw[e,←e2];rfl)
theorem off_arg {l:List Int} (h:IsI w v l) (hX:w.heap.size≤X):Off X v:=by
 obtain⟨A,c,rfl,_,_,_,h4⟩:=h
 intro A' n' c' e hn e2
 injection e with e1 e3
 subst e1 e3
 obtain⟨ad,e4,hb,_⟩:=h4 hn
 injection e4 with e4
 subst e4
 omega
theorem ArrI.fillT {l:List Int} (h:ArrI w v l) (hX:Blk w X t cs) (ht:t≠2) (kb:∀g t' cs',Blk w g t' cs'→g≠X→Blk W g t' cs'):ArrI W v l:=by
 obtain⟨g,n,e,h1,h2,h3⟩:=h
 exact⟨g,n,e,h1,h2,kb _ _ _ h3 (blk_ne h3 hX ht)⟩
theorem arr_new (w:World) (n:Nat) (hn:n≤9223372036854775807):ArrI (w.alloc (.cells (is (List.replicate n 0)).toArray 2)) (.slice (some ⟨w.heap.size,0,none⟩) n n) (List.replicate n 0):=
 ⟨_,n,rfl,by simp,hn,Blk.new w _ _⟩
theorem IsI.stay {l:List Int} (h:IsI w v l) (ho:Off X v) (hk:∀k,k≠X→W.heap[k]?=w.heap[k]?) (hs:w.heap.size≤W.heap.size):IsI W v l:=by
 obtain⟨A,c,rfl,h1,h2,h3,h4⟩:=h
 refine ⟨A,c,rfl,h1,h2,h3,fun hn=>?_⟩
 obtain⟨ad,rfl,hb,hc⟩:=h4 hn
 refine ⟨ad,rfl,Nat.lt_of_lt_of_le hb hs,fun j y hj=>?_⟩
 rw[←hc j y hj]
 exact World.cell?_of_block (hk _ (by rw[block_of_add];exact ho ad _ _ rfl hn))
theorem IsQs.stay {rs:List Rat} (h:IsQs w v rs) (ho:Off X v) (hk:∀k,k≠X→W.heap[k]?=w.heap[k]?) (hs:w.heap.size≤W.heap.size) (kz:∀v l,IsL w v l→IsL W v l):IsQs W v rs:=by
 obtain⟨es,A,c,rfl,h2,h3,h4,h5,h6⟩:=h
 refine ⟨es,A,c,rfl,h2,h3,h4.kept (fun v n hn=>kz v _ hn),h5,fun hn=>?_⟩
 obtain⟨ad,rfl,hb,hc⟩:=h6 hn
 refine ⟨ad,rfl,Nat.lt_of_lt_of_le hb hs,fun j y hj=>?_⟩
 rw[←hc j y hj]
 exact World.cell?_of_block (hk _ (by rw[block_of_add];exact ho ad _ _ rfl hn))
def Off4 (a b c d:Nat) (v:Value):Prop:=Off a v∧Off b v∧Off c v∧Off d v
def Rows7 (w:World) (vW vM vV a1 b1 a2 b2:Value) (Ws Ms Vs:List Int) (r1 q1 r2 q2:List Rat):Prop:=IsI w vW Ws∧IsI w vM Ms∧IsI w vV Vs∧IsQs w a1 r1∧IsQs w b1 q1∧IsQs w a2 r2∧IsQs w b2 q2
def Offs7 (a b c d:Nat) (vW vM vV a1 b1 a2 b2:Value):Prop:=Off4 a b c d vW∧Off4 a b c d vM∧Off4 a b c d vV∧Off4 a b c d a1∧Off4 a b c d b1∧Off4 a b c d a2∧Off4 a b c d b2
variable {vW vM vV a1 b1 a2 b2:Value} {Ws Ms Vs:List Int} {r1 q1 r2 q2:List Rat}
theorem Rows7.below (h:Rows7 w vW vM vV a1 b1 a2 b2 Ws Ms Vs r1 q1 r2 q2) (hb:Below w.heap.size w w'):Rows7 w' vW vM vV a1 b1 a2 b2 Ws Ms Vs r1 q1 r2 q2:=by
 obtain⟨k1,k2,k3,k4,k5,k6,k7⟩:=h
 exact⟨k1.below hb,k2.below hb,k3.below hb,k4.below hb,k5.below hb,k6.below hb,k7.below hb⟩
theorem Rows7.stay (h:Rows7 w vW vM vV a1 b1 a2 b2 Ws Ms Vs r1 q1 r2 q2) (ho:Off X vW∧Off X vM∧Off X vV∧Off X a1∧Off X b1∧Off X a2∧Off X b2) (hk:∀k,k≠X→W.heap[k]?=w.heap[k]?) (hs:w.heap.size≤W.heap.size) (kz:∀v l,IsL w v l→IsL W v l):
 Rows7 W vW vM vV a1 b1 a2 b2 Ws Ms Vs r1 q1 r2 q2:=by
 obtain⟨k1,k2,k3,k4,k5,k6,k7⟩:=h
 obtain⟨o1,o2,o3,o4,o5,o6,o7⟩:=ho
 exact⟨k1.stay o1 hk hs,k2.stay o2 hk hs,k3.stay o3 hk hs,k4.stay o4 hk hs kz,k5.stay o5 hk hs kz,k6.stay o6 hk hs kz,k7.stay o7 hk hs kz⟩
theorem Offs7.all {a b c d:Nat} (h:Offs7 a b c d vW vM vV a1 b1 a2 b2):(Off a vW∧Off a vM∧Off a vV∧Off a a1∧Off a b1∧Off a a2∧Off a b2)∧(Off b vW∧Off b vM∧Off b vV∧Off b a1∧Off b b1∧Off b a2∧Off b b2)∧(Off c vW∧Off c vM∧Off c vV∧Off c a1∧Off c b1∧Off c a2∧Off c b2)∧(Off d vW∧Off d vM∧Off d vV∧Off d a1∧Off d b1∧Off d a2∧Off d b2):=by
 obtain⟨⟨x1,y1,z1,u1⟩,⟨x2,y2,z2,u2⟩,⟨x3,y3,z3,u3⟩,⟨x4,y4,z4,u4⟩,⟨x5,y5,z5,u5⟩,⟨x6,y6,z6,u6⟩,⟨x7,y7,z7,u7⟩⟩:=h
 exact⟨⟨x1,x2,x3,x4,x5,x6,x7⟩,⟨y1,y2,y3,y4,y5,y6,y7⟩,⟨z1,z2,z3,z4,z5,z6,z7⟩,⟨u1,u2,u3,u4,u5,u6,u7⟩⟩
theorem fillTwo {R:Nat} {a b:Value} (hR:Blk w R t #[a,b]) (x y:Value) (hcs:(#[a,b]:Array Value).all noU=true):∃W,W=(w.setCell ⟨R,0,none⟩ x).setCell ⟨R,1,none⟩ y∧Filled w W R t #[x,y]∧(∀k,k≠R→W.heap[k]?=w.heap[k]?)∧w.heap.size≤W.heap.size:=by
 obtain⟨W,e,hf⟩:=fill2 hR x y hcs
 subst e
 exact⟨_,rfl,hf,fun k hk=>(Below.heap_setCell _ ⟨R,1,none⟩ y k hk).trans (Below.heap_setCell w ⟨R,0,none⟩ x k hk),by simp[World.setCell]⟩
theorem fillSix {R:Nat} {a b c d e f:Value} (hR:Blk w R t #[a,b,c,d,e,f]) (x:Value) (hcs:(#[a,b,c,d,e,f]:Array Value).all noU=true):∃W,W=w.setCell ⟨R,5,none⟩ x∧Filled w W R t #[a,b,c,d,e,x]:=
 ⟨_,rfl,by simpa using hR.set_ 5 x,fun v l h=>h.keepBlk hR hcs (fun k hk=>Below.heap_setCell w ⟨R,5,none⟩ x k hk) (by simp[World.setCell]),fun g t' cs h hne=>h.far (p:=⟨R,5,none⟩) hne x,fun B w0 hBR hB=>hB.setCell (p:=⟨R,5,none⟩) hBR x⟩
theorem Blk.q8 {G:Nat} {x0 x1 x2 x3 x4 x5 x6 x7:Value} (hb:Blk w G t #[x0,x1,x2,x3,x4,x5,x6,x7]):w.cell? ⟨G,0,none⟩=some x0∧w.cell? ⟨G,1,none⟩=some x1∧w.cell? ⟨G,2,none⟩=some x2∧w.cell? ⟨G,3,none⟩=some x3∧w.cell? ⟨G,4,none⟩=some x4∧w.cell? ⟨G,5,none⟩=some x5∧w.cell? ⟨G,6,none⟩=some x6∧w.cell? ⟨G,7,none⟩=some x7:=
 ⟨hb.cell 0,hb.cell 1,hb.cell 2,hb.cell 3,hb.cell 4,hb.cell 5,hb.cell 6,hb.cell 7⟩
end
theorem kept_some (k z m o:Int) (A:Option Addr) (C:Nat) (l:List Int) (w:World) (h:IsI w (.slice A l.length C) l) (hi:∀x∈l,I64 x) (hn:l.length≤4000):
 Calls Tryz.prog 45 #[.agg #[.int .i64 k,.int .i64 z,.int .i64 m,.int .i64 o],.slice A l.length C] w fun e w'=>∃a b c,e= .returned (.tuple #[a,b,.bool c])∧Below w.heap.size w w':=by
 rcases ofE_or (k:=k) (z:=z) (m:=m) (o:=o) (l:=l) (by omega) with he | he
 ·exact (kept_yes k z m o A C l w h hi hn he).mono fun _ _ ⟨_,_,e,_,_,hB⟩=>⟨_,_,_,e,hB⟩
 ·exact (kept_no k z m o A C l w h hi he).mono fun _ _ ⟨e,hB⟩=>⟨_,_,_,e,hB⟩
end Go.Proofs.YtdnjdglekifhpaaGreat
namespace Go.Proofs.YtdnjdglekifhpaaGreat
open Go.RowKit
abbrev Rows7.b:= @Rows7.below
end Go.Proofs.YtdnjdglekifhpaaGreat
namespace Go.Proofs.YtdnjdglekifhpaaGreat
open Go.RowKit
attribute [local go_sem ↓] Go.wp_at_zero Go.wp_at_succ
theorem raright_f0 (lr b1 b2 eps wd f:Int) (apart:Bool) (w:World) (h:f<0):
 Calls Tryz.prog 41 #[.agg #[.int .i64 lr,.int .i64 b1,.int .i64 b2,.int .i64 eps,.int .i64 wd,.bool apart],.int .i64 f] w fun e w'=>e= .returned (.bool false)∧Below w.heap.size w w':=by
 have d0:decide (f<0)=true:=decide_eq_true h
 obtain⟨g,Y0,hA,hB,hgw,EY⟩:=boxes1 w 61 #[.int .i64 lr,.int .i64 b1,.int .i64 b2,.int .i64 eps,.int .i64 wd,.bool apart]
 obtain⟨c0,c1,c2,c3,c4,c5⟩:=hA.q6
 go_enter Tryz.func41,Tryz.ntmps41
 go_wp2_with fail
 rw[←EY.out.2,←EY.out.1]
 go_wp2
 go_ret
 exact⟨rfl,by first | exact hB | (rw[EY.out.1];exact hB)⟩
theorem raright_f1 (lr b1 b2 eps wd f:Int) (apart:Bool) (w:World) (h0:¬f<0) (h:40<f):
 Calls Tryz.prog 41 #[.agg #[.int .i64 lr,.int .i64 b1,.int .i64 b2,.int .i64 eps,.int .i64 wd,.bool apart],.int .i64 f] w fun e w'=>e= .returned (.bool false)∧Below w.heap.size w w':=by
 have d0:decide (f<0)=false:=decide_eq_false h0
 have d1:decide (40<f)=true:=decide_eq_true h
 obtain⟨g,Y0,hA,hB,hgw,EY⟩:=boxes1 w 61 #[.int .i64 lr,.int .i64 b1,.int .i64 b2,.int .i64 eps,.int .i64 wd,.bool apart]
 obtain⟨c0,c1,c2,c3,c4,c5⟩:=hA.q6
 go_enter Tryz.func41,Tryz.ntmps41
 go_wp2_with fail
 rw[←EY.out.2,←EY.out.1]
 go_wp2
 go_ret
 exact⟨rfl,by first | exact hB | (rw[EY.out.1];exact hB)⟩
theorem raright_c0 (lr b1 b2 eps wd f:Int) (apart:Bool) (w:World) (f0:0≤f) (f1:f≤40) (hx:¬(0≤lr)):
 Calls Tryz.prog 41 #[.agg #[.int .i64 lr,.int .i64 b1,.int .i64 b2,.int .i64 eps,.int .i64 wd,.bool apart],.int .i64 f] w fun e w'=>e= .returned (.bool false)∧Below w.heap.size w w':=by
 obtain⟨k,rfl⟩:∃k:Nat,f=(k:Int):=⟨f.toNat,by omega⟩
 have hk:k≤40:=by omega
 try simp only[Int.toNat_natCast] at *
 have d0:decide ((k:Int)<0)=false:=decide_eq_false (by omega)
 have d1:decide (40<(k:Int))=false:=decide_eq_false (by omega)
 have hO:=fun w=>one17_any k hk w
 have e0:decide (lr<0)=true:=decide_eq_true (by omega)
 generalize 2^k=P at *
 clear hx
 obtain⟨g,Y0,hA,hB,hgw,EY⟩:=boxes1 w 61 #[.int .i64 lr,.int .i64 b1,.int .i64 b2,.int .i64 eps,.int .i64 wd,.bool apart]
 obtain⟨c0,c1,c2,c3,c4,c5⟩:=hA.q6
 go_enter Tryz.func41,Tryz.ntmps41
 go_wp2_with fail
 rw[←EY.out.2,←EY.out.1]
 go_wp2
 go_ret
 exact⟨rfl,by first | exact hB | (rw[EY.out.1];exact hB)⟩
theorem raright_c1 (lr b1 b2 eps wd f:Int) (apart:Bool) (w:World) (f0:0≤f) (f1:f≤40) (h0:0≤lr) (hx:¬(0<eps)):
 Calls Tryz.prog 41 #[.agg #[.int .i64 lr,.int .i64 b1,.int .i64 b2,.int .i64 eps,.int .i64 wd,.bool apart],.int .i64 f] w fun e w'=>e= .returned (.bool false)∧Below w.heap.size w w':=by
 obtain⟨k,rfl⟩:∃k:Nat,f=(k:Int):=⟨f.toNat,by omega⟩
 have hk:k≤40:=by omega
 try simp only[Int.toNat_natCast] at *
 have d0:decide ((k:Int)<0)=false:=decide_eq_false (by omega)
 have d1:decide (40<(k:Int))=false:=decide_eq_false (by omega)
 have hO:=fun w=>one17_any k hk w
 have e0:decide (lr<0)=false:=decide_eq_false (by omega)
 have e1:decide (eps<1)=true:=decide_eq_true (by omega)
 generalize 2^k=P at *
 clear h0 hx
 obtain⟨g,Y0,hA,hB,hgw,EY⟩:=boxes1 w 61 #[.int .i64 lr,.int .i64 b1,.int .i64 b2,.int .i64 eps,.int .i64 wd,.bool apart]
 obtain⟨c0,c1,c2,c3,c4,c5⟩:=hA.q6
 go_enter Tryz.func41,Tryz.ntmps41
 go_wp2_with fail
 rw[←EY.out.2,←EY.out.1]
 go_wp2
 go_ret
 exact⟨rfl,by first | exact hB | (rw[EY.out.1];exact hB)⟩
theorem raright_c2 (lr b1 b2 eps wd f:Int) (apart:Bool) (w:World) (f0:0≤f) (f1:f≤40) (h0:0≤lr) (h1:0<eps) (hx:¬(0≤b1)):
 Calls Tryz.prog 41 #[.agg #[.int .i64 lr,.int .i64 b1,.int .i64 b2,.int .i64 eps,.int .i64 wd,.bool apart],.int .i64 f] w fun e w'=>e= .returned (.bool false)∧Below w.heap.size w w':=by
 obtain⟨k,rfl⟩:∃k:Nat,f=(k:Int):=⟨f.toNat,by omega⟩
 have hk:k≤40:=by omega
 try simp only[Int.toNat_natCast] at *
 have d0:decide ((k:Int)<0)=false:=decide_eq_false (by omega)
 have d1:decide (40<(k:Int))=false:=decide_eq_false (by omega)
 have hO:=fun w=>one17_any k hk w
 have e0:decide (lr<0)=false:=decide_eq_false (by omega)
 have e1:decide (eps<1)=false:=decide_eq_false (by omega)
 have e2:decide (0≤b1)=false:=decide_eq_false hx
 generalize 2^k=P at *
 clear h0 h1 hx
 obtain⟨g,Y0,hA,hB,hgw,EY⟩:=boxes1 w 61 #[.int .i64 lr,.int .i64 b1,.int .i64 b2,.int .i64 eps,.int .i64 wd,.bool apart]
 obtain⟨c0,c1,c2,c3,c4,c5⟩:=hA.q6
 go_enter Tryz.func41,Tryz.ntmps41
 go_wp2_with fail
 rw[←EY.out.2,←EY.out.1]
 go_wp2_with fail
 refine (hO _).mono ?_
 rintro e w2 ⟨rfl,rfl⟩
 go_wp2
 go_ret
 exact⟨rfl,by first | exact hB | (rw[EY.out.1];exact hB)⟩
theorem raright_c3 (lr b1 b2 eps wd f:Int) (apart:Bool) (w:World) (f0:0≤f) (f1:f≤40) (h0:0≤lr) (h1:0<eps) (h2:0≤b1) (hx:¬(b1<((2^f.toNat:Nat):Int))):
 Calls Tryz.prog 41 #[.agg #[.int .i64 lr,.int .i64 b1,.int .i64 b2,.int .i64 eps,.int .i64 wd,.bool apart],.int .i64 f] w fun e w'=>e= .returned (.bool false)∧Below w.heap.size w w':=by
 obtain⟨k,rfl⟩:∃k:Nat,f=(k:Int):=⟨f.toNat,by omega⟩
 have hk:k≤40:=by omega
 try simp only[Int.toNat_natCast] at *
 have d0:decide ((k:Int)<0)=false:=decide_eq_false (by omega)
 have d1:decide (40<(k:Int))=false:=decide_eq_false (by omega)
 have hO:=fun w=>one17_any k hk w
 have e0:decide (lr<0)=false:=decide_eq_false (by omega)
 have e1:decide (eps<1)=false:=decide_eq_false (by omega)
 have e2:decide (0≤b1)=true:=decide_eq_true h2
 have e3:decide (b1<((2^k:Nat):Int))=false:=decide_eq_false hx
 generalize 2^k=P at *
 clear h0 h1 h2 hx
 obtain⟨g,Y0,hA,hB,hgw,EY⟩:=boxes1 w 61 #[.int .i64 lr,.int .i64 b1,.int .i64 b2,.int .i64 eps,.int .i64 wd,.bool apart]
 obtain⟨c0,c1,c2,c3,c4,c5⟩:=hA.q6
 go_enter Tryz.func41,Tryz.ntmps41
 go_wp2_with fail
 rw[←EY.out.2,←EY.out.1]
 go_wp2_with fail
 refine (hO _).mono ?_
 rintro e w2 ⟨rfl,rfl⟩
 go_wp2
 go_ret
 exact⟨rfl,by first | exact hB | (rw[EY.out.1];exact hB)⟩
theorem raright_c4 (lr b1 b2 eps wd f:Int) (apart:Bool) (w:World) (f0:0≤f) (f1:f≤40) (h0:0≤lr) (h1:0<eps) (h2:0≤b1) (h3:b1<((2^f.toNat:Nat):Int)) (hx:¬(0≤b2)):
 Calls Tryz.prog 41 #[.agg #[.int .i64 lr,.int .i64 b1,.int .i64 b2,.int .i64 eps,.int .i64 wd,.bool apart],.int .i64 f] w fun e w'=>e= .returned (.bool false)∧Below w.heap.size w w':=by
 obtain⟨k,rfl⟩:∃k:Nat,f=(k:Int):=⟨f.toNat,by omega⟩
 have hk:k≤40:=by omega
 try simp only[Int.toNat_natCast] at *
 have d0:decide ((k:Int)<0)=false:=decide_eq_false (by omega)
 have d1:decide (40<(k:Int))=false:=decide_eq_false (by omega)
 have hO:=fun w=>one17_any k hk w
 have e0:decide (lr<0)=false:=decide_eq_false (by omega)
 have e1:decide (eps<1)=false:=decide_eq_false (by omega)
 have e2:decide (0≤b1)=true:=decide_eq_true h2
 have e3:decide (b1<((2^k:Nat):Int))=true:=decide_eq_true h3
 have e4:decide (0≤b2)=false:=decide_eq_false hx
 generalize 2^k=P at *
 clear h0 h1 h2 h3 hx
 obtain⟨g,Y0,hA,hB,hgw,EY⟩:=boxes1 w 61 #[.int .i64 lr,.int .i64 b1,.int .i64 b2,.int .i64 eps,.int .i64 wd,.bool apart]
 obtain⟨c0,c1,c2,c3,c4,c5⟩:=hA.q6
 go_enter Tryz.func41,Tryz.ntmps41
 go_wp2_with fail
 rw[←EY.out.2,←EY.out.1]
 go_wp2_with fail
 refine (hO _).mono ?_
 rintro e w2 ⟨rfl,rfl⟩
 go_wp2
 go_ret
 exact⟨rfl,by first | exact hB | (rw[EY.out.1];exact hB)⟩
theorem raright_c5 (lr b1 b2 eps wd f:Int) (apart:Bool) (w:World) (f0:0≤f) (f1:f≤40) (h0:0≤lr) (h1:0<eps) (h2:0≤b1) (h3:b1<((2^f.toNat:Nat):Int)) (h4:0≤b2) (hx:¬(b2<((2^f.toNat:Nat):Int))):
 Calls Tryz.prog 41 #[.agg #[.int .i64 lr,.int .i64 b1,.int .i64 b2,.int .i64 eps,.int .i64 wd,.bool apart],.int .i64 f] w fun e w'=>e= .returned (.bool false)∧Below w.heap.size w w':=by
 obtain⟨k,rfl⟩:∃k:Nat,f=(k:Int):=⟨f.toNat,by omega⟩
 have hk:k≤40:=by omega
 try simp only[Int.toNat_natCast] at *
 have d0:decide ((k:Int)<0)=false:=decide_eq_false (by omega)
 have d1:decide (40<(k:Int))=false:=decide_eq_false (by omega)
 have hO:=fun w=>one17_any k hk w
 have e0:decide (lr<0)=false:=decide_eq_false (by omega)
 have e1:decide (eps<1)=false:=decide_eq_false (by omega)
 have e2:decide (0≤b1)=true:=decide_eq_true h2
 have e3:decide (b1<((2^k:Nat):Int))=true:=decide_eq_true h3
 have e4:decide (0≤b2)=true:=decide_eq_true h4
 have e5:decide (b2<((2^k:Nat):Int))=false:=decide_eq_false hx
 generalize 2^k=P at *
 clear h0 h1 h2 h3 h4 hx
 obtain⟨g,Y0,hA,hB,hgw,EY⟩:=boxes1 w 61 #[.int .i64 lr,.int .i64 b1,.int .i64 b2,.int .i64 eps,.int .i64 wd,.bool apart]
 obtain⟨c0,c1,c2,c3,c4,c5⟩:=hA.q6
 go_enter Tryz.func41,Tryz.ntmps41
 go_wp2_with fail
 rw[←EY.out.2,←EY.out.1]
 go_wp2_with fail
 refine (hO _).mono ?_
 rintro e w2 ⟨rfl,rfl⟩
 go_wp2
 go_ret
 exact⟨rfl,by first | exact hB | (rw[EY.out.1];exact hB)⟩
theorem raright_c6 (lr b1 b2 eps wd f:Int) (apart:Bool) (w:World) (f0:0≤f) (f1:f≤40) (h0:0≤lr) (h1:0<eps) (h2:0≤b1) (h3:b1<((2^f.toNat:Nat):Int)) (h4:0≤b2) (h5:b2<((2^f.toNat:Nat):Int)) (hx:¬(0≤wd)):
 Calls Tryz.prog 41 #[.agg #[.int .i64 lr,.int .i64 b1,.int .i64 b2,.int .i64 eps,.int .i64 wd,.bool apart],.int .i64 f] w fun e w'=>e= .returned (.bool false)∧Below w.heap.size w w':=by
 obtain⟨k,rfl⟩:∃k:Nat,f=(k:Int):=⟨f.toNat,by omega⟩
 have hk:k≤40:=by omega
 try simp only[Int.toNat_natCast] at *
 have d0:decide ((k:Int)<0)=false:=decide_eq_false (by omega)
 have d1:decide (40<(k:Int))=false:=decide_eq_false (by omega)
 have hO:=fun w=>one17_any k hk w
 have e0:decide (lr<0)=false:=decide_eq_false (by omega)
 have e1:decide (eps<1)=false:=decide_eq_false (by omega)
 have e2:decide (0≤b1)=true:=decide_eq_true h2
 have e3:decide (b1<((2^k:Nat):Int))=true:=decide_eq_true h3
 have e4:decide (0≤b2)=true:=decide_eq_true h4
 have e5:decide (b2<((2^k:Nat):Int))=true:=decide_eq_true h5
 have e6:decide (0≤wd)=false:=decide_eq_false hx
 generalize 2^k=P at *
 clear h0 h1 h2 h3 h4 h5 hx
 obtain⟨g,Y0,hA,hB,hgw,EY⟩:=boxes1 w 61 #[.int .i64 lr,.int .i64 b1,.int .i64 b2,.int .i64 eps,.int .i64 wd,.bool apart]
 obtain⟨c0,c1,c2,c3,c4,c5⟩:=hA.q6
 go_enter Tryz.func41,Tryz.ntmps41
 go_wp2_with fail
 rw[←EY.out.2,←EY.out.1]
 go_wp2_with fail
 refine (hO _).mono ?_
 rintro e w2 ⟨rfl,rfl⟩
 go_wp2
 go_ret
 exact⟨rfl,by first | exact hB | (rw[EY.out.1];exact hB)⟩
theorem raright_c7 (lr b1 b2 eps wd f:Int) (apart:Bool) (w:World) (f0:0≤f) (f1:f≤40) (h0:0≤lr) (h1:0<eps) (h2:0≤b1) (h3:b1<((2^f.toNat:Nat):Int)) (h4:0≤b2) (h5:b2<((2^f.toNat:Nat):Int)) (h6:0≤wd) (hx:¬(wd≤((2^f.toNat:Nat):Int))):
 Calls Tryz.prog 41 #[.agg #[.int .i64 lr,.int .i64 b1,.int .i64 b2,.int .i64 eps,.int .i64 wd,.bool apart],.int .i64 f] w fun e w'=>e= .returned (.bool false)∧Below w.heap.size w w':=by
 obtain⟨k,rfl⟩:∃k:Nat,f=(k:Int):=⟨f.toNat,by omega⟩
 have hk:k≤40:=by omega
 try simp only[Int.toNat_natCast] at *
 have d0:decide ((k:Int)<0)=false:=decide_eq_false (by omega)
 have d1:decide (40<(k:Int))=false:=decide_eq_false (by omega)
 have hO:=fun w=>one17_any k hk w
 have e0:decide (lr<0)=false:=decide_eq_false (by omega)
 have e1:decide (eps<1)=false:=decide_eq_false (by omega)
 have e2:decide (0≤b1)=true:=decide_eq_true h2
 have e3:decide (b1<((2^k:Nat):Int))=true:=decide_eq_true h3
 have e4:decide (0≤b2)=true:=decide_eq_true h4
 have e5:decide (b2<((2^k:Nat):Int))=true:=decide_eq_true h5
 have e6:decide (0≤wd)=true:=decide_eq_true h6
 have e7:decide (wd≤((2^k:Nat):Int))=false:=decide_eq_false hx
 generalize 2^k=P at *
 clear h0 h1 h2 h3 h4 h5 h6 hx
 obtain⟨g,Y0,hA,hB,hgw,EY⟩:=boxes1 w 61 #[.int .i64 lr,.int .i64 b1,.int .i64 b2,.int .i64 eps,.int .i64 wd,.bool apart]
 obtain⟨c0,c1,c2,c3,c4,c5⟩:=hA.q6
 go_enter Tryz.func41,Tryz.ntmps41
 go_wp2_with fail
 rw[←EY.out.2,←EY.out.1]
 go_wp2_with fail
 refine (hO _).mono ?_
 rintro e w2 ⟨rfl,rfl⟩
 go_wp2
 go_ret
 exact⟨rfl,by first | exact hB | (rw[EY.out.1];exact hB)⟩
theorem raright_c8 (lr b1 b2 eps wd f:Int) (apart:Bool) (w:World) (f0:0≤f) (f1:f≤40) (h0:0≤lr) (h1:0<eps) (h2:0≤b1) (h3:b1<((2^f.toNat:Nat):Int)) (h4:0≤b2) (h5:b2<((2^f.toNat:Nat):Int)) (h6:0≤wd) (h7:wd≤((2^f.toNat:Nat):Int)):
 Calls Tryz.prog 41 #[.agg #[.int .i64 lr,.int .i64 b1,.int .i64 b2,.int .i64 eps,.int .i64 wd,.bool apart],.int .i64 f] w fun e w'=>e= .returned (.bool true)∧Below w.heap.size w w':=by
 obtain⟨k,rfl⟩:∃k:Nat,f=(k:Int):=⟨f.toNat,by omega⟩
 have hk:k≤40:=by omega
 try simp only[Int.toNat_natCast] at *
 have d0:decide ((k:Int)<0)=false:=decide_eq_false (by omega)
 have d1:decide (40<(k:Int))=false:=decide_eq_false (by omega)
 have hO:=fun w=>one17_any k hk w
 have e0:decide (lr<0)=false:=decide_eq_false (by omega)
 have e1:decide (eps<1)=false:=decide_eq_false (by omega)
 have e2:decide (0≤b1)=true:=decide_eq_true h2
 have e3:decide (b1<((2^k:Nat):Int))=true:=decide_eq_true h3
 have e4:decide (0≤b2)=true:=decide_eq_true h4
 have e5:decide (b2<((2^k:Nat):Int))=true:=decide_eq_true h5
 have e6:decide (0≤wd)=true:=decide_eq_true h6
 have e7:decide (wd≤((2^k:Nat):Int))=true:=decide_eq_true h7
 generalize 2^k=P at *
 clear h0 h1 h2 h3 h4 h5 h6 h7
 obtain⟨g,Y0,hA,hB,hgw,EY⟩:=boxes1 w 61 #[.int .i64 lr,.int .i64 b1,.int .i64 b2,.int .i64 eps,.int .i64 wd,.bool apart]
 obtain⟨c0,c1,c2,c3,c4,c5⟩:=hA.q6
 go_enter Tryz.func41,Tryz.ntmps41
 go_wp2_with fail
 rw[←EY.out.2,←EY.out.1]
 go_wp2_with fail
 refine (hO _).mono ?_
 rintro e w2 ⟨rfl,rfl⟩
 go_wp2
 go_ret
 exact⟨rfl,by first | exact hB | (rw[EY.out.1];exact hB)⟩
theorem raright_any (lr b1 b2 eps wd f:Int) (apart:Bool) (w:World):
 Calls Tryz.prog 41 #[.agg #[.int .i64 lr,.int .i64 b1,.int .i64 b2,.int .i64 eps,.int .i64 wd,.bool apart],.int .i64 f] w fun e w'=>e= .returned (.bool (rightA lr b1 b2 eps wd f))∧Below w.heap.size w w':=by
 have no:¬(0≤f∧f≤40∧0≤lr∧0<eps∧(0≤b1∧b1<((2^f.toNat:Nat):Int))∧(0≤b2∧b2<((2^f.toNat:Nat):Int))∧0≤wd∧wd≤((2^f.toNat:Nat):Int))→rightA lr b1 b2 eps wd f=false:=fun h=>decide_eq_false h
 by_cases f0:f<0
 ·rw[no (by omega)];exact raright_f0 lr b1 b2 eps wd f apart w f0
 by_cases f1:40<f
 ·rw[no (by omega)];exact raright_f1 lr b1 b2 eps wd f apart w f0 f1
 by_cases h0:0≤lr;rotate_left
 ·rw[no (fun h=>h0 (h.2.2.1))];exact raright_c0 lr b1 b2 eps wd f apart w (by omega) (by omega) h0
 by_cases h1:0<eps;rotate_left
 ·rw[no (fun h=>h1 (h.2.2.2.1))];exact raright_c1 lr b1 b2 eps wd f apart w (by omega) (by omega) h0 h1
 by_cases h2:0≤b1;rotate_left
 ·rw[no (fun h=>h2 (h.2.2.2.2.1.1))];exact raright_c2 lr b1 b2 eps wd f apart w (by omega) (by omega) h0 h1 h2
 by_cases h3:b1<((2^f.toNat:Nat):Int);rotate_left
 ·rw[no (fun h=>h3 (h.2.2.2.2.1.2))];exact raright_c3 lr b1 b2 eps wd f apart w (by omega) (by omega) h0 h1 h2 h3
 by_cases h4:0≤b2;rotate_left
 ·rw[no (fun h=>h4 (h.2.2.2.2.2.1.1))];exact raright_c4 lr b1 b2 eps wd f apart w (by omega) (by omega) h0 h1 h2 h3 h4
 by_cases h5:b2<((2^f.toNat:Nat):Int);rotate_left
 ·rw[no (fun h=>h5 (h.2.2.2.2.2.1.2))];exact raright_c5 lr b1 b2 eps wd f apart w (by omega) (by omega) h0 h1 h2 h3 h4 h5
 by_cases h6:0≤wd;rotate_left
 ·rw[no (fun h=>h6 (h.2.2.2.2.2.2.1))];exact raright_c6 lr b1 b2 eps wd f apart w (by omega) (by omega) h0 h1 h2 h3 h4 h5 h6
 by_cases h7:wd≤((2^f.toNat:Nat):Int);rotate_left
 ·rw[no (fun h=>h7 (h.2.2.2.2.2.2.2))];exact raright_c7 lr b1 b2 eps wd f apart w (by omega) (by omega) h0 h1 h2 h3 h4 h5 h6 h7
 rw[show rightA lr b1 b2 eps wd f=true from decide_eq_true ⟨by omega,by omega,h0,h1,⟨h2,h3⟩,⟨h4,h5⟩,h6,h7⟩]
 exact raright_c8 lr b1 b2 eps wd f apart w (by omega) (by omega) h0 h1 h2 h3 h4 h5 h6 h7
theorem Blk.q13a {w:World} {G:Nat} {t:TypeId} {x0 x1 x2 x3 x4 x5 x6 x7 x8 x9 x10 x11 x12:Value} (hb:Blk w G t #[x0,x1,x2,x3,x4,x5,x6,x7,x8,x9,x10,x11,x12]):w.cell? ⟨G,0,none⟩=some x0∧w.cell? ⟨G,1,none⟩=some x1∧w.cell? ⟨G,2,none⟩=some x2∧w.cell? ⟨G,3,none⟩=some x3∧w.cell? ⟨G,4,none⟩=some x4∧w.cell? ⟨G,5,none⟩=some x5∧w.cell? ⟨G,6,none⟩=some x6∧w.cell? ⟨G,7,none⟩=some x7∧w.cell? ⟨G,8,none⟩=some x8∧w.cell? ⟨G,9,none⟩=some x9∧w.cell? ⟨G,10,none⟩=some x10∧w.cell? ⟨G,11,none⟩=some x11∧w.cell? ⟨G,12,none⟩=some x12:=
 ⟨hb.cell 0,hb.cell 1,hb.cell 2,hb.cell 3,hb.cell 4,hb.cell 5,hb.cell 6,hb.cell 7,hb.cell 8,hb.cell 9,hb.cell 10,hb.cell 11,hb.cell 12⟩
theorem TrackAdam_all (lr b1 b2 eps wd:Int) (apart:Bool) (f p0 p1:Int) (u1 u2 u3:Value) (k z m o k' z' m' o':Int) (AW:Option Addr) (CW:Nat) (Ws:List Int) (n:Nat) (GG:Option Addr) (GC:Nat) (gs:List (List Int)) (w:World) (ilr:In64 lr) (ib1:In64 b1) (ib2:In64 b2) (ieps:In64 eps) (iwd:In64 wd)
 (hu1:∃A a c,u1= .slice A a c) (hu2:∃A a c,u2= .slice A a c) (hu3:∃A a c,u3= .slice A a c) (hw:IsI w (.slice AW n CW) Ws) (hn:Ws.length=n) (aW0:AllIn Ws) (hg:IsRs w (.slice GG gs.length GC) gs) (hG:∀l∈gs,AllIn l):
 Calls Tryz.prog 9 #[.agg #[.int .i64 lr,.int .i64 b1,.int .i64 b2,.int .i64 eps,.int .i64 wd,.bool apart,.int .i64 f,.int .i64 p0,.int .i64 p1,.slice AW n CW,u1,u2,u3],.agg #[.int .i64 k,.int .i64 z,.int .i64 m,.int .i64 o,.int .i64 k',.int .i64 z',.int .i64 m',.int .i64 o'],.slice GG gs.length GC] w fun e w'=>e= .returned (.bool true)∧Below w.heap.size w w':=by
 obtain⟨U1,a1,C1,rfl⟩:=hu1
 obtain⟨U2,a2,C2,rfl⟩:=hu2
 obtain⟨U3,a3,C3,rfl⟩:=hu3
 have hA:=fun w=>alive20_any w
 obtain⟨g,Y1,h3,h4,hB,hgw,EY⟩:=boxes2 w 66 #[.int .i64 lr,.int .i64 b1,.int .i64 b2,.int .i64 eps,.int .i64 wd,.bool apart,.int .i64 f,.int .i64 p0,.int .i64 p1,.slice AW n CW,.slice U1 a1 C1,.slice U2 a2 C2,.slice U3 a3 C3] 85 #[.int .i64 k,.int .i64 z,.int .i64 m,.int .i64 o,.int .i64 k',.int .i64 z',.int .i64 m',.int .i64 o']
 obtain⟨c0,c1,c2,c3,c4,c5,c6,c7,c8,c9,c10,c11,c12⟩:=h3.q13a
 obtain⟨c13,c14,c15,c16,c17,c18,c19,c20⟩:=h4.q8
 go_enter Tryz.func9,Tryz.ntmps9
 go_upto_region 1 with fail
 rw[←EY.out.2,←EY.out.1]
 replace hB:=hB.drew
 replace h3:=h3.drew
 replace h4:=h4.drew
 clear c0 c1 c2 c3 c4 c5 c6 c7 c8 c9 c10 c11 c12 c13 c14 c15 c16 c17 c18 c19 c20
 refine wp_region_noPanic ?_
 refine wp_region_held_drew (S:=fun w'=>w'.cell? ⟨g,0,none⟩=some (.int .i64 lr)∧w'.cell? ⟨g,1,none⟩=some (.int .i64 b1)∧w'.cell? ⟨g,2,none⟩=some (.int .i64 b2)∧w'.cell? ⟨g,3,none⟩=some (.int .i64 eps)∧w'.cell? ⟨g,4,none⟩=some (.int .i64 wd)∧w'.cell? ⟨g,5,none⟩=some (.bool apart)∧w'.cell? ⟨g,6,none⟩=some (.int .i64 f)∧w'.cell? ⟨g,7,none⟩=some (.int .i64 p0)∧w'.cell? ⟨g,8,none⟩=some (.int .i64 p1)∧w'.cell? ⟨g,9,none⟩=some (.slice AW n CW)∧w'.cell? ⟨g,10,none⟩=some (.slice U1 a1 C1)∧w'.cell? ⟨g,11,none⟩=some (.slice U2 a2 C2)∧w'.cell? ⟨g,12,none⟩=some (.slice U3 a3 C3)) (by kernel_rfl) ?_ (fun hHeld=>?_)
 ·exact⟨h3.cell 0,h3.cell 1,h3.cell 2,h3.cell 3,h3.cell 4,h3.cell 5,h3.cell 6,h3.cell 7,h3.cell 8,h3.cell 9,h3.cell 10,h3.cell 11,h3.cell 12⟩
 obtain⟨wd1_1,hwd⟩:∃q,q=Y1.drew:=⟨_,rfl⟩
 rw[←hwd] at hB h3 h4 hHeld ⊢
 clear hwd
 refine tkA 0 rfl ?_
 refine tkA 1 rfl ?_
 refine tkA 2 rfl ?_
 refine tkA 3 rfl ?_
 try simp only[Act.put,lay]
 refine rd1 4 rfl fun K hK=>?_
 obtain⟨u1_1,eu,h7,b1_1⟩:=box1 wd1_1 61 #[.int .i64 0,.int .i64 0,.int .i64 0,.int .i64 0,.int .i64 0,.bool false]
 obtain⟨XA,en⟩:∃X,X=wd1_1.heap.size:=⟨_,rfl⟩
 rw[←en] at h7
 have lXA:w.heap.size≤XA:=by rw[en];exact hB.size
 have dXA_h3:g≠XA:=by have:=h3.lt;omega
 have dXA_h4:g+1≠XA:=by have:=h4.lt;omega
 have EUXA:=Lib.hid (And.intro eu en)
 clear eu en
 go_simp
 rw[←EUXA.out.1,←EUXA.out.2]
 replace h3:=h3.b b1_1
 replace h4:=h4.b b1_1
 replace hB:=bOn hB b1_1
 refine hK.out _ _ ?_ fun hHeld=>?_
 ·exact⟨h3.cell 0,h3.cell 1,h3.cell 2,h3.cell 3,h3.cell 4,h3.cell 5,h3.cell 6,h3.cell 7,h3.cell 8,h3.cell 9,h3.cell 10,h3.cell 11,h3.cell 12⟩
 clear hK K
 try simp only[Act.put,lay]
 refine rd1 5 rfl fun K hK=>?_
 obtain⟨u1_2,eu,h7',kz,kb,kB⟩:=fill6 h7 (.int .i64 lr) (.int .i64 b1) (.int .i64 b2) (.int .i64 eps) (.int .i64 wd) (.bool apart) (by simp[noU])
 obtain⟨x0,x1,x2,x3,x4,x5⟩:=h7.q6
 have xf:=h7.frozen
 go_simp
 rw[←eu]
 replace h3:=kb _ _ _ h3 (by omega)
 replace h4:=kb _ _ _ h4 (by omega)
 replace hB:=kB _ _ (by omega) hB
 replace h7:=h7'
 clear h7' kz kb kB eu xf x0 x1 x2 x3 x4 x5
 refine hK.out _ _ ?_ fun hHeld=>?_
 ·exact⟨h3.cell 0,h3.cell 1,h3.cell 2,h3.cell 3,h3.cell 4,h3.cell 5,h3.cell 6,h3.cell 7,h3.cell 8,h3.cell 9,h3.cell 10,h3.cell 11,h3.cell 12⟩
 clear hK K
 refine tkA 6 rfl ?_
 try simp only[Act.put,lay]
 try dsimp only
 try simp only[Act.put,lay]
 refine wpAnyH_done (by kernel_rfl) ?_ _
 refine NoPanic.normal ?_
 skip
 obtain⟨c21,c22,c23,c24,c25,c26,c27,c28,c29,c30,c31,c32,c33⟩:=h3.q13a
 obtain⟨c34,c35,c36,c37,c38,c39,c40,c41⟩:=h4.q8
 obtain⟨c42,c43,c44,c45,c46,c47⟩:=h7.q6
 have hRi:=fun w=>raright_any lr b1 b2 eps wd f apart w
 by_cases c:6<n
 ·have c1:(6:Int)<(n:Int):=by omega
  go_wp2_with fail
  refine (hA _).mono ?_
  rintro e w24 ⟨rfl,b24⟩
  replace h3:=h3.b b24
  replace h4:=h4.b b24
  replace h7:=h7.b b24
  replace hB:=bOn hB b24
  clear c21 c22 c23 c24 c25 c26 c27 c28 c29 c30 c31 c32 c33 c34 c35 c36 c37 c38 c39 c40 c41 c42 c43 c44 c45 c46 c47
  obtain⟨c48,c49,c50,c51,c52,c53,c54,c55,c56,c57,c58,c59,c60⟩:=h3.q13a
  obtain⟨c61,c62,c63,c64,c65,c66,c67,c68⟩:=h4.q8
  obtain⟨c69,c70,c71,c72,c73,c74⟩:=h7.q6
  go_wp2
  go_ret
  exact⟨rfl,hB⟩
 have c1:¬(6:Int)<(n:Int):=by omega
 by_cases d:4<gs.length
 ·have d1:(4:Int)<(gs.length:Int):=by omega
  go_wp2_with fail
  refine (hA _).mono ?_
  rintro e w24 ⟨rfl,b24⟩
  replace h3:=h3.b b24
  replace h4:=h4.b b24
  replace h7:=h7.b b24
  replace hB:=bOn hB b24
  clear c21 c22 c23 c24 c25 c26 c27 c28 c29 c30 c31 c32 c33 c34 c35 c36 c37 c38 c39 c40 c41 c42 c43 c44 c45 c46 c47
  obtain⟨c48,c49,c50,c51,c52,c53,c54,c55,c56,c57,c58,c59,c60⟩:=h3.q13a
  obtain⟨c61,c62,c63,c64,c65,c66,c67,c68⟩:=h4.q8
  obtain⟨c69,c70,c71,c72,c73,c74⟩:=h7.q6
  go_wp2
  go_ret
  exact⟨rfl,hB⟩
 have d1:¬(4:Int)<(gs.length:Int):=by omega
 cases hr:rightA lr b1 b2 eps wd f
 ·rw[hr] at hRi
  go_wp2_with fail
  refine (hRi _).mono ?_
  rintro e w24 ⟨rfl,b24⟩
  replace h3:=h3.b b24
  replace h4:=h4.b b24
  replace h7:=h7.b b24
  replace hB:=bOn hB b24
  clear c21 c22 c23 c24 c25 c26 c27 c28 c29 c30 c31 c32 c33 c34 c35 c36 c37 c38 c39 c40 c41 c42 c43 c44 c45 c46 c47
  obtain⟨c48,c49,c50,c51,c52,c53,c54,c55,c56,c57,c58,c59,c60⟩:=h3.q13a
  obtain⟨c61,c62,c63,c64,c65,c66,c67,c68⟩:=h4.q8
  obtain⟨c69,c70,c71,c72,c73,c74⟩:=h7.q6
  go_wp2_with fail
  refine (hA _).mono ?_
  rintro e w26 ⟨rfl,b26⟩
  replace h3:=h3.b b26
  replace h4:=h4.b b26
  replace h7:=h7.b b26
  replace hB:=bOn hB b26
  clear c48 c49 c50 c51 c52 c53 c54 c55 c56 c57 c58 c59 c60 c61 c62 c63 c64 c65 c66 c67 c68 c69 c70 c71 c72 c73 c74
  obtain⟨c75,c76,c77,c78,c79,c80,c81,c82,c83,c84,c85,c86,c87⟩:=h3.q13a
  obtain⟨c88,c89,c90,c91,c92,c93,c94,c95⟩:=h4.q8
  obtain⟨c96,c97,c98,c99,c100,c101⟩:=h7.q6
  go_wp2
  go_ret
  exact⟨rfl,hB⟩
 rw[hr] at hRi
 have hr':=of_decide_eq_true hr
 have hF:=hr'.2.1
 obtain⟨F,rfl⟩:∃F:Nat,f=(F:Int):=⟨f.toNat,by have:=hr'.1;omega⟩
 replace hF:F≤40:=by omega
 rw[Int.toNat_natCast] at hr'
 obtain⟨_,_,_,_,⟨hp1,hp1'⟩,⟨hp2,hp2'⟩,_⟩:=hr'
 obtain⟨e0,e1⟩:=pow_le40 F hF
 obtain⟨P,hP⟩:∃P:Int,P=((2^F:Nat):Int):=⟨_,rfl⟩
 have iP:In64 P:=by rw[hP];exact⟨by omega,by omega⟩
 have hPi:((2^F:Nat):Int)=(2:Int)^F:=by simp
 have w1:IntKind.i64.wrap ((2:Int)^F)=P:=by rw[←hPi,IntKind.wrap_i64,hP];omega
 have w2:IntKind.i64.wrap (1*(2:Int)^F)=P:=by rw[Int.one_mul];exact w1
 have sn:n≤1000:=by omega
 have sn4:n≤4000:=by omega
 have sn5:n≤4096:=by omega
 have sn6:n≤1000000:=by omega
 have hmk:=run_make_i64 62 Tryz.underlying62 n n rfl (by omega)
 have hNo:=fun w=>noughts_any n (by omega) w
 have hPw:=fun p0 p1 w ip0 ip1=>powers_any lr b1 b2 eps wd true F p0 p1 w hF ib1 ib2 ip0 ip1
 have r1':b1≤((2^F:Nat):Int):=by omega
 have r2':b2≤((2^F:Nat):Int):=by omega
 obtain⟨zq,hzq⟩:∃l:List Rat,l=List.replicate n 0:=⟨_,rfl⟩
 obtain⟨zi,hzi⟩:∃l:List Int,l=List.replicate n 0:=⟨_,rfl⟩
 have lq:zq.length=n:=by rw[hzq];simp
 have li:zi.length=n:=by rw[hzi];simp
 have az:AllIn zi:=AllIn.of_mem fun x hx=>by rw[hzi] at hx;rw[(List.mem_replicate.1 hx).2];exact⟨by omega,by omega⟩
 have good0:GoodL F 0 zi zq zq:=by rw[hzi,hzq];exact GoodL.start F n
 rw[←hzq] at hNo
 have HZ:=Lib.hid hzi
 clear hzq hzi hP hPi e0 e1 hp1' hp2'
 go_wp2_with fail
 refine (hRi _).mono ?_
 rintro e w24 ⟨rfl,b24⟩
 replace h3:=h3.b b24
 replace h4:=h4.b b24
 replace h7:=h7.b b24
 replace hB:=bOn hB b24
 clear c21 c22 c23 c24 c25 c26 c27 c28 c29 c30 c31 c32 c33 c34 c35 c36 c37 c38 c39 c40 c41 c42 c43 c44 c45 c46 c47
 obtain⟨c48,c49,c50,c51,c52,c53,c54,c55,c56,c57,c58,c59,c60⟩:=h3.q13a
 obtain⟨c61,c62,c63,c64,c65,c66,c67,c68⟩:=h4.q8
 obtain⟨c69,c70,c71,c72,c73,c74⟩:=h7.q6
 obtain⟨W5,eW,f1,f2,f3,f4⟩:=fillSix h7 (.bool true) (by simp[noU])
 have xf:=h7.frozen
 go_upto_region 6 with fail
 rw[←eW]
 replace hB:=f4 _ _ (by omega) hB
 replace h4:=f3 _ _ _ h4 (by omega)
 replace h3:=f3 _ _ _ h3 (by omega)
 replace h7:=f1
 clear eW f1 f2 f3 f4 xf
 clear c48 c49 c50 c51 c52 c53 c54 c55 c56 c57 c58 c59 c60 c61 c62 c63 c64 c65 c66 c67 c68 c69 c70 c71 c72 c73 c74
 obtain⟨c75,c76,c77,c78,c79,c80,c81,c82⟩:=h4.q8
 obtain⟨c83,c84,c85,c86,c87,c88⟩:=h7.q6
 obtain⟨c89,c90,c91,c92,c93,c94,c95,c96,c97,c98,c99,c100,c101⟩:=h3.q13a
 replace hB:=hB.drew
 replace h4:=h4.drew
 replace h7:=h7.drew
 replace h3:=h3.drew
 clear c75 c76 c77 c78 c79 c80 c81 c82 c83 c84 c85 c86 c87 c88 c89 c90 c91 c92 c93 c94 c95 c96 c97 c98 c99 c100 c101
 refine wp_region_noPanic ?_
 refine wp_region_held_drew (S:=fun w'=>True) (by kernel_rfl) ?_ (fun hHeld=>?_)
 ·trivial
 obtain⟨wd6_2,hwd⟩:∃q,q=W5.drew:=⟨_,rfl⟩
 rw[←hwd] at hB h4 h7 h3 ⊢
 clear hwd
 refine tkA 0 rfl ?_
 refine tkA 1 rfl ?_
 refine tkA 2 rfl ?_
 refine tkA 3 rfl ?_
 refine tkA 4 rfl ?_
 try simp only[Act.put,lay]
 refine rd1 5 rfl fun K hK=>?_
 obtain⟨u6_1,eu,h10,b6_1⟩:=box1 wd6_2 34 #[.int .i64 0,.int .i64 0]
 obtain⟨XB,en⟩:∃X,X=wd6_2.heap.size:=⟨_,rfl⟩
 rw[←en] at h10
 have lXB:w.heap.size≤XB:=by rw[en];exact hB.size
 have dXB_h4:g+1≠XB:=by have:=h4.lt;omega
 have dXB_h7:XA≠XB:=by have:=h7.lt;omega
 have dXB_h3:g≠XB:=by have:=h3.lt;omega
 have EUXB:=Lib.hid (And.intro eu en)
 clear eu en
 go_simp
 rw[←EUXB.out.1,←EUXB.out.2]
 replace h4:=h4.b b6_1
 replace h7:=h7.b b6_1
 replace h3:=h3.b b6_1
 replace hB:=bOn hB b6_1
 refine hK.out _ _ ?_ fun hHeld=>?_
 ·trivial
 clear hK K
 try simp only[Act.put,lay]
 refine rd1 6 rfl fun K hK=>?_
 obtain⟨u6_2,eu,h10',kz,kb,kB⟩:=fill2 h10 (.int .i64 P) (.int .i64 P) (by simp[noU])
 obtain⟨x0,x1⟩:=h10.q2
 have xf:=h10.frozen
 go_simp
 rw[←eu]
 replace h4:=kb _ _ _ h4 (by omega)
 replace h7:=kb _ _ _ h7 (by omega)
 replace h3:=kb _ _ _ h3 (by omega)
 replace hB:=kB _ _ (by omega) hB
 replace h10:=h10'
 clear h10' kz kb kB eu xf x0 x1
 refine hK.out _ _ ?_ fun hHeld=>?_
 ·trivial
 clear hK K
 try simp only[Act.put,lay]
 try dsimp only
 try simp only[Act.put,lay]
 refine wpAnyH_done (by kernel_rfl) ?_ _
 refine NoPanic.normal ?_
 skip
 obtain⟨c102,c103,c104,c105,c106,c107,c108,c109⟩:=h4.q8
 obtain⟨c110,c111,c112,c113,c114,c115⟩:=h7.q6
 obtain⟨c116,c117,c118,c119,c120,c121,c122,c123,c124,c125,c126,c127,c128⟩:=h3.q13a
 obtain⟨c129,c130⟩:=h10.q2
 go_upto_region 7 with fail
 clear c102 c103 c104 c105 c106 c107 c108 c109 c110 c111 c112 c113 c114 c115 c116 c117 c118 c119 c120 c121 c122 c123 c124 c125 c126 c127 c128 c129 c130
 replace hB:=hB.drew
 replace h4:=h4.drew
 replace h7:=h7.drew
 replace h3:=h3.drew
 replace h10:=h10.drew
 refine wp_region_noPanic ?_
 refine wp_region_held_drew (S:=fun w'=>World.grownBy u6_2.drew w' (some (u6_2.drew.heap.size))) (by kernel_rfl) (grown_of (Below.refl _ _) _) (fun hHeld=>?_)
 obtain⟨wd7_3,hwd⟩:∃q,q=u6_2.drew:=⟨_,rfl⟩
 rw[←hwd] at hB h4 h7 h3 h10 hHeld ⊢
 clear hwd
 refine tkA 0 rfl ?_
 refine tkA 1 rfl ?_
 refine tkH 2 rfl (v:=?v13) ?h13 ?r13
 case h13=>
  intro w hSw
  (try dsimp only at hSw)
  obtain⟨yh3_0,yh3_1,yh3_2,yh3_3,yh3_4,yh3_5,yh3_6,yh3_7,yh3_8,yh3_9,yh3_10,yh3_11,yh3_12⟩:=(Blk.grownT h3 hSw (fun e=>absurd (Option.some.inj e) (Nat.ne_of_lt h3.lt))).q13a
  go_simp
  try (with_reducible rfl)
 refine tkA 3 rfl ?_
 refine tkA 5 rfl ?_
 try simp only[Act.put,lay]
 refine wpAnyH_facts [(4,59),(6,61),(8,11)] [(7,62)] [] (pick [(4,fun (v:Value) (w:World)=>∃BM,.slice (some ⟨BM,0,none⟩) n n=v∧ArrI w (.slice (some ⟨BM,0,none⟩) n n) (List.replicate n 0)),(6,fun (v:Value) (w:World)=>∃BV,.slice (some ⟨BV,0,none⟩) n n=v∧ArrI w (.slice (some ⟨BV,0,none⟩) n n) (List.replicate n 0)),(7,fun (v:Value) (w:World)=>∃BP BR,.agg #[.slice AW n CW,.slice (some ⟨BP,0,none⟩) n n,.slice (some ⟨BR,0,none⟩) n n,.slice none 0 0]=v∧ArrI w (.slice (some ⟨BP,0,none⟩) n n) (List.replicate n 0)∧ArrI w (.slice (some ⟨BR,0,none⟩) n n) (List.replicate n 0)),(8,fun (v:Value) (w:World)=>∃XE,.pointer (some ⟨XE,0,none⟩)=v∧wd7_3.heap.size≤XE∧Blk w XE 64 #[.slice none 0 0,.slice none 0 0,.slice none 0 0,.slice none 0 0])]) #[true,true,true,true,true,true,true,true,true,false] (fun _ h=>grown_of h _) (pick_pers (show PersAll _ from ⟨fun _ _ _ b ⟨BM,e,y4⟩=>⟨BM,e,y4.below b⟩,fun _ _ _ b ⟨BV,e,y6⟩=>⟨BV,e,y6.below b⟩,fun _ _ _ b ⟨BP,BR,e,z4,z6⟩=>⟨BP,BR,e,z4.below b,z6.below b⟩,fun _ _ _ b ⟨X,e,l,h⟩=>⟨X,e,l,h.below b h.lt⟩,trivial⟩)) (hord_of (by kernel_rfl)) (by kernel_rfl) (by kernel_rfl) (by kernel_rfl) (by kernel_rfl) (fun _ _ _ _ _ h=>h) ?ops3 ?pur3 ?done3 (Below.refl _ _) (Nat.le_of_ble_eq_true (by kernel_rfl))
 case ops3=>
  refine .cons rfl (fun a w zS K hK=>?_) ?_
  ·have e58:=zS.2.1 58 _ (by kernel_rfl) rfl
   go_simp
   exact hK _ _ ⟨_,rfl,arr_new w n (by omega)⟩ ((Below.refl _ w).alloc (Nat.le_refl _) _)
  refine .cons rfl (fun a w zS K hK=>?_) ?_
  ·have e60:=zS.2.1 60 _ (by kernel_rfl) rfl
   go_simp
   exact hK _ _ ⟨_,rfl,arr_new w n (by omega)⟩ ((Below.refl _ w).alloc (Nat.le_refl _) _)
  refine .cons rfl (fun a w zS K hK=>?_) ?_
  ·go_simp
   exact hK _ _ ⟨_,rfl,zS.1.size,Blk.new w _ _⟩ ((Below.refl _ w).alloc (Nat.le_refl _) _)
  exact .nil
 case pur3=>
  refine .cons rfl (fun a w zS=>?_) ?_
  ·have e57:=zS.2.1 57 _ (by kernel_rfl) rfl
   obtain⟨v59,e59,BM,rfl,y4⟩:=zS.2.2 4 59 (by kernel_rfl)
   obtain⟨v61,e61,BV,rfl,y6⟩:=zS.2.2 6 61 (by kernel_rfl)
   exact⟨_,fun w'=>by go_simp<;>rfl,⟨BM,BV,rfl,y4,y6⟩⟩
  exact .nil
 case done3=>
  intro fuel a wr7_3 zf zS zdf zsz zs zd
  obtain⟨fuel,rfl⟩:∃n,fuel=n+1:=⟨fuel - 1,by have h:1≤fuel:=Nat.le_trans (Nat.le_of_ble_eq_true (by kernel_rfl)) zf;omega⟩
  clear zf
  have nh4:=h4.lt
  replace h4:=h4.below zS nh4
  have nh7:=h7.lt
  replace h7:=h7.below zS nh7
  have nh3:=h3.lt
  replace h3:=h3.below zS nh3
  have nh10:=h10.lt
  replace h10:=h10.below zS nh10
  obtain⟨v59_,e59_,BM,rfl,y4⟩:=zd 4 59 (by kernel_rfl)
  obtain⟨v61_,e61_,BV,rfl,y6⟩:=zd 6 61 (by kernel_rfl)
  obtain⟨v62_,e62_,BP,BR,rfl,z4,z6⟩:=zd 7 62 (by kernel_rfl)
  obtain⟨v11_,e11_,XE,rfl,lXE,h11⟩:=zd 8 11 (by kernel_rfl)
  obtain rfl:=act_of [(59,.slice (some ⟨BM,0,none⟩) n n),(61,.slice (some ⟨BV,0,none⟩) n n),(11,.pointer (some ⟨XE,0,none⟩)),(62,.agg #[.slice AW n CW,.slice (some ⟨BP,0,none⟩) n n,.slice (some ⟨BR,0,none⟩) n n,.slice none 0 0])] ⟨e59_,e61_,e11_,e62_,trivial⟩ zdf zsz (fun s h=>zs s h)
  simp only[putAll,List.set_cons_zero,List.set_cons_succ]
  clear zdf zsz zs zd e59_ e61_ e11_ e62_
  have kXE:w.heap.size≤XE:=Nat.le_trans hB.size lXE
  have dXE_h4:g+1≠XE:=Nat.ne_of_lt (Nat.lt_of_lt_of_le nh4 lXE)
  have dXE_h7:XA≠XE:=Nat.ne_of_lt (Nat.lt_of_lt_of_le nh7 lXE)
  have dXE_h3:g≠XE:=Nat.ne_of_lt (Nat.lt_of_lt_of_le nh3 lXE)
  have dXE_h10:XB≠XE:=Nat.ne_of_lt (Nat.lt_of_lt_of_le nh10 lXE)
  replace hB:=bOn hB zS
  clear nh4 nh7 nh3 nh10
  clear h3
  clear y4
  clear y6
  have zG:=grown_of zS (some (wd7_3.heap.size))
  refine rd1 9 rfl fun K hK=>?_
  obtain⟨ws7_9,eu,h11',kz,kb,kB⟩:=fill4 h11 (.slice AW n CW) (.slice (some ⟨BP,0,none⟩) n n) (.slice (some ⟨BR,0,none⟩) n n) (.slice none 0 0) (by simp[noU])
  obtain⟨x0,x1,x2,x3⟩:=h11.q4
  have xf:=h11.frozen
  replace zG:=(grown_set (grown_set (grown_set (grown_set zG (p:=⟨XE,0,none⟩) (.inr (by assumption)) (.slice AW n CW)) (p:=⟨XE,1,none⟩) (.inr (by assumption)) (.slice (some ⟨BP,0,none⟩) n n)) (p:=⟨XE,2,none⟩) (.inr (by assumption)) (.slice (some ⟨BR,0,none⟩) n n)) (p:=⟨XE,3,none⟩) (.inr (by assumption)) (.slice none 0 0))
  rw[←eu] at zG
  go_simp
  rw[←eu]
  replace h4:=kb _ _ _ h4 (by first | assumption | exact Ne.symm (by assumption) | omega)
  replace h7:=kb _ _ _ h7 (by first | assumption | exact Ne.symm (by assumption) | omega)
  replace h10:=kb _ _ _ h10 (by first | assumption | exact Ne.symm (by assumption) | omega)
  replace z4:=ArrI.fillT z4 h11 (by decide) kb
  replace z6:=ArrI.fillT z6 h11 (by decide) kb
  replace hB:=kB _ _ (by omega) hB
  replace h11:=h11'
  clear h11' kz kb kB eu xf x0 x1 x2 x3
  refine hK.out _ _ zG (fun hHeld=>?_)
  clear hK K
  try simp only[lay]
  try dsimp only
  try simp only[Act.put,lay]
  refine wpAnyH_done (by kernel_rfl) ?_ _
  refine NoPanic.normal ?_
  clear zG
  obtain⟨c131,c132,c133,c134,c135,c136,c137,c138⟩:=h4.q8
  obtain⟨c139,c140,c141,c142,c143,c144⟩:=h7.q6
  obtain⟨c145,c146⟩:=h10.q2
  obtain⟨c147,c148,c149,c150⟩:=h11.q4
  rw[←HZ.out] at z4 z6
  have t7:=Below.refl ws7_9.heap.size ws7_9
  have Y4:=z4
  have Y6:=z6
  clear z4 z6
  have hNoB:=fun u (hs:Below ws7_9.heap.size ws7_9 u)=>(hNo u).mono (fun e w' (h:∃v',e= .returned v'∧OwnQs w' u.heap.size v' zq∧Below u.heap.size u w')=>(let ⟨v',e1,e2,e3⟩:=h;⟨v',e1,e2.lower hs.size,e3⟩:∃v',e= .returned v'∧OwnQs w' ws7_9.heap.size v' zq∧Below u.heap.size u w'))
  go_upto_region 8 with fail
  clear c131 c132 c133 c134 c135 c136 c137 c138 c139 c140 c141 c142 c143 c144 c145 c146 c147 c148 c149 c150
  replace hB:=hB.drew
  replace h4:=h4.drew
  replace h7:=h7.drew
  replace h10:=h10.drew
  replace h11:=h11.drew
  replace t7:=t7.drew
  refine wp_region_noPanic ?_
  refine wp_region_held_drew (S:=fun w'=>World.grownBy ws7_9.drew w' (some (ws7_9.drew.heap.size))) (by kernel_rfl) (grown_of (Below.refl _ _) _) (fun hHeld=>?_)
  obtain⟨wd8_4,hwd⟩:∃q,q=ws7_9.drew:=⟨_,rfl⟩
  rw[←hwd] at hB h4 h7 h10 h11 t7 hHeld ⊢
  clear hwd
  refine tkA 0 rfl ?_
  refine tkH 1 rfl (v:=?v17) ?h17 ?r17
  case h17=>
   intro w hSw
   (try dsimp only at hSw)
   obtain⟨yh7_0,yh7_1,yh7_2,yh7_3,yh7_4,yh7_5⟩:=(Blk.grownT h7 hSw (fun e=>absurd (Option.some.inj e) (Nat.ne_of_lt h7.lt))).q6
   go_simp
   try (with_reducible rfl)
  refine tkA 2 rfl ?_
  refine tkA 3 rfl ?_
  refine tkA 5 rfl ?_
  try simp only[Act.put,lay]
  refine wpAnyH_facts [(4,67),(6,69),(8,12)] [(7,70)] [] (pick [(4,fun (v:Value) (w:World)=>∃A41 C41,.slice A41 n C41=v∧OwnQs w ws7_9.heap.size (.slice A41 n C41) zq),(6,fun (v:Value) (w:World)=>∃A42 C42,.slice A42 n C42=v∧OwnQs w ws7_9.heap.size (.slice A42 n C42) zq),(7,fun (v:Value) (w:World)=>∃A31 C31 A32 C32,.agg #[.int .i64 b1,.int .i64 F,.slice A31 n C31,.slice A32 n C32]=v∧OwnQs w ws7_9.heap.size (.slice A31 n C31) zq∧OwnQs w ws7_9.heap.size (.slice A32 n C32) zq),(8,fun (v:Value) (w:World)=>∃XG,.pointer (some ⟨XG,0,none⟩)=v∧wd8_4.heap.size≤XG∧Blk w XG 90 #[.int .i64 0,.int .i64 0,.slice none 0 0,.slice none 0 0])]) #[true,true,true,true,true,true,true,true,true,false] (fun _ h=>grown_of h _) (pick_pers (show PersAll _ from ⟨fun _ _ _ b ⟨A41,C41,e,f4⟩=>⟨A41,C41,e,f4.below b⟩,fun _ _ _ b ⟨A42,C42,e,f6⟩=>⟨A42,C42,e,f6.below b⟩,fun _ _ _ b ⟨A31,C31,A32,C32,e,g31,g32⟩=>⟨A31,C31,A32,C32,e,g31.below b,g32.below b⟩,fun _ _ _ b ⟨X,e,l,h⟩=>⟨X,e,l,h.below b h.lt⟩,trivial⟩)) (hord_of (by kernel_rfl)) (by kernel_rfl) (by kernel_rfl) (by kernel_rfl) (by kernel_rfl) (fun _ _ _ _ _ h=>h) ?ops4 ?pur4 ?done4 (Below.refl _ _) (Nat.le_of_ble_eq_true (by kernel_rfl))
  case ops4=>
   refine .cons rfl (fun a w zS K hK=>?_) ?_
   ·have t7:=bOn t7 zS.1
    have e66:=zS.2.1 66 _ (by kernel_rfl) rfl
    go_simp
    refine (hNoB _ t7).mono ?_
    rintro e w' ⟨x4,rfl,f4,b⟩
    obtain⟨A41,C41,rfl⟩:=f4.len2 lq
    exact hK _ _ ⟨A41,C41,rfl,f4⟩ b
   refine .cons rfl (fun a w zS K hK=>?_) ?_
   ·have t7:=bOn t7 zS.1
    have e68:=zS.2.1 68 _ (by kernel_rfl) rfl
    go_simp
    refine (hNoB _ t7).mono ?_
    rintro e w' ⟨x6,rfl,f6,b⟩
    obtain⟨A42,C42,rfl⟩:=f6.len2 lq
    exact hK _ _ ⟨A42,C42,rfl,f6⟩ b
   refine .cons rfl (fun a w zS K hK=>?_) ?_
   ·go_simp
    exact hK _ _ ⟨_,rfl,zS.1.size,Blk.new w _ _⟩ ((Below.refl _ w).alloc (Nat.le_refl _) _)
   exact .nil
  case pur4=>
   refine .cons rfl (fun a w zS=>?_) ?_
   ·have e64:=zS.2.1 64 _ (by kernel_rfl) rfl
    have e65:=zS.2.1 65 _ (by kernel_rfl) rfl
    obtain⟨v67,e67,A41,C41,rfl,f4⟩:=zS.2.2 4 67 (by kernel_rfl)
    obtain⟨v69,e69,A42,C42,rfl,f6⟩:=zS.2.2 6 69 (by kernel_rfl)
    exact⟨_,fun w'=>by go_simp<;>rfl,⟨A41,C41,A42,C42,rfl,f4,f6⟩⟩
   exact .nil
  case done4=>
   intro fuel a wr8_4 zf zS zdf zsz zs zd
   obtain⟨fuel,rfl⟩:∃n,fuel=n+1:=⟨fuel - 1,by have h:1≤fuel:=Nat.le_trans (Nat.le_of_ble_eq_true (by kernel_rfl)) zf;omega⟩
   clear zf
   have nh4:=h4.lt
   replace h4:=h4.below zS nh4
   have nh7:=h7.lt
   replace h7:=h7.below zS nh7
   have nh10:=h10.lt
   replace h10:=h10.below zS nh10
   have nh11:=h11.lt
   replace h11:=h11.below zS nh11
   have mt7:=t7.size
   replace t7:=bOn t7 zS
   obtain⟨v67_,e67_,A41,C41,rfl,f4⟩:=zd 4 67 (by kernel_rfl)
   obtain⟨v69_,e69_,A42,C42,rfl,f6⟩:=zd 6 69 (by kernel_rfl)
   obtain⟨v70_,e70_,A31,C31,A32,C32,rfl,g31,g32⟩:=zd 7 70 (by kernel_rfl)
   obtain⟨v12_,e12_,XG,rfl,lXG,h12⟩:=zd 8 12 (by kernel_rfl)
   obtain rfl:=act_of [(67,.slice A41 n C41),(69,.slice A42 n C42),(12,.pointer (some ⟨XG,0,none⟩)),(70,.agg #[.int .i64 b1,.int .i64 F,.slice A31 n C31,.slice A32 n C32])] ⟨e67_,e69_,e12_,e70_,trivial⟩ zdf zsz (fun s h=>zs s h)
   simp only[putAll,List.set_cons_zero,List.set_cons_succ]
   clear zdf zsz zs zd e67_ e69_ e12_ e70_
   have kXG:w.heap.size≤XG:=Nat.le_trans hB.size lXG
   have jXG_t7:=Nat.le_trans mt7 lXG
   clear mt7
   have dXG_h4:g+1≠XG:=Nat.ne_of_lt (Nat.lt_of_lt_of_le nh4 lXG)
   have dXG_h7:XA≠XG:=Nat.ne_of_lt (Nat.lt_of_lt_of_le nh7 lXG)
   have dXG_h10:XB≠XG:=Nat.ne_of_lt (Nat.lt_of_lt_of_le nh10 lXG)
   have dXG_h11:XE≠XG:=Nat.ne_of_lt (Nat.lt_of_lt_of_le nh11 lXG)
   replace hB:=bOn hB zS
   clear nh4 nh7 nh10 nh11
   clear f4
   clear f6
   have zG:=grown_of zS (some (wd8_4.heap.size))
   refine rd1 9 rfl fun K hK=>?_
   obtain⟨ws8_9,eu,h12',kz,kb,kB⟩:=fill4 h12 (.int .i64 b1) (.int .i64 F) (.slice A31 n C31) (.slice A32 n C32) (by simp[noU])
   obtain⟨x0,x1,x2,x3⟩:=h12.q4
   have xf:=h12.frozen
   replace zG:=(grown_set (grown_set (grown_set (grown_set zG (p:=⟨XG,0,none⟩) (.inr (by assumption)) (.int .i64 b1)) (p:=⟨XG,1,none⟩) (.inr (by assumption)) (.int .i64 F)) (p:=⟨XG,2,none⟩) (.inr (by assumption)) (.slice A31 n C31)) (p:=⟨XG,3,none⟩) (.inr (by assumption)) (.slice A32 n C32))
   rw[←eu] at zG
   go_simp
   rw[←eu]
   replace h4:=kb _ _ _ h4 (by first | assumption | exact Ne.symm (by assumption) | omega)
   replace h7:=kb _ _ _ h7 (by first | assumption | exact Ne.symm (by assumption) | omega)
   replace h10:=kb _ _ _ h10 (by first | assumption | exact Ne.symm (by assumption) | omega)
   replace h11:=kb _ _ _ h11 (by first | assumption | exact Ne.symm (by assumption) | omega)
   replace t7:=kB _ _ (by first | assumption | omega) t7
   replace g31:=g31.filled (by first | exact ho6 _ (by assumption) | exact OwnQs.neT g31 h12 (by decide)) kz kb
   replace g32:=g32.filled (by first | exact ho6 _ (by assumption) | exact OwnQs.neT g32 h12 (by decide)) kz kb
   replace hB:=kB _ _ (by omega) hB
   replace h12:=h12'
   clear h12' kz kb kB eu xf x0 x1 x2 x3
   refine hK.out _ _ zG (fun hHeld=>?_)
   clear hK K
   try simp only[lay]
   try dsimp only
   try simp only[Act.put,lay]
   refine wpAnyH_done (by kernel_rfl) ?_ _
   refine NoPanic.normal ?_
   clear zG
   obtain⟨c151,c152,c153,c154,c155,c156,c157,c158⟩:=h4.q8
   obtain⟨c159,c160,c161,c162,c163,c164⟩:=h7.q6
   obtain⟨c165,c166⟩:=h10.q2
   obtain⟨c167,c168,c169,c170⟩:=h11.q4
   obtain⟨c171,c172,c173,c174⟩:=h12.q4
   go_upto_region 9 with fail
   clear c151 c152 c153 c154 c155 c156 c157 c158 c159 c160 c161 c162 c163 c164 c165 c166 c167 c168 c169 c170 c171 c172 c173 c174
   replace hB:=hB.drew
   replace h4:=h4.drew
   replace h7:=h7.drew
   replace h10:=h10.drew
   replace h11:=h11.drew
   replace t7:=t7.drew
   replace g31:=g31.b (bdrew _)
   replace g32:=g32.b (bdrew _)
   replace h12:=h12.drew
   refine wp_region_noPanic ?_
   refine wp_region_held_drew (S:=fun w'=>World.grownBy ws8_9.drew w' (some (ws8_9.drew.heap.size))) (by kernel_rfl) (grown_of (Below.refl _ _) _) (fun hHeld=>?_)
   obtain⟨wd9_5,hwd⟩:∃q,q=ws8_9.drew:=⟨_,rfl⟩
   rw[←hwd] at hB h4 h7 h10 h11 t7 g31 g32 h12 hHeld ⊢
   clear hwd
   refine tkA 0 rfl ?_
   refine tkH 1 rfl (v:=?v22) ?h22 ?r22
   case h22=>
    intro w hSw
    (try dsimp only at hSw)
    obtain⟨yh7_0,yh7_1,yh7_2,yh7_3,yh7_4,yh7_5⟩:=(Blk.grownT h7 hSw (fun e=>absurd (Option.some.inj e) (Nat.ne_of_lt h7.lt))).q6
    go_simp
    try (with_reducible rfl)
   refine tkA 2 rfl ?_
   refine tkA 3 rfl ?_
   refine tkA 5 rfl ?_
   try simp only[Act.put,lay]
   refine wpAnyH_facts [(4,75),(6,77),(8,13)] [(7,78)] [] (pick [(4,fun (v:Value) (w:World)=>∃A43 C43,.slice A43 n C43=v∧OwnQs w ws7_9.heap.size (.slice A43 n C43) zq),(6,fun (v:Value) (w:World)=>∃A44 C44,.slice A44 n C44=v∧OwnQs w ws7_9.heap.size (.slice A44 n C44) zq),(7,fun (v:Value) (w:World)=>∃A33 C33 A34 C34,.agg #[.int .i64 b2,.int .i64 F,.slice A33 n C33,.slice A34 n C34]=v∧OwnQs w ws7_9.heap.size (.slice A33 n C33) zq∧OwnQs w ws7_9.heap.size (.slice A34 n C34) zq),(8,fun (v:Value) (w:World)=>∃XH,.pointer (some ⟨XH,0,none⟩)=v∧wd9_5.heap.size≤XH∧Blk w XH 90 #[.int .i64 0,.int .i64 0,.slice none 0 0,.slice none 0 0])]) #[true,true,true,true,true,true,true,true,true,false] (fun _ h=>grown_of h _) (pick_pers (show PersAll _ from ⟨fun _ _ _ b ⟨A43,C43,e,f4⟩=>⟨A43,C43,e,f4.below b⟩,fun _ _ _ b ⟨A44,C44,e,f6⟩=>⟨A44,C44,e,f6.below b⟩,fun _ _ _ b ⟨A33,C33,A34,C34,e,g33,g34⟩=>⟨A33,C33,A34,C34,e,g33.below b,g34.below b⟩,fun _ _ _ b ⟨X,e,l,h⟩=>⟨X,e,l,h.below b h.lt⟩,trivial⟩)) (hord_of (by kernel_rfl)) (by kernel_rfl) (by kernel_rfl) (by kernel_rfl) (by kernel_rfl) (fun _ _ _ _ _ h=>h) ?ops5 ?pur5 ?done5 (Below.refl _ _) (Nat.le_of_ble_eq_true (by kernel_rfl))
   case ops5=>
    refine .cons rfl (fun a w zS K hK=>?_) ?_
    ·have t7:=bOn t7 zS.1
     have e74:=zS.2.1 74 _ (by kernel_rfl) rfl
     go_simp
     refine (hNoB _ t7).mono ?_
     rintro e w' ⟨x4,rfl,f4,b⟩
     obtain⟨A43,C43,rfl⟩:=f4.len2 lq
     exact hK _ _ ⟨A43,C43,rfl,f4⟩ b
    refine .cons rfl (fun a w zS K hK=>?_) ?_
    ·have t7:=bOn t7 zS.1
     have e76:=zS.2.1 76 _ (by kernel_rfl) rfl
     go_simp
     refine (hNoB _ t7).mono ?_
     rintro e w' ⟨x6,rfl,f6,b⟩
     obtain⟨A44,C44,rfl⟩:=f6.len2 lq
     exact hK _ _ ⟨A44,C44,rfl,f6⟩ b
    refine .cons rfl (fun a w zS K hK=>?_) ?_
    ·go_simp
     exact hK _ _ ⟨_,rfl,zS.1.size,Blk.new w _ _⟩ ((Below.refl _ w).alloc (Nat.le_refl _) _)
    exact .nil
   case pur5=>
    refine .cons rfl (fun a w zS=>?_) ?_
    ·have e72:=zS.2.1 72 _ (by kernel_rfl) rfl
     have e73:=zS.2.1 73 _ (by kernel_rfl) rfl
     obtain⟨v75,e75,A43,C43,rfl,f4⟩:=zS.2.2 4 75 (by kernel_rfl)
     obtain⟨v77,e77,A44,C44,rfl,f6⟩:=zS.2.2 6 77 (by kernel_rfl)
     exact⟨_,fun w'=>by go_simp<;>rfl,⟨A43,C43,A44,C44,rfl,f4,f6⟩⟩
    exact .nil
   case done5=>
    intro fuel a wr9_5 zf zS zdf zsz zs zd
    obtain⟨fuel,rfl⟩:∃n,fuel=n+1:=⟨fuel - 1,by have h:1≤fuel:=Nat.le_trans (Nat.le_of_ble_eq_true (by kernel_rfl)) zf;omega⟩
    clear zf
    have nh4:=h4.lt
    replace h4:=h4.below zS nh4
    have nh7:=h7.lt
    replace h7:=h7.below zS nh7
    have nh10:=h10.lt
    replace h10:=h10.below zS nh10
    have nh11:=h11.lt
    replace h11:=h11.below zS nh11
    have mt7:=t7.size
    replace t7:=bOn t7 zS
    replace g31:=g31.b zS
    replace g32:=g32.b zS
    have nh12:=h12.lt
    replace h12:=h12.below zS nh12
    obtain⟨v75_,e75_,A43,C43,rfl,f4⟩:=zd 4 75 (by kernel_rfl)
    obtain⟨v77_,e77_,A44,C44,rfl,f6⟩:=zd 6 77 (by kernel_rfl)
    obtain⟨v78_,e78_,A33,C33,A34,C34,rfl,g33,g34⟩:=zd 7 78 (by kernel_rfl)
    obtain⟨v13_,e13_,XH,rfl,lXH,h13⟩:=zd 8 13 (by kernel_rfl)
    obtain rfl:=act_of [(75,.slice A43 n C43),(77,.slice A44 n C44),(13,.pointer (some ⟨XH,0,none⟩)),(78,.agg #[.int .i64 b2,.int .i64 F,.slice A33 n C33,.slice A34 n C34])] ⟨e75_,e77_,e13_,e78_,trivial⟩ zdf zsz (fun s h=>zs s h)
    simp only[putAll,List.set_cons_zero,List.set_cons_succ]
    clear zdf zsz zs zd e75_ e77_ e13_ e78_
    have kXH:w.heap.size≤XH:=Nat.le_trans hB.size lXH
    have jXH_t7:=Nat.le_trans mt7 lXH
    clear mt7
    have dXH_h4:g+1≠XH:=Nat.ne_of_lt (Nat.lt_of_lt_of_le nh4 lXH)
    have dXH_h7:XA≠XH:=Nat.ne_of_lt (Nat.lt_of_lt_of_le nh7 lXH)
    have dXH_h10:XB≠XH:=Nat.ne_of_lt (Nat.lt_of_lt_of_le nh10 lXH)
    have dXH_h11:XE≠XH:=Nat.ne_of_lt (Nat.lt_of_lt_of_le nh11 lXH)
    have dXH_h12:XG≠XH:=Nat.ne_of_lt (Nat.lt_of_lt_of_le nh12 lXH)
    replace hB:=bOn hB zS
    clear nh4 nh7 nh10 nh11 nh12
    clear f4
    clear f6
    have zG:=grown_of zS (some (wd9_5.heap.size))
    refine rd1 9 rfl fun K hK=>?_
    obtain⟨ws9_9,eu,h13',kz,kb,kB⟩:=fill4 h13 (.int .i64 b2) (.int .i64 F) (.slice A33 n C33) (.slice A34 n C34) (by simp[noU])
    obtain⟨x0,x1,x2,x3⟩:=h13.q4
    have xf:=h13.frozen
    replace zG:=(grown_set (grown_set (grown_set (grown_set zG (p:=⟨XH,0,none⟩) (.inr (by assumption)) (.int .i64 b2)) (p:=⟨XH,1,none⟩) (.inr (by assumption)) (.int .i64 F)) (p:=⟨XH,2,none⟩) (.inr (by assumption)) (.slice A33 n C33)) (p:=⟨XH,3,none⟩) (.inr (by assumption)) (.slice A34 n C34))
    rw[←eu] at zG
    go_simp
    rw[←eu]
    replace h4:=kb _ _ _ h4 (by first | assumption | exact Ne.symm (by assumption) | omega)
    replace h7:=kb _ _ _ h7 (by first | assumption | exact Ne.symm (by assumption) | omega)
    replace h10:=kb _ _ _ h10 (by first | assumption | exact Ne.symm (by assumption) | omega)
    replace h11:=kb _ _ _ h11 (by first | assumption | exact Ne.symm (by assumption) | omega)
    replace t7:=kB _ _ (by first | assumption | omega) t7
    replace g31:=g31.filled (by first | exact ho6 _ (by assumption) | exact OwnQs.neT g31 h13 (by decide)) kz kb
    replace g32:=g32.filled (by first | exact ho6 _ (by assumption) | exact OwnQs.neT g32 h13 (by decide)) kz kb
    replace h12:=kb _ _ _ h12 (by first | assumption | exact Ne.symm (by assumption) | omega)
    replace g33:=g33.filled (by first | exact ho6 _ (by assumption) | exact OwnQs.neT g33 h13 (by decide)) kz kb
    replace g34:=g34.filled (by first | exact ho6 _ (by assumption) | exact OwnQs.neT g34 h13 (by decide)) kz kb
    replace hB:=kB _ _ (by omega) hB
    replace h13:=h13'
    clear h13' kz kb kB eu xf x0 x1 x2 x3
    refine hK.out _ _ zG (fun hHeld=>?_)
    clear hK K
    try simp only[lay]
    try dsimp only
    try simp only[Act.put,lay]
    refine wpAnyH_done (by kernel_rfl) ?_ _
    refine NoPanic.normal ?_
    clear zG
    obtain⟨c175,c176,c177,c178,c179,c180,c181,c182⟩:=h4.q8
    obtain⟨c183,c184,c185,c186,c187,c188⟩:=h7.q6
    obtain⟨c189,c190⟩:=h10.q2
    obtain⟨c191,c192,c193,c194⟩:=h11.q4
    obtain⟨c195,c196,c197,c198⟩:=h12.q4
    obtain⟨c199,c200,c201,c202⟩:=h13.q4
    replace Y4:=Y4.b t7
    replace Y6:=Y6.b t7
    have rows:Rows7 ws9_9 (.slice AW n CW) (.slice (some ⟨BP,0,none⟩) n n) (.slice (some ⟨BR,0,none⟩) n n) (.slice A31 n C31) (.slice A32 n C32) (.slice A33 n C33) (.slice A34 n C34) Ws zi zi zq zq zq zq:=⟨hw.below hB,Y4.is,Y6.is,g31.is,g32.is,g33.is,g34.is⟩
    have offs:Offs7 XB XE XG XH (.slice AW n CW) (.slice (some ⟨BP,0,none⟩) n n) (.slice (some ⟨BR,0,none⟩) n n) (.slice A31 n C31) (.slice A32 n C32) (.slice A33 n C33) (.slice A34 n C34):=⟨⟨off_arg hw (by assumption),off_arg hw (by assumption),off_arg hw (by assumption),off_arg hw (by assumption)⟩,⟨off_arr Y4 h10 (by decide),off_arr Y4 h11 (by decide),off_arr Y4 h12 (by decide),off_arr Y4 h13 (by decide)⟩,⟨off_arr Y6 h10 (by decide),off_arr Y6 h11 (by decide),off_arr Y6 h12 (by decide),off_arr Y6 h13 (by decide)⟩,⟨off_own g31 h10 (by decide),off_own g31 h11 (by decide),off_own g31 h12 (by decide),off_own g31 h13 (by decide)⟩,⟨off_own g32 h10 (by decide),off_own g32 h11 (by decide),off_own g32 h12 (by decide),off_own g32 h13 (by decide)⟩,⟨off_own g33 h10 (by decide),off_own g33 h11 (by decide),off_own g33 h12 (by decide),off_own g33 h13 (by decide)⟩,⟨off_own g34 h10 (by decide),off_own g34 h11 (by decide),off_own g34 h12 (by decide),off_own g34 h13 (by decide)⟩⟩
    clear t7 g31 g32 g33 g34 Y4 Y6 hNoB hNo
    clear c175 c176 c177 c178 c179 c180 c181 c182 c183 c184 c185 c186 c187 c188 c189 c190 c191 c192 c193 c194 c195 c196 c197 c198 c199 c200 c201 c202
    have DQ:=Lib.hid (And.intro dXB_h4 (And.intro dXB_h7 (And.intro dXE_h4 (And.intro dXE_h7 (And.intro dXE_h10 (And.intro dXG_h4 (And.intro dXG_h7 (And.intro dXG_h10 (And.intro dXG_h11 (And.intro dXH_h4 (And.intro dXH_h7 (And.intro dXH_h10 (And.intro dXH_h11 (And.intro dXH_h12 trivial))))))))))))))
    clear dXB_h4 dXB_h7 dXE_h4 dXE_h7 dXE_h10 dXG_h4 dXG_h7 dXG_h10 dXG_h11 dXH_h4 dXH_h7 dXH_h10 dXH_h11 dXH_h12
    go_wp2_with fail
    go_loopw [14] (fun iV wr=>∃(j:Nat) (p0 p1:Int) (AW AM AV AG A1 B1 A2 B2:Option Addr) (CW CM CV nG CG C1 D1 C2 D2:Nat) (Ws Ms Vs:List Int) (r1 q1 r2 q2:List Rat),iV= .int .i64 j∧j≤gs.length∧(Ws.length=n∧Ms.length=n∧Vs.length=n∧r1.length=n∧q1.length=n∧r2.length=n∧q2.length=n)∧In64 p0∧In64 p1∧AllIn Ws∧AllIn Ms∧AllIn Vs∧GoodL F j Ms r1 q1∧GoodL F j Vs r2 q2∧Blk wr (g+1) 85 #[.int .i64 k,.int .i64 z,.int .i64 m,.int .i64 o,.int .i64 k',.int .i64 z',.int .i64 m',.int .i64 o']∧Blk wr XA 61 #[.int .i64 lr,.int .i64 b1,.int .i64 b2,.int .i64 eps,.int .i64 wd,.bool true]∧Blk wr XB 34 #[.int .i64 p0,.int .i64 p1]∧Blk wr XE 64 #[.slice AW n CW,.slice AM n CM,.slice AV n CV,.slice AG nG CG]∧Blk wr XG 90 #[.int .i64 b1,.int .i64 F,.slice A1 n C1,.slice B1 n D1]∧Blk wr XH 90 #[.int .i64 b2,.int .i64 F,.slice A2 n C2,.slice B2 n D2]∧Rows7 wr (.slice AW n CW) (.slice AM n CM) (.slice AV n CV) (.slice A1 n C1) (.slice B1 n D1) (.slice A2 n C2) (.slice B2 n D2) Ws Ms Vs r1 q1 r2 q2∧Offs7 XB XE XG XH (.slice AW n CW) (.slice AM n CM) (.slice AV n CV) (.slice A1 n C1) (.slice B1 n D1) (.slice A2 n C2) (.slice B2 n D2)∧Below w.heap.size w wr) (fun iV _=>gs.length - (intOf iV).toNat)
    case atStart=>exact⟨0,_,_,_,_,_,_,_,_,_,_,_,_,_,_,_,_,_,_,_,Ws,zi,zi,zq,zq,zq,zq,rfl,Nat.zero_le _,⟨hn,li,li,lq,lq,lq,lq⟩,iP,iP,aW0,az,az,good0,good0,h4,h7,h10,h11,h12,h13,rows,offs,hB⟩
    case round=>
     clear h4 h7 h10 h11 h12 h13 rows offs hB good0 az li lq w1 w2 iP hmk HZ hn hw aW0
     obtain⟨j,p0,p1,AW,AM,AV,AG,A1,B1,A2,B2,CW,CM,CV,nG,CG,C1,D1,C2,D2,Ws,Ms,Vs,r1,q1,r2,q2,rfl,hj,ll,ip0,ip1,aW,aM,aV,gd1,gd2,h4,h7,h10,h11,h12,h13,rows,offs,hB⟩:=hrel
     by_cases hlt:j<gs.length;rotate_left
     ·obtain rfl:j=gs.length:=by omega
      obtain⟨c203,c204,c205,c206,c207,c208,c209,c210⟩:=h4.q8
      obtain⟨c211,c212,c213,c214,c215,c216⟩:=h7.q6
      obtain⟨c217,c218⟩:=h10.q2
      obtain⟨c219,c220,c221,c222⟩:=h11.q4
      obtain⟨c223,c224,c225,c226⟩:=h12.q4
      obtain⟨c227,c228,c229,c230⟩:=h13.q4
      go_wp2_with fail
      refine (hA _).mono ?_
      rintro e w36 ⟨rfl,b36⟩
      replace h4:=h4.b b36
      replace h7:=h7.b b36
      replace h10:=h10.b b36
      replace h11:=h11.b b36
      replace h12:=h12.b b36
      replace h13:=h13.b b36
      replace hB:=bOn hB b36
      clear c203 c204 c205 c206 c207 c208 c209 c210 c211 c212 c213 c214 c215 c216 c217 c218 c219 c220 c221 c222 c223 c224 c225 c226 c227 c228 c229 c230
      obtain⟨c231,c232,c233,c234,c235,c236,c237,c238⟩:=h4.q8
      obtain⟨c239,c240,c241,c242,c243,c244⟩:=h7.q6
      obtain⟨c245,c246⟩:=h10.q2
      obtain⟨c247,c248,c249,c250⟩:=h11.q4
      obtain⟨c251,c252,c253,c254⟩:=h12.q4
      obtain⟨c255,c256,c257,c258⟩:=h13.q4
      go_wp2
      go_ret
      exact⟨rfl,hB⟩
     obtain⟨gi,hgi⟩:∃p,gs[j]?=some p:=⟨_,List.getElem?_eq_getElem hlt⟩
     have aG:=hG gi (List.mem_of_getElem? hgi)
     have HGI:=Lib.hid hgi
     obtain⟨ad,Bg,Cg,rfl,gc0,igi⟩:=hg.at_ hgi
     obtain⟨o10,o11,o12,o13⟩:=offs.all
     have j0:(0:Int)≤(j:Int):=by omega
     have j1:(j:Int)<(gs.length:Int):=by omega
     have j3:j≤3:=by omega
     clear hgi offs
     obtain⟨c203,c204,c205,c206,c207,c208,c209,c210⟩:=h4.q8
     obtain⟨c211,c212,c213,c214,c215,c216⟩:=h7.q6
     obtain⟨c217,c218⟩:=h10.q2
     obtain⟨c219,c220,c221,c222⟩:=h11.q4
     obtain⟨c223,c224,c225,c226⟩:=h12.q4
     obtain⟨c227,c228,c229,c230⟩:=h13.q4
     go_wp2_with fail
     refine (hPw _ _ _ ip0 ip1).mono ?_
     rintro e w36 ⟨⟨p2,p3,rfl,ip2,ip3⟩,b36⟩
     replace h4:=h4.b b36
     replace h7:=h7.b b36
     replace h10:=h10.b b36
     replace h11:=h11.b b36
     replace h12:=h12.b b36
     replace h13:=h13.b b36
     replace rows:=rows.b b36
     replace hB:=bOn hB b36
     clear c203 c204 c205 c206 c207 c208 c209 c210 c211 c212 c213 c214 c215 c216 c217 c218 c219 c220 c221 c222 c223 c224 c225 c226 c227 c228 c229 c230
     obtain⟨c231,c232,c233,c234,c235,c236,c237,c238⟩:=h4.q8
     obtain⟨c239,c240,c241,c242,c243,c244⟩:=h7.q6
     obtain⟨c245,c246⟩:=h10.q2
     obtain⟨c247,c248,c249,c250⟩:=h11.q4
     obtain⟨c251,c252,c253,c254⟩:=h12.q4
     obtain⟨c255,c256,c257,c258⟩:=h13.q4
     obtain⟨Wf38,eW,⟨f1,f2,f3,f4⟩,hk,hs⟩:=fillTwo h10 (.int .i64 p2) (.int .i64 p3) (by simp[noU])
     have xf:=h10.frozen
     go_upto_region 14 with fail
     rw[←eW]
     replace hB:=f4 _ _ (by first | assumption | omega) hB
     replace h4:=f3 _ _ _ h4 DQ.out.1
     replace h7:=f3 _ _ _ h7 DQ.out.2.1
     replace h11:=f3 _ _ _ h11 (Ne.symm DQ.out.2.2.2.2.1)
     replace h12:=f3 _ _ _ h12 (Ne.symm DQ.out.2.2.2.2.2.2.2.1)
     replace h13:=f3 _ _ _ h13 (Ne.symm DQ.out.2.2.2.2.2.2.2.2.2.2.2.1)
     replace rows:=rows.stay o10 hk hs f2
     replace h10:=f1
     clear eW f1 f2 f3 f4 hk hs xf
     clear c231 c232 c233 c234 c235 c236 c237 c238 c239 c240 c241 c242 c243 c244 c245 c246 c247 c248 c249 c250 c251 c252 c253 c254 c255 c256 c257 c258
     obtain⟨c259,c260,c261,c262,c263,c264,c265,c266⟩:=h4.q8
     obtain⟨c267,c268,c269,c270,c271,c272⟩:=h7.q6
     obtain⟨c273,c274⟩:=h10.q2
     obtain⟨c275,c276,c277,c278⟩:=h11.q4
     obtain⟨c279,c280,c281,c282⟩:=h12.q4
     obtain⟨c283,c284,c285,c286⟩:=h13.q4
     obtain⟨Wf40,eW,⟨f1,f2,f3,f4⟩,hk,hs⟩:=fillLast h11 (.slice Bg gi.length Cg) (by simp[noU])
     have xf:=h11.frozen
     have gc:=cellAU hB gc0
     go_upto_region 15 with fail
     rw[←eW]
     replace hB:=f4 _ _ (by first | assumption | omega) hB
     replace h4:=f3 _ _ _ h4 DQ.out.2.2.1
     replace h7:=f3 _ _ _ h7 DQ.out.2.2.2.1
     replace h10:=f3 _ _ _ h10 DQ.out.2.2.2.2.1
     replace h12:=f3 _ _ _ h12 (Ne.symm DQ.out.2.2.2.2.2.2.2.2.1)
     replace h13:=f3 _ _ _ h13 (Ne.symm DQ.out.2.2.2.2.2.2.2.2.2.2.2.2.1)
     replace rows:=rows.stay o11 hk hs f2
     replace h11:=f1
     clear eW f1 f2 f3 f4 hk hs xf
     clear gc
     clear c259 c260 c261 c262 c263 c264 c265 c266 c267 c268 c269 c270 c271 c272 c273 c274 c275 c276 c277 c278 c279 c280 c281 c282 c283 c284 c285 c286
     obtain⟨c287,c288,c289,c290,c291,c292,c293,c294⟩:=h4.q8
     obtain⟨c295,c296,c297,c298,c299,c300⟩:=h7.q6
     obtain⟨c301,c302⟩:=h10.q2
     obtain⟨c303,c304,c305,c306⟩:=h11.q4
     obtain⟨c307,c308,c309,c310⟩:=h12.q4
     obtain⟨c311,c312,c313,c314⟩:=h13.q4
     have hSt:=fun u (hB:Below w.heap.size w u) (rows:Rows7 u (.slice AW n CW) (.slice AM n CM) (.slice AV n CV) (.slice A1 n C1) (.slice B1 n D1) (.slice A2 n C2) (.slice B2 n D2) Ws Ms Vs r1 q1 r2 q2)=>aStep_all lr b1 b2 eps wd p2 p3 _ _ _ _ Ws Ms Vs gi u rows.1 rows.2.1 rows.2.2.1 (igi.below hB) F hF hr ilr ib1 ib2 ieps iwd ip2 ip3 aW aM aV aG (by rw[ll.1];exact sn6)
     go_wp2_with fail
     refine (hSt _ hB rows).mono ?_
     rintro e w42 ⟨hres,b42⟩
     replace h4:=h4.b b42
     replace h7:=h7.b b42
     replace h10:=h10.b b42
     replace h11:=h11.b b42
     replace h12:=h12.b b42
     replace h13:=h13.b b42
     replace rows:=rows.b b42
     replace hB:=bOn hB b42
     clear c287 c288 c289 c290 c291 c292 c293 c294 c295 c296 c297 c298 c299 c300 c301 c302 c303 c304 c305 c306 c307 c308 c309 c310 c311 c312 c313 c314
     obtain⟨c315,c316,c317,c318,c319,c320,c321,c322⟩:=h4.q8
     obtain⟨c323,c324,c325,c326,c327,c328⟩:=h7.q6
     obtain⟨c329,c330⟩:=h10.q2
     obtain⟨c331,c332,c333,c334⟩:=h11.q4
     obtain⟨c335,c336,c337,c338⟩:=h12.q4
     obtain⟨c339,c340,c341,c342⟩:=h13.q4
     rcases hres with ⟨va,vb,vc,Wn,Mn,Vn,rfl,ra,rb,rc,lWn,lMn,lVn,lG,aWn,aMn,aVn,eM,eV⟩ | ⟨er,her,rfl⟩;rotate_left
     ·have he1:(er != 0)=true:=by simpa using her
      have he2:(er == 0)=false:=by simpa using her
      have he3:decide (er=0)=false:=decide_eq_false her
      have hKn:=fun k z m o w=>kept_some k z m o none 0 [] w (IsI.nil w) (by simp) (by simp)
      rw[show ([]:List Int).length=0 from rfl] at hKn
      clear her
      obtain⟨X44,V44,h15,bV44,lX44,nX44,EV44⟩:=boxL hB 64 #[.slice none 0 0,.slice none 0 0,.slice none 0 0,.slice none 0 0]
      have dX44_h4:=nX44 _ h4.lt
      have dX44_h7:=nX44 _ h7.lt
      have dX44_h10:=nX44 _ h10.lt
      have dX44_h11:=nX44 _ h11.lt
      have dX44_h12:=nX44 _ h12.lt
      have dX44_h13:=nX44 _ h13.lt
      clear nX44
      go_upto_region 16 with fail
      rw[←EV44.out.1,←EV44.out.2]
      replace h4:=h4.b bV44
      replace h7:=h7.b bV44
      replace h10:=h10.b bV44
      replace h11:=h11.b bV44
      replace h12:=h12.b bV44
      replace h13:=h13.b bV44
      replace rows:=rows.b bV44
      replace hB:=bOn hB bV44
      clear c315 c316 c317 c318 c319 c320 c321 c322 c323 c324 c325 c326 c327 c328 c329 c330 c331 c332 c333 c334 c335 c336 c337 c338 c339 c340 c341 c342
      obtain⟨c343,c344,c345,c346,c347,c348,c349,c350⟩:=h4.q8
      obtain⟨c351,c352,c353,c354,c355,c356⟩:=h7.q6
      obtain⟨c357,c358⟩:=h10.q2
      obtain⟨c359,c360,c361,c362⟩:=h11.q4
      obtain⟨c363,c364,c365,c366⟩:=h12.q4
      obtain⟨c367,c368,c369,c370⟩:=h13.q4
      obtain⟨c371,c372,c373,c374⟩:=h15.q4
      go_wp2_with fail
      refine (hKn _ _ _ _ _).mono ?_
      rintro e w46 ⟨a5,a6,a7,rfl,b46⟩
      replace h4:=h4.b b46
      replace h7:=h7.b b46
      replace h10:=h10.b b46
      replace h11:=h11.b b46
      replace h12:=h12.b b46
      replace h13:=h13.b b46
      replace rows:=rows.b b46
      replace h15:=h15.b b46
      replace hB:=bOn hB b46
      clear c343 c344 c345 c346 c347 c348 c349 c350 c351 c352 c353 c354 c355 c356 c357 c358 c359 c360 c361 c362 c363 c364 c365 c366 c367 c368 c369 c370 c371 c372 c373 c374
      obtain⟨c375,c376,c377,c378,c379,c380,c381,c382⟩:=h4.q8
      obtain⟨c383,c384,c385,c386,c387,c388⟩:=h7.q6
      obtain⟨c389,c390⟩:=h10.q2
      obtain⟨c391,c392,c393,c394⟩:=h11.q4
      obtain⟨c395,c396,c397,c398⟩:=h12.q4
      obtain⟨c399,c400,c401,c402⟩:=h13.q4
      obtain⟨c403,c404,c405,c406⟩:=h15.q4
      go_wp2_with fail
      refine (hKn _ _ _ _ _).mono ?_
      rintro e w48 ⟨a8,a9,a10,rfl,b48⟩
      replace h4:=h4.b b48
      replace h7:=h7.b b48
      replace h10:=h10.b b48
      replace h11:=h11.b b48
      replace h12:=h12.b b48
      replace h13:=h13.b b48
      replace rows:=rows.b b48
      replace h15:=h15.b b48
      replace hB:=bOn hB b48
      clear c375 c376 c377 c378 c379 c380 c381 c382 c383 c384 c385 c386 c387 c388 c389 c390 c391 c392 c393 c394 c395 c396 c397 c398 c399 c400 c401 c402 c403 c404 c405 c406
      obtain⟨c407,c408,c409,c410,c411,c412,c413,c414⟩:=h4.q8
      obtain⟨c415,c416,c417,c418,c419,c420⟩:=h7.q6
      obtain⟨c421,c422⟩:=h10.q2
      obtain⟨c423,c424,c425,c426⟩:=h11.q4
      obtain⟨c427,c428,c429,c430⟩:=h12.q4
      obtain⟨c431,c432,c433,c434⟩:=h13.q4
      obtain⟨c435,c436,c437,c438⟩:=h15.q4
      go_wp2_with fail
      refine (hA _).mono ?_
      rintro e w50 ⟨rfl,b50⟩
      replace h4:=h4.b b50
      replace h7:=h7.b b50
      replace h10:=h10.b b50
      replace h11:=h11.b b50
      replace h12:=h12.b b50
      replace h13:=h13.b b50
      replace rows:=rows.b b50
      replace h15:=h15.b b50
      replace hB:=bOn hB b50
      clear c407 c408 c409 c410 c411 c412 c413 c414 c415 c416 c417 c418 c419 c420 c421 c422 c423 c424 c425 c426 c427 c428 c429 c430 c431 c432 c433 c434 c435 c436 c437 c438
      obtain⟨c439,c440,c441,c442,c443,c444,c445,c446⟩:=h4.q8
      obtain⟨c447,c448,c449,c450,c451,c452⟩:=h7.q6
      obtain⟨c453,c454⟩:=h10.q2
      obtain⟨c455,c456,c457,c458⟩:=h11.q4
      obtain⟨c459,c460,c461,c462⟩:=h12.q4
      obtain⟨c463,c464,c465,c466⟩:=h13.q4
      obtain⟨c467,c468,c469,c470⟩:=h15.q4
      go_wp2
      go_ret
      exact⟨rfl,hB⟩
     have offW:Off4 XB XE XG XH va:=⟨off_arr ra h10 (by decide),off_arr ra h11 (by decide),off_arr ra h12 (by decide),off_arr ra h13 (by decide)⟩
     have hra:=ra.is
     obtain⟨ga,na,ea,hla,_,_⟩:=id ra
     obtain⟨gm,nm,em,hlm,_,_⟩:=id rb
     obtain⟨gv,nv,ev,hlv,_,_⟩:=id rc
     obtain⟨l1,l2,l3,l4,l5,l6,l7⟩:=ll
     rw[lWn,l1] at hla
     rw[lMn,l1] at hlm
     rw[lVn,l1] at hlv
     subst hla hlm hlv
     subst ea em ev
     have iMn:=rb.is
     have iVn:=rc.is
     have mM:Mn.length=n:=lMn.trans l1
     have mV:Vn.length=n:=lVn.trans l1
     have mW:Wn.length=n:=lWn.trans l1
     have mG:gi.length=n:=lG.trans l1
     clear ra rb rc
     clear lWn lMn lVn lG
     obtain⟨X44,V44,h15,bV44,lX44,nX44,EV44⟩:=boxL hB 64 #[.slice (some ⟨ga,0,none⟩) n n,.slice (some ⟨gm,0,none⟩) n n,.slice (some ⟨gv,0,none⟩) n n,.slice none 0 0]
     have dX44_h4:=nX44 _ h4.lt
     have dX44_h7:=nX44 _ h7.lt
     have dX44_h10:=nX44 _ h10.lt
     have dX44_h11:=nX44 _ h11.lt
     have dX44_h12:=nX44 _ h12.lt
     have dX44_h13:=nX44 _ h13.lt
     clear nX44
     go_upto_region 16 with fail
     rw[←EV44.out.1,←EV44.out.2]
     replace h4:=h4.b bV44
     replace h7:=h7.b bV44
     replace h10:=h10.b bV44
     replace h11:=h11.b bV44
     replace h12:=h12.b bV44
     replace h13:=h13.b bV44
     replace rows:=rows.b bV44
     replace hra:=hra.b bV44
     replace iMn:=iMn.b bV44
     replace iVn:=iVn.b bV44
     replace hB:=bOn hB bV44
     clear c315 c316 c317 c318 c319 c320 c321 c322 c323 c324 c325 c326 c327 c328 c329 c330 c331 c332 c333 c334 c335 c336 c337 c338 c339 c340 c341 c342
     obtain⟨c343,c344,c345,c346,c347,c348,c349,c350⟩:=h4.q8
     obtain⟨c351,c352,c353,c354,c355,c356⟩:=h7.q6
     obtain⟨c357,c358⟩:=h10.q2
     obtain⟨c359,c360,c361,c362⟩:=h11.q4
     obtain⟨c363,c364,c365,c366⟩:=h12.q4
     obtain⟨c367,c368,c369,c370⟩:=h13.q4
     obtain⟨c371,c372,c373,c374⟩:=h15.q4
     have im64:∀x∈Mn,I64 x:=fun x hx=>aMn.mem hx
     have iv64:∀x∈Vn,I64 x:=fun x hx=>aVn.mem hx
     have hMl:Mn.length≤4000:=by rw[mM];exact sn4
     have hVl:Vn.length≤4000:=by rw[mV];exact sn4
     have hKv:=fun w h=>kept_some k' z' m' o' (some ⟨gv,0,none⟩) n Vn w h iv64 hVl
     rw[mV] at hKv
     rcases ofE_or (k:=k) (z:=z) (m:=m) (o:=o) (l:=Mn) (by rw[mM];exact sn5) with hke | hke;rotate_left
     ·have hKn:=fun w h=>kept_no k z m o (some ⟨gm,0,none⟩) n Mn w h im64 hke
      rw[mM] at hKn
      clear hke
      go_wp2_with fail
      refine (hKn _ iMn).mono ?_
      rintro e w46 ⟨rfl,b46⟩
      replace h4:=h4.b b46
      replace h7:=h7.b b46
      replace h10:=h10.b b46
      replace h11:=h11.b b46
      replace h12:=h12.b b46
      replace h13:=h13.b b46
      replace rows:=rows.b b46
      replace hra:=hra.b b46
      replace iMn:=iMn.b b46
      replace iVn:=iVn.b b46
      replace h15:=h15.b b46
      replace hB:=bOn hB b46
      clear c343 c344 c345 c346 c347 c348 c349 c350 c351 c352 c353 c354 c355 c356 c357 c358 c359 c360 c361 c362 c363 c364 c365 c366 c367 c368 c369 c370 c371 c372 c373 c374
      obtain⟨c375,c376,c377,c378,c379,c380,c381,c382⟩:=h4.q8
      obtain⟨c383,c384,c385,c386,c387,c388⟩:=h7.q6
      obtain⟨c389,c390⟩:=h10.q2
      obtain⟨c391,c392,c393,c394⟩:=h11.q4
      obtain⟨c395,c396,c397,c398⟩:=h12.q4
      obtain⟨c399,c400,c401,c402⟩:=h13.q4
      obtain⟨c403,c404,c405,c406⟩:=h15.q4
      go_wp2_with fail
      refine (hKv _ iVn).mono ?_
      rintro e w48 ⟨a8,a9,a10,rfl,b48⟩
      replace h4:=h4.b b48
      replace h7:=h7.b b48
      replace h10:=h10.b b48
      replace h11:=h11.b b48
      replace h12:=h12.b b48
      replace h13:=h13.b b48
      replace rows:=rows.b b48
      replace hra:=hra.b b48
      replace iMn:=iMn.b b48
      replace iVn:=iVn.b b48
      replace h15:=h15.b b48
      replace hB:=bOn hB b48
      clear c375 c376 c377 c378 c379 c380 c381 c382 c383 c384 c385 c386 c387 c388 c389 c390 c391 c392 c393 c394 c395 c396 c397 c398 c399 c400 c401 c402 c403 c404 c405 c406
      obtain⟨c407,c408,c409,c410,c411,c412,c413,c414⟩:=h4.q8
      obtain⟨c415,c416,c417,c418,c419,c420⟩:=h7.q6
      obtain⟨c421,c422⟩:=h10.q2
      obtain⟨c423,c424,c425,c426⟩:=h11.q4
      obtain⟨c427,c428,c429,c430⟩:=h12.q4
      obtain⟨c431,c432,c433,c434⟩:=h13.q4
      obtain⟨c435,c436,c437,c438⟩:=h15.q4
      go_wp2_with fail
      refine (hA _).mono ?_
      rintro e w50 ⟨rfl,b50⟩
      replace h4:=h4.b b50
      replace h7:=h7.b b50
      replace h10:=h10.b b50
      replace h11:=h11.b b50
      replace h12:=h12.b b50
      replace h13:=h13.b b50
      replace rows:=rows.b b50
      replace hra:=hra.b b50
      replace iMn:=iMn.b b50
      replace iVn:=iVn.b b50
      replace h15:=h15.b b50
      replace hB:=bOn hB b50
      clear c407 c408 c409 c410 c411 c412 c413 c414 c415 c416 c417 c418 c419 c420 c421 c422 c423 c424 c425 c426 c427 c428 c429 c430 c431 c432 c433 c434 c435 c436 c437 c438
      obtain⟨c439,c440,c441,c442,c443,c444,c445,c446⟩:=h4.q8
      obtain⟨c447,c448,c449,c450,c451,c452⟩:=h7.q6
      obtain⟨c453,c454⟩:=h10.q2
      obtain⟨c455,c456,c457,c458⟩:=h11.q4
      obtain⟨c459,c460,c461,c462⟩:=h12.q4
      obtain⟨c463,c464,c465,c466⟩:=h13.q4
      obtain⟨c467,c468,c469,c470⟩:=h15.q4
      go_wp2
      go_ret
      exact⟨rfl,hB⟩
     have hKy1:=fun w h=>kept_yes k z m o (some ⟨gm,0,none⟩) n Mn w h im64 hMl hke
     have near1:=near_all hke
     obtain⟨_,_,hld1⟩:=few_of im64 hke
     have qsz1:∀q∈quantS (bksTo k z m o Mn (partN z.toNat Mn.length)),BQ q 20:=fun q hq=>sz_quant hld1 hq
     have msz1:=fun x hx=>load_in im64 hke (x:=x) hx
     rw[show ofS k z m o Mn=(k,z,m,o,(Mn.length:Int),bksTo k z m o Mn (partN z.toNat Mn.length)) from if_pos hke] at msz1
     simp only at msz1
     generalize loadS (bksTo k z m o Mn (partN z.toNat Mn.length))=ms1 at *
     generalize quantS (bksTo k z m o Mn (partN z.toNat Mn.length))=qs1 at *
     obtain⟨lms1,lqs1, -⟩:=id near1
     rw[mM] at hKy1 lms1 lqs1
     rw[lms1] at hKy1
     clear hld1
     go_wp2_with fail
     refine (hKy1 _ iMn).mono ?_
     rintro e w46 ⟨vm1,vq1,rfl,om,oq,b46⟩
     replace h4:=h4.b b46
     replace h7:=h7.b b46
     replace h10:=h10.b b46
     replace h11:=h11.b b46
     replace h12:=h12.b b46
     replace h13:=h13.b b46
     replace rows:=rows.b b46
     replace hra:=hra.b b46
     replace iMn:=iMn.b b46
     replace iVn:=iVn.b b46
     replace h15:=h15.b b46
     replace hB:=bOn hB b46
     clear c343 c344 c345 c346 c347 c348 c349 c350 c351 c352 c353 c354 c355 c356 c357 c358 c359 c360 c361 c362 c363 c364 c365 c366 c367 c368 c369 c370 c371 c372 c373 c374
     obtain⟨c375,c376,c377,c378,c379,c380,c381,c382⟩:=h4.q8
     obtain⟨c383,c384,c385,c386,c387,c388⟩:=h7.q6
     obtain⟨c389,c390⟩:=h10.q2
     obtain⟨c391,c392,c393,c394⟩:=h11.q4
     obtain⟨c395,c396,c397,c398⟩:=h12.q4
     obtain⟨c399,c400,c401,c402⟩:=h13.q4
     obtain⟨c403,c404,c405,c406⟩:=h15.q4
     have off1:Off4 XB XE XG XH vm1:=⟨off_ownsI om h10 (by decide),off_ownsI om h11 (by decide),off_ownsI om h12 (by decide),off_ownsI om h13 (by decide)⟩
     obtain⟨Am1,Cm1,rfl,_,_,_⟩:=own_form om
     have iv1:IsI _ _ ms1:=IsI.of_own (by rw[lms1];exact om)
     obtain⟨Aq1,Cq1,rfl⟩:=oq.len2 lqs1
     have kq1:=oq.is
     clear om oq
     rcases ofE_or (k:=k') (z:=z') (m:=m') (o:=o') (l:=Vn) (by rw[mV];exact sn5) with hkf | hkf;rotate_left
     ·have hKn:=fun w h=>kept_no k' z' m' o' (some ⟨gv,0,none⟩) n Vn w h iv64 hkf
      rw[mV] at hKn
      clear hkf
      go_wp2_with fail
      refine (hKn _ iVn).mono ?_
      rintro e w48 ⟨rfl,b48⟩
      replace h4:=h4.b b48
      replace h7:=h7.b b48
      replace h10:=h10.b b48
      replace h11:=h11.b b48
      replace h12:=h12.b b48
      replace h13:=h13.b b48
      replace rows:=rows.b b48
      replace hra:=hra.b b48
      replace iVn:=iVn.b b48
      replace h15:=h15.b b48
      replace iv1:=iv1.b b48
      replace kq1:=kq1.b b48
      replace hB:=bOn hB b48
      clear c375 c376 c377 c378 c379 c380 c381 c382 c383 c384 c385 c386 c387 c388 c389 c390 c391 c392 c393 c394 c395 c396 c397 c398 c399 c400 c401 c402 c403 c404 c405 c406
      obtain⟨c407,c408,c409,c410,c411,c412,c413,c414⟩:=h4.q8
      obtain⟨c415,c416,c417,c418,c419,c420⟩:=h7.q6
      obtain⟨c421,c422⟩:=h10.q2
      obtain⟨c423,c424,c425,c426⟩:=h11.q4
      obtain⟨c427,c428,c429,c430⟩:=h12.q4
      obtain⟨c431,c432,c433,c434⟩:=h13.q4
      obtain⟨c435,c436,c437,c438⟩:=h15.q4
      go_wp2_with fail
      refine (hA _).mono ?_
      rintro e w50 ⟨rfl,b50⟩
      replace h4:=h4.b b50
      replace h7:=h7.b b50
      replace h10:=h10.b b50
      replace h11:=h11.b b50
      replace h12:=h12.b b50
      replace h13:=h13.b b50
      replace rows:=rows.b b50
      replace hra:=hra.b b50
      replace iVn:=iVn.b b50
      replace h15:=h15.b b50
      replace iv1:=iv1.b b50
      replace kq1:=kq1.b b50
      replace hB:=bOn hB b50
      clear c407 c408 c409 c410 c411 c412 c413 c414 c415 c416 c417 c418 c419 c420 c421 c422 c423 c424 c425 c426 c427 c428 c429 c430 c431 c432 c433 c434 c435 c436 c437 c438
      obtain⟨c439,c440,c441,c442,c443,c444,c445,c446⟩:=h4.q8
      obtain⟨c447,c448,c449,c450,c451,c452⟩:=h7.q6
      obtain⟨c453,c454⟩:=h10.q2
      obtain⟨c455,c456,c457,c458⟩:=h11.q4
      obtain⟨c459,c460,c461,c462⟩:=h12.q4
      obtain⟨c463,c464,c465,c466⟩:=h13.q4
      obtain⟨c467,c468,c469,c470⟩:=h15.q4
      go_wp2
      go_ret
      exact⟨rfl,hB⟩
     clear hKv
     have hKy2:=fun w h=>kept_yes k' z' m' o' (some ⟨gv,0,none⟩) n Vn w h iv64 hVl hkf
     have near2:=near_all hkf
     obtain⟨_,_,hld2⟩:=few_of iv64 hkf
     have qsz2:∀q∈quantS (bksTo k' z' m' o' Vn (partN z'.toNat Vn.length)),BQ q 20:=fun q hq=>sz_quant hld2 hq
     have msz2:=fun x hx=>load_in iv64 hkf (x:=x) hx
     rw[show ofS k' z' m' o' Vn=(k',z',m',o',(Vn.length:Int),bksTo k' z' m' o' Vn (partN z'.toNat Vn.length)) from if_pos hkf] at msz2
     simp only at msz2
     generalize loadS (bksTo k' z' m' o' Vn (partN z'.toNat Vn.length))=ms2 at *
     generalize quantS (bksTo k' z' m' o' Vn (partN z'.toNat Vn.length))=qs2 at *
     obtain⟨lms2,lqs2, -⟩:=id near2
     rw[mV] at hKy2 lms2 lqs2
     rw[lms2] at hKy2
     clear hld2
     go_wp2_with fail
     refine (hKy2 _ iVn).mono ?_
     rintro e w48 ⟨vm2,vq2,rfl,om,oq,b48⟩
     replace h4:=h4.b b48
     replace h7:=h7.b b48
     replace h10:=h10.b b48
     replace h11:=h11.b b48
     replace h12:=h12.b b48
     replace h13:=h13.b b48
     replace rows:=rows.b b48
     replace hra:=hra.b b48
     replace iVn:=iVn.b b48
     replace h15:=h15.b b48
     replace iv1:=iv1.b b48
     replace kq1:=kq1.b b48
     replace hB:=bOn hB b48
     clear c375 c376 c377 c378 c379 c380 c381 c382 c383 c384 c385 c386 c387 c388 c389 c390 c391 c392 c393 c394 c395 c396 c397 c398 c399 c400 c401 c402 c403 c404 c405 c406
     obtain⟨c407,c408,c409,c410,c411,c412,c413,c414⟩:=h4.q8
     obtain⟨c415,c416,c417,c418,c419,c420⟩:=h7.q6
     obtain⟨c421,c422⟩:=h10.q2
     obtain⟨c423,c424,c425,c426⟩:=h11.q4
     obtain⟨c427,c428,c429,c430⟩:=h12.q4
     obtain⟨c431,c432,c433,c434⟩:=h13.q4
     obtain⟨c435,c436,c437,c438⟩:=h15.q4
     have off2:Off4 XB XE XG XH vm2:=⟨off_ownsI om h10 (by decide),off_ownsI om h11 (by decide),off_ownsI om h12 (by decide),off_ownsI om h13 (by decide)⟩
     obtain⟨Am2,Cm2,rfl,_,_,_⟩:=own_form om
     have iv2:IsI _ _ ms2:=IsI.of_own (by rw[lms2];exact om)
     obtain⟨Aq2,Cq2,rfl⟩:=oq.len2 lqs2
     have kq2:=oq.is
     clear om oq
     obtain⟨ok1,gdn1⟩:=first_all gd1 j3 hF hp1 ib1 aG l2 mM mG lms1 near1 qsz1 eM
     obtain⟨ok2,gdn2⟩:=second_all gd2 j3 hF hp2 r2' ib2 aG l3 mV mG lms2 near2 qsz2 eV
     have am1:AllIn ms1:=AllIn.of_mem msz1
     have am2:AllIn ms2:=AllIn.of_mem msz2
     have hNu1:=fun u (hS:Below w48.heap.size w48 u) (hB:Below w.heap.size w u)=>(numbers_false (.slice Bg gi.length Cg) gi F u (igi.below hB) aG hF (by rw[mG];exact sn)).mono (fun e w' (h:∃v',e= .returned v'∧OwnQs w' u.heap.size v' ((List.range gi.length).map fun i=>numQ false F (iat gi i))∧Below u.heap.size u w')=>(let ⟨v',e1,e2,e3⟩:=h;⟨v',e1,e2.is,e3⟩:∃v',e= .returned v'∧IsQs w' v' ((List.range gi.length).map fun i=>numQ false F (iat gi i))∧Below u.heap.size u w'))
     have hNu2:=fun u (hS:Below w48.heap.size w48 u) (hB:Below w.heap.size w u)=>(numbers_true (.slice Bg gi.length Cg) gi F u (igi.below hB) aG hF (by rw[mG];exact sn)).mono (fun e w' (h:∃v',e= .returned v'∧OwnQs w' u.heap.size v' ((List.range gi.length).map fun i=>numQ true F (iat gi i))∧Below u.heap.size u w')=>(let ⟨v',e1,e2,e3⟩:=h;⟨v',e1,e2.is,e3⟩:∃v',e= .returned v'∧IsQs w' v' ((List.range gi.length).map fun i=>numQ true F (iat gi i))∧Below u.heap.size u w'))
     rw[mG] at hNu1 hNu2
     have ln1:((List.range n).map fun i=>numQ false F (iat gi i)).length=n:=by simp
     have ln2:((List.range n).map fun i=>numQ true F (iat gi i)).length=n:=by simp
     obtain⟨nu1,hnu1⟩:∃l,l=(List.range n).map fun i=>numQ false F (iat gi i):=⟨_,rfl⟩
     obtain⟨nu2,hnu2⟩:∃l,l=(List.range n).map fun i=>numQ true F (iat gi i):=⟨_,rfl⟩
     rw[←hnu1] at hNu1 ok1 gdn1 ln1
     rw[←hnu2] at hNu2 ok2 gdn2 ln2
     have hOn1:=fun v u (hS:Below w48.heap.size w48 u) (h:IsQs u v nu1)=>on_any b1 2 F _ _ _ _ _ r1 q1 nu1 qs1 ms1 n u hF ib1 hp1 r1' (by decide) (by decide) (rows.2.2.2.1.below hS) (rows.2.2.2.2.1.below hS) h (kq1.below hS) (iv1.below hS) am1 lms1 l4 l5 ln1 lqs1 sn ok1
     have hOn2:=fun v u (hS:Below w48.heap.size w48 u) (h:IsQs u v nu2)=>on_any b2 3 F _ _ _ _ _ r2 q2 nu2 qs2 ms2 n u hF ib2 hp2 r2' (by decide) (by decide) (rows.2.2.2.2.2.1.below hS) (rows.2.2.2.2.2.2.below hS) h (kq2.below hS) (iv2.below hS) am2 lms2 l6 l7 ln2 lqs2 sn ok2
     obtain⟨R1,hR1⟩:∃l,l=(List.range n).map (newR b1 F r1 nu1):=⟨_,rfl⟩
     obtain⟨Q1,hQ1⟩:∃l,l=(List.range n).map (newB b1 F 2 q1 qs1):=⟨_,rfl⟩
     obtain⟨R2,hR2⟩:∃l,l=(List.range n).map (newR b2 F r2 nu2):=⟨_,rfl⟩
     obtain⟨Q2,hQ2⟩:∃l,l=(List.range n).map (newB b2 F 3 q2 qs2):=⟨_,rfl⟩
     have lR1:R1.length=n:=by rw[hR1];simp
     have lQ1:Q1.length=n:=by rw[hQ1];simp
     have lR2:R2.length=n:=by rw[hR2];simp
     have lQ2:Q2.length=n:=by rw[hQ2];simp
     rw[←hR1,←hQ1] at gdn1
     rw[←hR2,←hQ2] at gdn2
     have hOw1:=fun v u (hS:Below w48.heap.size w48 u) (h:IsQs u v nu1)=>(hOn1 v u hS h).mono (fun e w' hh=>(let ⟨v1,v2,e1,e2,e3,e4⟩:=hh;⟨v1,v2,e1,by rw[hR1];exact e2.lower hS.size,by rw[hQ1];exact e3.lower hS.size,e4⟩:∃v1 v2,e= .returned (.tuple #[.agg #[.int .i64 b1,.int .i64 F,v1,v2],.bool true])∧OwnQs w' w48.heap.size v1 R1∧OwnQs w' w48.heap.size v2 Q1∧Below u.heap.size u w'))
     have hOw2:=fun v u (hS:Below w48.heap.size w48 u) (h:IsQs u v nu2)=>(hOn2 v u hS h).mono (fun e w' hh=>(let ⟨v1,v2,e1,e2,e3,e4⟩:=hh;⟨v1,v2,e1,by rw[hR2];exact e2.lower hS.size,by rw[hQ2];exact e3.lower hS.size,e4⟩:∃v1 v2,e= .returned (.tuple #[.agg #[.int .i64 b2,.int .i64 F,v1,v2],.bool true])∧OwnQs w' w48.heap.size v1 R2∧OwnQs w' w48.heap.size v2 Q2∧Below u.heap.size u w'))
     have AT1:=Lib.hid (And.intro hra (And.intro iv1 iv2))
     have GN:=Lib.hid (And.intro gdn1 gdn2)
     have hS:=Below.refl w48.heap.size w48
     clear hOn1 hOn2 hR1 hQ1 hR2 hQ2 hnu1 hnu2 ok1 ok2 gdn1 gdn2 gd1 gd2 near1 near2 qsz1 qsz2 msz1 msz2 eM eV rows hra iv1 iv2 kq1 kq2
     have hB2:=hB
     have gc:=cellAU hB gc0
     go_upto_region 20 with fail
     clear c407 c408 c409 c410 c411 c412 c413 c414 c415 c416 c417 c418 c419 c420 c421 c422 c423 c424 c425 c426 c427 c428 c429 c430 c431 c432 c433 c434 c435 c436 c437 c438
     replace hB:=hB.drew
     replace h4:=h4.drew
     replace h7:=h7.drew
     replace h10:=h10.drew
     replace h11:=h11.drew
     replace h12:=h12.drew
     replace h13:=h13.drew
     replace h15:=h15.drew
     replace hS:=hS.drew
     replace hB2:=hB2.drew
     replace gc:=cellAU (bdrew _) gc
     refine wp_region_noPanic ?_
     refine wp_region_held_drew (S:=fun w'=>World.grownBy w48.drew w' (some (w48.drew.heap.size))) (by kernel_rfl) (grown_of (Below.refl _ _) _) (fun hHeld=>?_)
     obtain⟨wd20_6,hwd⟩:∃q,q=w48.drew:=⟨_,rfl⟩
     rw[←hwd] at hB h4 h7 h10 h11 h12 h13 h15 hS hB2 gc hHeld ⊢
     clear hwd
     refine tkH 0 rfl (v:=?v26) ?h26 ?r26
     case h26=>
      intro w hSw
      (try dsimp only at hSw)
      obtain⟨yh12_0,yh12_1,yh12_2,yh12_3⟩:=(Blk.grownT h12 hSw (fun e=>absurd (Option.some.inj e) (Nat.ne_of_lt h12.lt))).q4
      have xgc:=cellGrown gc hSw (fun e=>absurd (Option.some.inj e) (Nat.ne_of_lt (World.block_lt_of_cell? _ _ gc)))
      go_simp
      try (with_reducible rfl)
     refine tkA 1 rfl ?_
     refine tkA 2 rfl ?_
     refine tkA 3 rfl ?_
     refine tkH 4 rfl (v:=?v30) ?h30 ?r30
     case h30=>
      intro w hSw
      (try dsimp only at hSw)
      obtain⟨yh12_0,yh12_1,yh12_2,yh12_3⟩:=(Blk.grownT h12 hSw (fun e=>absurd (Option.some.inj e) (Nat.ne_of_lt h12.lt))).q4
      have xgc:=cellGrown gc hSw (fun e=>absurd (Option.some.inj e) (Nat.ne_of_lt (World.block_lt_of_cell? _ _ gc)))
      go_simp
      try (with_reducible rfl)
     refine tkA 5 rfl ?_
     refine tkA 7 rfl ?_
     refine tkA 8 rfl ?_
     try simp only[Act.put,lay]
     refine wpAnyH_facts [(6,138),(9,141),(13,23)] [(10,131),(11,142),(12,143)] [12] (pick [(6,fun (v:Value) (w:World)=>∃x6,x6=v∧IsQs w x6 nu1),(9,fun (v:Value) (w:World)=>∃A51 C51 A52 C52,.tuple #[.agg #[.int .i64 b1,.int .i64 F,.slice A51 n C51,.slice A52 n C52],.bool true]=v∧OwnQs w w48.heap.size (.slice A51 n C51) R1∧OwnQs w w48.heap.size (.slice A52 n C52) Q1),(10,fun (v:Value) (w:World)=>∃A51 C51 A52 C52,.tuple #[.agg #[.int .i64 b1,.int .i64 F,.slice A51 n C51,.slice A52 n C52],.bool true]=v∧OwnQs w w48.heap.size (.slice A51 n C51) R1∧OwnQs w w48.heap.size (.slice A52 n C52) Q1),(11,fun (v:Value) (w:World)=>∃A51 C51 A52 C52,.agg #[.int .i64 b1,.int .i64 F,.slice A51 n C51,.slice A52 n C52]=v∧OwnQs w w48.heap.size (.slice A51 n C51) R1∧OwnQs w w48.heap.size (.slice A52 n C52) Q1),(12,fun (v:Value) (w:World)=>.bool true=v),(13,fun (v:Value) (w:World)=>∃XJ,.pointer (some ⟨XJ,0,none⟩)=v∧wd20_6.heap.size≤XJ∧Blk w XJ 90 #[.int .i64 0,.int .i64 0,.slice none 0 0,.slice none 0 0])]) #[true,true,true,true,true,true,true,true,true,true,true,true,true,true,false,false] (fun _ h=>grown_of h _) (pick_pers (show PersAll _ from ⟨fun _ _ _ b ⟨x6,e,g6⟩=>⟨x6,e,g6.below b⟩,fun _ _ _ b ⟨A51,C51,A52,C52,e,g51,g52⟩=>⟨A51,C51,A52,C52,e,g51.below b,g52.below b⟩,fun _ _ _ b ⟨A51,C51,A52,C52,e,g51,g52⟩=>⟨A51,C51,A52,C52,e,g51.below b,g52.below b⟩,fun _ _ _ b ⟨A51,C51,A52,C52,e,g51,g52⟩=>⟨A51,C51,A52,C52,e,g51.below b,g52.below b⟩,fun _ _ _ _ e=>e,fun _ _ _ b ⟨X,e,l,h⟩=>⟨X,e,l,h.below b h.lt⟩,trivial⟩)) (hord_of (by kernel_rfl)) (by kernel_rfl) (by kernel_rfl) (by kernel_rfl) (by kernel_rfl) (fun _ _ _ _ _ h=>h) ?ops6 ?pur6 ?done6 (Below.refl _ _) (Nat.le_of_ble_eq_true (by kernel_rfl))
     case ops6=>
      refine .cons rfl (fun a w zS K hK=>?_) ?_
      ·have hS:=bOn hS zS.1
       have hB2:=bOn hB2 zS.1
       have e136:=zS.2.1 136 _ (by kernel_rfl) rfl
       have e137:=zS.2.1 137 _ (by kernel_rfl) rfl
       go_simp
       refine (hNu1 _ hS hB2).mono ?_
       rintro e w' ⟨x6,rfl,g6,b⟩
       exact hK _ _ ⟨x6,rfl,g6⟩ b
      refine .cons rfl (fun a w zS K hK=>?_) ?_
      ·have hS:=bOn hS zS.1
       have e132:=zS.2.1 132 _ (by kernel_rfl) rfl
       obtain⟨v138,e138,x6,rfl,g6⟩:=zS.2.2 6 138 (by kernel_rfl)
       have e139:=zS.2.1 139 _ (by kernel_rfl) rfl
       have e140:=zS.2.1 140 _ (by kernel_rfl) rfl
       go_simp
       refine (hOw1 _ _ hS g6).mono ?_
       rintro e w' ⟨x9,y9,rfl,g51,g52,b⟩
       obtain⟨A51,C51,rfl⟩:=g51.len2 lR1
       obtain⟨A52,C52,rfl⟩:=g52.len2 lQ1
       exact hK _ _ ⟨A51,C51,A52,C52,rfl,g51,g52⟩ b
      refine .cons rfl (fun a w zS K hK=>?_) ?_
      ·go_simp
       exact hK _ _ ⟨_,rfl,zS.1.size,Blk.new w _ _⟩ ((Below.refl _ w).alloc (Nat.le_refl _) _)
      exact .nil
     case pur6=>
      refine .cons rfl (fun a w zS=>?_) ?_
      ·obtain⟨v141,e141,A51,C51,A52,C52,rfl,g51,g52⟩:=zS.2.2 9 141 (by kernel_rfl)
       exact⟨_,fun w'=>by go_simp<;>rfl,⟨A51,C51,A52,C52,rfl,g51,g52⟩⟩
      refine .cons rfl (fun a w zS=>?_) ?_
      ·obtain⟨v131,e131,A51,C51,A52,C52,rfl,g51,g52⟩:=zS.2.2 10 131 (by kernel_rfl)
       exact⟨_,fun w'=>by go_simp<;>rfl,⟨A51,C51,A52,C52,rfl,g51,g52⟩⟩
      refine .cons rfl (fun a w zS=>?_) ?_
      ·obtain⟨v131,e131,A51,C51,A52,C52,rfl,g51,g52⟩:=zS.2.2 10 131 (by kernel_rfl)
       exact⟨_,fun w'=>by go_simp<;>rfl,rfl⟩
      exact .nil
     case done6=>
      intro fuel a wr20_6 zf zS zdf zsz zs zd
      obtain⟨fuel,rfl⟩:∃n,fuel=n+2:=⟨fuel - 2,by have h:2≤fuel:=Nat.le_trans (Nat.le_of_ble_eq_true (by kernel_rfl)) zf;omega⟩
      clear zf
      have nh4:=h4.lt
      replace h4:=h4.below zS nh4
      have nh7:=h7.lt
      replace h7:=h7.below zS nh7
      have nh10:=h10.lt
      replace h10:=h10.below zS nh10
      have nh11:=h11.lt
      replace h11:=h11.below zS nh11
      have nh12:=h12.lt
      replace h12:=h12.below zS nh12
      have nh13:=h13.lt
      replace h13:=h13.below zS nh13
      have nh15:=h15.lt
      replace h15:=h15.below zS nh15
      have mhS:=hS.size
      replace hS:=bOn hS zS
      have mhB2:=hB2.size
      replace hB2:=bOn hB2 zS
      replace gc:=cellAU zS gc
      obtain⟨v138_,e138_,x6,rfl,g6⟩:=zd 6 138 (by kernel_rfl)
      obtain⟨v141_,e141_,A51_9,C51_9,A52_9,C52_9,rfl, -, -⟩:=zd 9 141 (by kernel_rfl)
      obtain⟨v131_,e131_,A51_10,C51_10,A52_10,C52_10,rfl, -, -⟩:=zd 10 131 (by kernel_rfl)
      obtain⟨v142_,e142_,A51,C51,A52,C52,rfl,g51,g52⟩:=zd 11 142 (by kernel_rfl)
      obtain⟨v143_,e143_,rfl⟩:=zd 12 143 (by kernel_rfl)
      obtain⟨v23_,e23_,XJ,rfl,lXJ,h23⟩:=zd 13 23 (by kernel_rfl)
      obtain rfl:=act_of [(138,x6),(141,.tuple #[.agg #[.int .i64 b1,.int .i64 F,.slice A51_9 n C51_9,.slice A52_9 n C52_9],.bool true]),(23,.pointer (some ⟨XJ,0,none⟩)),(131,.tuple #[.agg #[.int .i64 b1,.int .i64 F,.slice A51_10 n C51_10,.slice A52_10 n C52_10],.bool true]),(142,.agg #[.int .i64 b1,.int .i64 F,.slice A51 n C51,.slice A52 n C52]),(143,.bool true)] ⟨e138_,e141_,e23_,e131_,e142_,e143_,trivial⟩ zdf zsz (fun s h=>zs s h)
      simp only[putAll,List.set_cons_zero,List.set_cons_succ]
      clear zdf zsz zs zd e138_ e141_ e23_ e131_ e142_ e143_
      have kXJ:w.heap.size≤XJ:=Nat.le_trans hB.size lXJ
      have jXJ_hS:=Nat.le_trans mhS lXJ
      clear mhS
      have jXJ_hB2:=Nat.le_trans mhB2 lXJ
      clear mhB2
      have dXJ_h4:g+1≠XJ:=Nat.ne_of_lt (Nat.lt_of_lt_of_le nh4 lXJ)
      have dXJ_h7:XA≠XJ:=Nat.ne_of_lt (Nat.lt_of_lt_of_le nh7 lXJ)
      have dXJ_h10:XB≠XJ:=Nat.ne_of_lt (Nat.lt_of_lt_of_le nh10 lXJ)
      have dXJ_h11:XE≠XJ:=Nat.ne_of_lt (Nat.lt_of_lt_of_le nh11 lXJ)
      have dXJ_h12:XG≠XJ:=Nat.ne_of_lt (Nat.lt_of_lt_of_le nh12 lXJ)
      have dXJ_h13:XH≠XJ:=Nat.ne_of_lt (Nat.lt_of_lt_of_le nh13 lXJ)
      have dXJ_h15:X44≠XJ:=Nat.ne_of_lt (Nat.lt_of_lt_of_le nh15 lXJ)
      replace hB:=bOn hB zS
      clear nh4 nh7 nh10 nh11 nh12 nh13 nh15
      clear gc
      clear g6
      have zG:=grown_of zS (some (wd20_6.heap.size))
      refine rd1 14 rfl fun K hK=>?_
      obtain⟨ws20_14,eu,h23',kz,kb,kB⟩:=fill4 h23 (.int .i64 b1) (.int .i64 F) (.slice A51 n C51) (.slice A52 n C52) (by simp[noU])
      obtain⟨x0,x1,x2,x3⟩:=h23.q4
      have xf:=h23.frozen
      replace zG:=(grown_set (grown_set (grown_set (grown_set zG (p:=⟨XJ,0,none⟩) (.inr (by assumption)) (.int .i64 b1)) (p:=⟨XJ,1,none⟩) (.inr (by assumption)) (.int .i64 F)) (p:=⟨XJ,2,none⟩) (.inr (by assumption)) (.slice A51 n C51)) (p:=⟨XJ,3,none⟩) (.inr (by assumption)) (.slice A52 n C52))
      rw[←eu] at zG
      go_simp
      rw[←eu]
      replace h4:=kb _ _ _ h4 (by first | assumption | exact Ne.symm (by assumption) | omega)
      replace h7:=kb _ _ _ h7 (by first | assumption | exact Ne.symm (by assumption) | omega)
      replace h10:=kb _ _ _ h10 (by first | assumption | exact Ne.symm (by assumption) | omega)
      replace h11:=kb _ _ _ h11 (by first | assumption | exact Ne.symm (by assumption) | omega)
      replace h12:=kb _ _ _ h12 (by first | assumption | exact Ne.symm (by assumption) | omega)
      replace h13:=kb _ _ _ h13 (by first | assumption | exact Ne.symm (by assumption) | omega)
      replace h15:=kb _ _ _ h15 (by first | assumption | exact Ne.symm (by assumption) | omega)
      replace hS:=kB _ _ (by first | assumption | omega) hS
      replace hB2:=kB _ _ (by first | assumption | omega) hB2
      replace g51:=g51.filled (by first | exact ho6 _ (by assumption) | exact OwnQs.neT g51 h23 (by decide)) kz kb
      replace g52:=g52.filled (by first | exact ho6 _ (by assumption) | exact OwnQs.neT g52 h23 (by decide)) kz kb
      replace hB:=kB _ _ (by omega) hB
      replace h23:=h23'
      clear h23' kz kb kB eu xf x0 x1 x2 x3
      refine hK.out _ _ zG (fun hHeld=>?_)
      clear hK K
      refine tkH 15 rfl (v:=?v34) ?h34 ?r34 (hS:=zG)
      case h34=>intro w s;go_simp;try (with_reducible rfl)
      try simp only[Act.put,lay]
      try dsimp only
      try simp only[Act.put,lay]
      refine wpAnyH_done (by kernel_rfl) ?_ _
      refine NoPanic.normal ?_
      clear zG
      obtain⟨c439,c440,c441,c442,c443,c444,c445,c446⟩:=h4.q8
      obtain⟨c447,c448,c449,c450,c451,c452⟩:=h7.q6
      obtain⟨c453,c454⟩:=h10.q2
      obtain⟨c455,c456,c457,c458⟩:=h11.q4
      obtain⟨c459,c460,c461,c462⟩:=h12.q4
      obtain⟨c463,c464,c465,c466⟩:=h13.q4
      obtain⟨c467,c468,c469,c470⟩:=h15.q4
      obtain⟨c471,c472,c473,c474⟩:=h23.q4
      have off51:Off4 XB XE XG XH (.slice A51 n C51):=⟨off_own g51 h10 (by decide),off_own g51 h11 (by decide),off_own g51 h12 (by decide),off_own g51 h13 (by decide)⟩
      have off52:Off4 XB XE XG XH (.slice A52 n C52):=⟨off_own g52 h10 (by decide),off_own g52 h11 (by decide),off_own g52 h12 (by decide),off_own g52 h13 (by decide)⟩
      have gc:=cellAU hB gc0
      go_upto_region 21 with fail
      clear c439 c440 c441 c442 c443 c444 c445 c446 c447 c448 c449 c450 c451 c452 c453 c454 c455 c456 c457 c458 c459 c460 c461 c462 c463 c464 c465 c466 c467 c468 c469 c470 c471 c472 c473 c474
      replace hB:=hB.drew
      replace h4:=h4.drew
      replace h7:=h7.drew
      replace h10:=h10.drew
      replace h11:=h11.drew
      replace h12:=h12.drew
      replace h13:=h13.drew
      replace h15:=h15.drew
      replace hS:=hS.drew
      replace hB2:=hB2.drew
      replace g51:=g51.b (bdrew _)
      replace g52:=g52.b (bdrew _)
      replace h23:=h23.drew
      replace gc:=cellAU (bdrew _) gc
      refine wp_region_noPanic ?_
      refine wp_region_held_drew (S:=fun w'=>World.grownBy ws20_14.drew w' (some (ws20_14.drew.heap.size))) (by kernel_rfl) (grown_of (Below.refl _ _) _) (fun hHeld=>?_)
      obtain⟨wd21_7,hwd⟩:∃q,q=ws20_14.drew:=⟨_,rfl⟩
      rw[←hwd] at hB h4 h7 h10 h11 h12 h13 h15 hS hB2 g51 g52 h23 gc hHeld ⊢
      clear hwd
      refine tkH 0 rfl (v:=?v35) ?h35 ?r35
      case h35=>
       intro w hSw
       (try dsimp only at hSw)
       obtain⟨yh13_0,yh13_1,yh13_2,yh13_3⟩:=(Blk.grownT h13 hSw (fun e=>absurd (Option.some.inj e) (Nat.ne_of_lt h13.lt))).q4
       have xgc:=cellGrown gc hSw (fun e=>absurd (Option.some.inj e) (Nat.ne_of_lt (World.block_lt_of_cell? _ _ gc)))
       go_simp
       try (with_reducible rfl)
      refine tkA 1 rfl ?_
      refine tkA 2 rfl ?_
      refine tkA 3 rfl ?_
      refine tkH 4 rfl (v:=?v39) ?h39 ?r39
      case h39=>
       intro w hSw
       (try dsimp only at hSw)
       obtain⟨yh13_0,yh13_1,yh13_2,yh13_3⟩:=(Blk.grownT h13 hSw (fun e=>absurd (Option.some.inj e) (Nat.ne_of_lt h13.lt))).q4
       have xgc:=cellGrown gc hSw (fun e=>absurd (Option.some.inj e) (Nat.ne_of_lt (World.block_lt_of_cell? _ _ gc)))
       go_simp
       try (with_reducible rfl)
      refine tkA 5 rfl ?_
      refine tkA 7 rfl ?_
      refine tkA 8 rfl ?_
      try simp only[Act.put,lay]
      refine wpAnyH_facts [(6,151),(9,154),(13,25)] [(10,144),(11,155),(12,156)] [12] (pick [(6,fun (v:Value) (w:World)=>∃x6,x6=v∧IsQs w x6 nu2),(9,fun (v:Value) (w:World)=>∃A53 C53 A54 C54,.tuple #[.agg #[.int .i64 b2,.int .i64 F,.slice A53 n C53,.slice A54 n C54],.bool true]=v∧OwnQs w w48.heap.size (.slice A53 n C53) R2∧OwnQs w w48.heap.size (.slice A54 n C54) Q2),(10,fun (v:Value) (w:World)=>∃A53 C53 A54 C54,.tuple #[.agg #[.int .i64 b2,.int .i64 F,.slice A53 n C53,.slice A54 n C54],.bool true]=v∧OwnQs w w48.heap.size (.slice A53 n C53) R2∧OwnQs w w48.heap.size (.slice A54 n C54) Q2),(11,fun (v:Value) (w:World)=>∃A53 C53 A54 C54,.agg #[.int .i64 b2,.int .i64 F,.slice A53 n C53,.slice A54 n C54]=v∧OwnQs w w48.heap.size (.slice A53 n C53) R2∧OwnQs w w48.heap.size (.slice A54 n C54) Q2),(12,fun (v:Value) (w:World)=>.bool true=v),(13,fun (v:Value) (w:World)=>∃XK,.pointer (some ⟨XK,0,none⟩)=v∧wd21_7.heap.size≤XK∧Blk w XK 90 #[.int .i64 0,.int .i64 0,.slice none 0 0,.slice none 0 0])]) #[true,true,true,true,true,true,true,true,true,true,true,true,true,true,false,false] (fun _ h=>grown_of h _) (pick_pers (show PersAll _ from ⟨fun _ _ _ b ⟨x6,e,g6⟩=>⟨x6,e,g6.below b⟩,fun _ _ _ b ⟨A53,C53,A54,C54,e,g53,g54⟩=>⟨A53,C53,A54,C54,e,g53.below b,g54.below b⟩,fun _ _ _ b ⟨A53,C53,A54,C54,e,g53,g54⟩=>⟨A53,C53,A54,C54,e,g53.below b,g54.below b⟩,fun _ _ _ b ⟨A53,C53,A54,C54,e,g53,g54⟩=>⟨A53,C53,A54,C54,e,g53.below b,g54.below b⟩,fun _ _ _ _ e=>e,fun _ _ _ b ⟨X,e,l,h⟩=>⟨X,e,l,h.below b h.lt⟩,trivial⟩)) (hord_of (by kernel_rfl)) (by kernel_rfl) (by kernel_rfl) (by kernel_rfl) (by kernel_rfl) (fun _ _ _ _ _ h=>h) ?ops7 ?pur7 ?done7 (Below.refl _ _) (Nat.le_of_ble_eq_true (by kernel_rfl))
      case ops7=>
       refine .cons rfl (fun a w zS K hK=>?_) ?_
       ·have hS:=bOn hS zS.1
        have hB2:=bOn hB2 zS.1
        have e149:=zS.2.1 149 _ (by kernel_rfl) rfl
        have e150:=zS.2.1 150 _ (by kernel_rfl) rfl
        go_simp
        refine (hNu2 _ hS hB2).mono ?_
        rintro e w' ⟨x6,rfl,g6,b⟩
        exact hK _ _ ⟨x6,rfl,g6⟩ b
       refine .cons rfl (fun a w zS K hK=>?_) ?_
       ·have hS:=bOn hS zS.1
        have e145:=zS.2.1 145 _ (by kernel_rfl) rfl
        obtain⟨v151,e151,x6,rfl,g6⟩:=zS.2.2 6 151 (by kernel_rfl)
        have e152:=zS.2.1 152 _ (by kernel_rfl) rfl
        have e153:=zS.2.1 153 _ (by kernel_rfl) rfl
        go_simp
        refine (hOw2 _ _ hS g6).mono ?_
        rintro e w' ⟨x9,y9,rfl,g53,g54,b⟩
        obtain⟨A53,C53,rfl⟩:=g53.len2 lR2
        obtain⟨A54,C54,rfl⟩:=g54.len2 lQ2
        exact hK _ _ ⟨A53,C53,A54,C54,rfl,g53,g54⟩ b
       refine .cons rfl (fun a w zS K hK=>?_) ?_
       ·go_simp
        exact hK _ _ ⟨_,rfl,zS.1.size,Blk.new w _ _⟩ ((Below.refl _ w).alloc (Nat.le_refl _) _)
       exact .nil
      case pur7=>
       refine .cons rfl (fun a w zS=>?_) ?_
       ·obtain⟨v154,e154,A53,C53,A54,C54,rfl,g53,g54⟩:=zS.2.2 9 154 (by kernel_rfl)
        exact⟨_,fun w'=>by go_simp<;>rfl,⟨A53,C53,A54,C54,rfl,g53,g54⟩⟩
       refine .cons rfl (fun a w zS=>?_) ?_
       ·obtain⟨v144,e144,A53,C53,A54,C54,rfl,g53,g54⟩:=zS.2.2 10 144 (by kernel_rfl)
        exact⟨_,fun w'=>by go_simp<;>rfl,⟨A53,C53,A54,C54,rfl,g53,g54⟩⟩
       refine .cons rfl (fun a w zS=>?_) ?_
       ·obtain⟨v144,e144,A53,C53,A54,C54,rfl,g53,g54⟩:=zS.2.2 10 144 (by kernel_rfl)
        exact⟨_,fun w'=>by go_simp<;>rfl,rfl⟩
       exact .nil
      case done7=>
       intro fuel a wr21_7 zf zS zdf zsz zs zd
       obtain⟨fuel,rfl⟩:∃n,fuel=n+2:=⟨fuel - 2,by have h:2≤fuel:=Nat.le_trans (Nat.le_of_ble_eq_true (by kernel_rfl)) zf;omega⟩
       clear zf
       have nh4:=h4.lt
       replace h4:=h4.below zS nh4
       have nh7:=h7.lt
       replace h7:=h7.below zS nh7
       have nh10:=h10.lt
       replace h10:=h10.below zS nh10
       have nh11:=h11.lt
       replace h11:=h11.below zS nh11
       have nh12:=h12.lt
       replace h12:=h12.below zS nh12
       have nh13:=h13.lt
       replace h13:=h13.below zS nh13
       have nh15:=h15.lt
       replace h15:=h15.below zS nh15
       have mhS:=hS.size
       replace hS:=bOn hS zS
       have mhB2:=hB2.size
       replace hB2:=bOn hB2 zS
       replace g51:=g51.b zS
       replace g52:=g52.b zS
       have nh23:=h23.lt
       replace h23:=h23.below zS nh23
       replace gc:=cellAU zS gc
       obtain⟨v151_,e151_,x6,rfl,g6⟩:=zd 6 151 (by kernel_rfl)
       obtain⟨v154_,e154_,A53_9,C53_9,A54_9,C54_9,rfl, -, -⟩:=zd 9 154 (by kernel_rfl)
       obtain⟨v144_,e144_,A53_10,C53_10,A54_10,C54_10,rfl, -, -⟩:=zd 10 144 (by kernel_rfl)
       obtain⟨v155_,e155_,A53,C53,A54,C54,rfl,g53,g54⟩:=zd 11 155 (by kernel_rfl)
       obtain⟨v156_,e156_,rfl⟩:=zd 12 156 (by kernel_rfl)
       obtain⟨v25_,e25_,XK,rfl,lXK,h25⟩:=zd 13 25 (by kernel_rfl)
       obtain rfl:=act_of [(151,x6),(154,.tuple #[.agg #[.int .i64 b2,.int .i64 F,.slice A53_9 n C53_9,.slice A54_9 n C54_9],.bool true]),(25,.pointer (some ⟨XK,0,none⟩)),(144,.tuple #[.agg #[.int .i64 b2,.int .i64 F,.slice A53_10 n C53_10,.slice A54_10 n C54_10],.bool true]),(155,.agg #[.int .i64 b2,.int .i64 F,.slice A53 n C53,.slice A54 n C54]),(156,.bool true)] ⟨e151_,e154_,e25_,e144_,e155_,e156_,trivial⟩ zdf zsz (fun s h=>zs s h)
       simp only[putAll,List.set_cons_zero,List.set_cons_succ]
       clear zdf zsz zs zd e151_ e154_ e25_ e144_ e155_ e156_
       have kXK:w.heap.size≤XK:=Nat.le_trans hB.size lXK
       have jXK_hS:=Nat.le_trans mhS lXK
       clear mhS
       have jXK_hB2:=Nat.le_trans mhB2 lXK
       clear mhB2
       have dXK_h4:g+1≠XK:=Nat.ne_of_lt (Nat.lt_of_lt_of_le nh4 lXK)
       have dXK_h7:XA≠XK:=Nat.ne_of_lt (Nat.lt_of_lt_of_le nh7 lXK)
       have dXK_h10:XB≠XK:=Nat.ne_of_lt (Nat.lt_of_lt_of_le nh10 lXK)
       have dXK_h11:XE≠XK:=Nat.ne_of_lt (Nat.lt_of_lt_of_le nh11 lXK)
       have dXK_h12:XG≠XK:=Nat.ne_of_lt (Nat.lt_of_lt_of_le nh12 lXK)
       have dXK_h13:XH≠XK:=Nat.ne_of_lt (Nat.lt_of_lt_of_le nh13 lXK)
       have dXK_h15:X44≠XK:=Nat.ne_of_lt (Nat.lt_of_lt_of_le nh15 lXK)
       have dXK_h23:XJ≠XK:=Nat.ne_of_lt (Nat.lt_of_lt_of_le nh23 lXK)
       replace hB:=bOn hB zS
       clear nh4 nh7 nh10 nh11 nh12 nh13 nh15 nh23
       clear gc
       clear g6
       have zG:=grown_of zS (some (wd21_7.heap.size))
       refine rd1 14 rfl fun K hK=>?_
       obtain⟨ws21_14,eu,h25',kz,kb,kB⟩:=fill4 h25 (.int .i64 b2) (.int .i64 F) (.slice A53 n C53) (.slice A54 n C54) (by simp[noU])
       obtain⟨x0,x1,x2,x3⟩:=h25.q4
       have xf:=h25.frozen
       replace zG:=(grown_set (grown_set (grown_set (grown_set zG (p:=⟨XK,0,none⟩) (.inr (by assumption)) (.int .i64 b2)) (p:=⟨XK,1,none⟩) (.inr (by assumption)) (.int .i64 F)) (p:=⟨XK,2,none⟩) (.inr (by assumption)) (.slice A53 n C53)) (p:=⟨XK,3,none⟩) (.inr (by assumption)) (.slice A54 n C54))
       rw[←eu] at zG
       go_simp
       rw[←eu]
       replace h4:=kb _ _ _ h4 (by first | assumption | exact Ne.symm (by assumption) | omega)
       replace h7:=kb _ _ _ h7 (by first | assumption | exact Ne.symm (by assumption) | omega)
       replace h10:=kb _ _ _ h10 (by first | assumption | exact Ne.symm (by assumption) | omega)
       replace h11:=kb _ _ _ h11 (by first | assumption | exact Ne.symm (by assumption) | omega)
       replace h12:=kb _ _ _ h12 (by first | assumption | exact Ne.symm (by assumption) | omega)
       replace h13:=kb _ _ _ h13 (by first | assumption | exact Ne.symm (by assumption) | omega)
       replace h15:=kb _ _ _ h15 (by first | assumption | exact Ne.symm (by assumption) | omega)
       replace hS:=kB _ _ (by first | assumption | omega) hS
       replace hB2:=kB _ _ (by first | assumption | omega) hB2
       replace g51:=g51.filled (by first | exact ho6 _ (by assumption) | exact OwnQs.neT g51 h25 (by decide)) kz kb
       replace g52:=g52.filled (by first | exact ho6 _ (by assumption) | exact OwnQs.neT g52 h25 (by decide)) kz kb
       replace h23:=kb _ _ _ h23 (by first | assumption | exact Ne.symm (by assumption) | omega)
       replace g53:=g53.filled (by first | exact ho6 _ (by assumption) | exact OwnQs.neT g53 h25 (by decide)) kz kb
       replace g54:=g54.filled (by first | exact ho6 _ (by assumption) | exact OwnQs.neT g54 h25 (by decide)) kz kb
       replace hB:=kB _ _ (by omega) hB
       replace h25:=h25'
       clear h25' kz kb kB eu xf x0 x1 x2 x3
       refine hK.out _ _ zG (fun hHeld=>?_)
       clear hK K
       refine tkH 15 rfl (v:=?v43) ?h43 ?r43 (hS:=zG)
       case h43=>intro w s;go_simp;try (with_reducible rfl)
       try simp only[Act.put,lay]
       try dsimp only
       try simp only[Act.put,lay]
       refine wpAnyH_done (by kernel_rfl) ?_ _
       refine NoPanic.normal ?_
       clear zG
       obtain⟨c475,c476,c477,c478,c479,c480,c481,c482⟩:=h4.q8
       obtain⟨c483,c484,c485,c486,c487,c488⟩:=h7.q6
       obtain⟨c489,c490⟩:=h10.q2
       obtain⟨c491,c492,c493,c494⟩:=h11.q4
       obtain⟨c495,c496,c497,c498⟩:=h12.q4
       obtain⟨c499,c500,c501,c502⟩:=h13.q4
       obtain⟨c503,c504,c505,c506⟩:=h15.q4
       obtain⟨c507,c508,c509,c510⟩:=h23.q4
       obtain⟨c511,c512,c513,c514⟩:=h25.q4
       have off53:Off4 XB XE XG XH (.slice A53 n C53):=⟨off_own g53 h10 (by decide),off_own g53 h11 (by decide),off_own g53 h12 (by decide),off_own g53 h13 (by decide)⟩
       have off54:Off4 XB XE XG XH (.slice A54 n C54):=⟨off_own g54 h10 (by decide),off_own g54 h11 (by decide),off_own g54 h12 (by decide),off_own g54 h13 (by decide)⟩
       obtain⟨hra,iv1,iv2⟩:=AT1.out
       have rows:Rows7 ws21_14 (.slice (some ⟨ga,0,none⟩) n n) (.slice Am1 n Cm1) (.slice Am2 n Cm2) (.slice A51 n C51) (.slice A52 n C52) (.slice A53 n C53) (.slice A54 n C54) Wn ms1 ms2 R1 Q1 R2 Q2:=⟨hra.below hS,iv1.below hS,iv2.below hS,g51.is,g52.is,g53.is,g54.is⟩
       have offs:Offs7 XB XE XG XH (.slice (some ⟨ga,0,none⟩) n n) (.slice Am1 n Cm1) (.slice Am2 n Cm2) (.slice A51 n C51) (.slice A52 n C52) (.slice A53 n C53) (.slice A54 n C54):=⟨offW,off1,off2,off51,off52,off53,off54⟩
       obtain⟨o10,o11,o12,o13⟩:=offs.all
       clear g51 g52 g53 g54 hra iv1 iv2 hS hB2
       obtain⟨Wf54,eW,⟨f1,f2,f3,f4⟩,hk,hs⟩:=fillFour h12 (.int .i64 b1) (.int .i64 F) (.slice A51 n C51) (.slice A52 n C52) (by simp[noU])
       have xf:=h12.frozen
       go_upto_region 25 with fail
       rw[←eW]
       replace hB:=f4 _ _ (by first | assumption | omega) hB
       replace h4:=f3 _ _ _ h4 DQ.out.2.2.2.2.2.1
       replace h7:=f3 _ _ _ h7 DQ.out.2.2.2.2.2.2.1
       replace h10:=f3 _ _ _ h10 DQ.out.2.2.2.2.2.2.2.1
       replace h11:=f3 _ _ _ h11 DQ.out.2.2.2.2.2.2.2.2.1
       replace h13:=f3 _ _ _ h13 (Ne.symm DQ.out.2.2.2.2.2.2.2.2.2.2.2.2.2.1)
       replace h15:=f3 _ _ _ h15 (by first | assumption | exact Ne.symm (by assumption))
       replace h23:=f3 _ _ _ h23 (by first | assumption | exact Ne.symm (by assumption))
       replace h25:=f3 _ _ _ h25 (by first | assumption | exact Ne.symm (by assumption))
       replace rows:=rows.stay o12 hk hs f2
       replace h12:=f1
       clear eW f1 f2 f3 f4 hk hs xf
       clear c475 c476 c477 c478 c479 c480 c481 c482 c483 c484 c485 c486 c487 c488 c489 c490 c491 c492 c493 c494 c495 c496 c497 c498 c499 c500 c501 c502 c503 c504 c505 c506 c507 c508 c509 c510 c511 c512 c513 c514
       obtain⟨c515,c516,c517,c518,c519,c520,c521,c522⟩:=h4.q8
       obtain⟨c523,c524,c525,c526,c527,c528⟩:=h7.q6
       obtain⟨c529,c530⟩:=h10.q2
       obtain⟨c531,c532,c533,c534⟩:=h11.q4
       obtain⟨c535,c536,c537,c538⟩:=h12.q4
       obtain⟨c539,c540,c541,c542⟩:=h13.q4
       obtain⟨c543,c544,c545,c546⟩:=h15.q4
       obtain⟨c547,c548,c549,c550⟩:=h23.q4
       obtain⟨c551,c552,c553,c554⟩:=h25.q4
       obtain⟨Wf56,eW,⟨f1,f2,f3,f4⟩,hk,hs⟩:=fillFour h13 (.int .i64 b2) (.int .i64 F) (.slice A53 n C53) (.slice A54 n C54) (by simp[noU])
       have xf:=h13.frozen
       go_upto_region 26 with fail
       rw[←eW]
       replace hB:=f4 _ _ (by first | assumption | omega) hB
       replace h4:=f3 _ _ _ h4 DQ.out.2.2.2.2.2.2.2.2.2.1
       replace h7:=f3 _ _ _ h7 DQ.out.2.2.2.2.2.2.2.2.2.2.1
       replace h10:=f3 _ _ _ h10 DQ.out.2.2.2.2.2.2.2.2.2.2.2.1
       replace h11:=f3 _ _ _ h11 DQ.out.2.2.2.2.2.2.2.2.2.2.2.2.1
       replace h12:=f3 _ _ _ h12 DQ.out.2.2.2.2.2.2.2.2.2.2.2.2.2.1
       replace h15:=f3 _ _ _ h15 (by first | assumption | exact Ne.symm (by assumption))
       replace h23:=f3 _ _ _ h23 (by first | assumption | exact Ne.symm (by assumption))
       replace h25:=f3 _ _ _ h25 (by first | assumption | exact Ne.symm (by assumption))
       replace rows:=rows.stay o13 hk hs f2
       replace h13:=f1
       clear eW f1 f2 f3 f4 hk hs xf
       clear c515 c516 c517 c518 c519 c520 c521 c522 c523 c524 c525 c526 c527 c528 c529 c530 c531 c532 c533 c534 c535 c536 c537 c538 c539 c540 c541 c542 c543 c544 c545 c546 c547 c548 c549 c550 c551 c552 c553 c554
       obtain⟨c555,c556,c557,c558,c559,c560,c561,c562⟩:=h4.q8
       obtain⟨c563,c564,c565,c566,c567,c568⟩:=h7.q6
       obtain⟨c569,c570⟩:=h10.q2
       obtain⟨c571,c572,c573,c574⟩:=h11.q4
       obtain⟨c575,c576,c577,c578⟩:=h12.q4
       obtain⟨c579,c580,c581,c582⟩:=h13.q4
       obtain⟨c583,c584,c585,c586⟩:=h15.q4
       obtain⟨c587,c588,c589,c590⟩:=h23.q4
       obtain⟨c591,c592,c593,c594⟩:=h25.q4
       obtain⟨Wf58,eW,⟨f1,f2,f3,f4⟩,hk,hs⟩:=fillFour h11 (.slice (some ⟨ga,0,none⟩) n n) (.slice Am1 n Cm1) (.slice Am2 n Cm2) (.slice none 0 0) (by simp[noU])
       have xf:=h11.frozen
       go_upto_region 12 with fail
       rw[←eW]
       replace hB:=f4 _ _ (by first | assumption | omega) hB
       replace h4:=f3 _ _ _ h4 DQ.out.2.2.1
       replace h7:=f3 _ _ _ h7 DQ.out.2.2.2.1
       replace h10:=f3 _ _ _ h10 DQ.out.2.2.2.2.1
       replace h12:=f3 _ _ _ h12 (Ne.symm DQ.out.2.2.2.2.2.2.2.2.1)
       replace h13:=f3 _ _ _ h13 (Ne.symm DQ.out.2.2.2.2.2.2.2.2.2.2.2.2.1)
       replace h15:=f3 _ _ _ h15 (by first | assumption | exact Ne.symm (by assumption))
       replace h23:=f3 _ _ _ h23 (by first | assumption | exact Ne.symm (by assumption))
       replace h25:=f3 _ _ _ h25 (by first | assumption | exact Ne.symm (by assumption))
       replace rows:=rows.stay o11 hk hs f2
       replace h11:=f1
       clear eW f1 f2 f3 f4 hk hs xf
       clear c555 c556 c557 c558 c559 c560 c561 c562 c563 c564 c565 c566 c567 c568 c569 c570 c571 c572 c573 c574 c575 c576 c577 c578 c579 c580 c581 c582 c583 c584 c585 c586 c587 c588 c589 c590 c591 c592 c593 c594
       clear dXJ_h4 dXJ_h7 dXJ_h10 dXJ_h11 dXJ_h12 dXJ_h13 dXJ_h15 dXK_h4 dXK_h7 dXK_h10 dXK_h11 dXK_h12 dXK_h13 dXK_h15 dXK_h23 dX44_h4 dX44_h7 dX44_h10 dX44_h11 dX44_h12 dX44_h13
       obtain⟨G1,G2⟩:=GN.out
       go_wp2
       exact⟨⟨j+1,_,_,_,_,_,_,_,_,_,_,_,_,_,_,_,_,_,_,_,Wn,ms1,ms2,R1,Q1,R2,Q2,by go_num,hlt,⟨mW,lms1,lms2,lR1,lQ1,lR2,lQ2⟩,ip2,ip3,aWn,am1,am2,G1,G2,h4,h7,h10,h11,h12,h13,rows,offs,hB⟩,by simp[intOf];omega⟩
end Go.Proofs.YtdnjdglekifhpaaGreat
namespace Go.Proofs.YtdnjdglekifhpaaGreat
open Go.ChangeShapes Go.WideShapes Go.ChangeAt Go.RowKit
theorem TrackAdam_walk:LawWalk 9 Tryz.f9:=by
 intro W base args H enc ds p hval hA hlt hz
 rw[show Tryz.f9.params.toList=[66,85,86] from rfl] at hA hz
 obtain⟨va,vb,vc,da,db,dc,pa,pb,pc,rfl,rfl,rfl,ha,hb,hc⟩:=trodAll_three hA
 obtain⟨lr,b1,b2,eps,wd,apart,f,p0,p1,g0,g1,g2,g3,l0,l1,l2,l3,rfl,⟨i1,i2,i3,i4,i5,_⟩,⟨h0,h1,h2,h3⟩,a0⟩:=open_adamin (hval 0 66 va rfl rfl) ha (fun x hx=>hlt x (by simp[hx]))
 obtain⟨k,z,m,o,k',z',m',o',rfl⟩:=open_keep2 (hval 1 85 vb rfl rfl) hb
 obtain⟨gs,hg,hG⟩:=open_rows2 (hval 2 86 vc rfl rfl) hc (fun x hx=>hlt x (by simp[hx]))
 obtain⟨GG,GC,rfl⟩:=id hg.len
 obtain⟨AW,CW,rfl,_,_⟩:=id h0.form
 obtain⟨A1,C1,rfl,_,_⟩:=id h1.form
 obtain⟨A2,C2,rfl,_,_⟩:=id h2.form
 obtain⟨A3,C3,rfl,_,_⟩:=id h3.form
 exact TrackAdam_all lr b1 b2 eps wd apart f p0 p1 _ _ _ k z m o k' z' m' o' AW CW l0 l0.length GG GC gs W i1 i2 i3 i4 i5 ⟨_,_,_,rfl⟩ ⟨_,_,_,rfl⟩ ⟨_,_,_,rfl⟩ h0 rfl a0 hg hG
theorem TrackAdam_holds:Rows.TrackAdamSaid:=
 OpenClaim.holds_of_wide 9 Tryz.f9 rfl rfl rfl rfl rfl rfl rfl ⟨rfl,rfl,rfl,rfl,rfl⟩ rfl rfl rfl rfl rfl (by kernel_rfl) Tryz.func9 (by kernel_rfl)
  (of_decide_eq_true (by kernel_rfl)) (by unfold Func.isWrapper;first | (rw[if_pos (by decide+kernel)];kernel_rfl) | (rw[if_neg (by decide+kernel)];exact⟨rfl,rfl⟩))
  (fun os started H enc _ => law_lifted 9 Tryz.f9 Rows.trackAdamSpec Rows.trackAdamRow.domain rfl rfl rfl Tryz.func9 (by kernel_rfl) (by decide +kernel)
   (fun H ds h => by
    have h':ds.length=3:=h
    match ds,h' with
    | [_,_,_],_=>exact⟨rfl,rfl,rfl⟩)
   (fun os _ H enc=>ChangeSpec.witness6 (enc:=enc) (C:=Tryz.checked) false ⟨#[],#[.agg #[.int .i64 0,.int .i64 0,.int .i64 0,.int .i64 0,.int .i64 0,.bool false,.int .i64 0,.int .i64 0,.int .i64 0,.slice none 0 0,.slice none 0 0,.slice none 0 0,.slice none 0 0],.agg #[.int .i64 0,.int .i64 0,.int .i64 0,.int .i64 0,.int .i64 0,.int .i64 0,.int .i64 0,.int .i64 0],.slice none 0 0],[]⟩ 8 (by kernel_rfl) (by kernel_rfl) (by kernel_rfl) (by kernel_rfl))
   TrackAdam_walk os started H enc)
end Go.Proofs.YtdnjdglekifhpaaGreat
