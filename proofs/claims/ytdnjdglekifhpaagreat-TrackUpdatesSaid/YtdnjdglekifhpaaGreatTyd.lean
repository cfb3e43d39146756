/- A part of the proof of: The live question of layer 20. Printed by gen_alive20.py. -/
import Derived.RangeFuncBox
import Derived.RangeFuncWrites
import Derived.Maps.AppendAt
import Derived.Outline
import Derived.Deep.DeepMust
import Derived.Deep.LoopGhost
import Derived.Test.YtdnjdglekifhpaaGreatTyc
set_option maxRecDepth 100000
set_option maxHeartbeats 8000000
namespace Go.Proofs.YtdnjdglekifhpaaGreat
open Go.RowKit Go.Shelf
attribute [local go_sem] Oper.semAt_some
def subF (s:List Nat×Nat) (p:Nat×Nat):List Nat×Nat:=(s.1++[(p.1+W64 - p.2 - s.2) % W64],if p.1<p.2+s.2 then 1 else 0)
def subS (pre:List Pair2):List Nat×Nat:=(pre.map (·.1)).foldl subF ([],0)
theorem subS_snoc (pre:List Pair2) (x:Pair2):subS (pre++[x])=subF (subS pre) x.1:=by simp[subS]
theorem subS_ok (pre:List Pair2):(subS pre).1.length=pre.length∧(subS pre).2≤1∧Bd (subS pre).1:=by
 refine snoc_ind (p:=fun pre=>(subS pre).1.length=pre.length∧(subS pre).2≤1∧Bd (subS pre).1) ⟨rfl,by simp[subS],Bd.nil⟩ ?_ pre
 ·intro pre x ⟨h1,h2,h3⟩
  rw[subS_snoc]
  refine ⟨by simp[subF,h1],?_,h3.snoc (Nat.mod_lt _ W64_pos)⟩
  simp only[subF]
  split<;>omega
theorem subTo (a b:List Nat) (ha:Bd a) (hb:Bd b) (k:Nat):num (((pairsTo a b k).foldl subF ([],0)).1)+num (b.take k)=num (a.take k)+W64^k*((pairsTo a b k).foldl subF ([],0)).2∧((pairsTo a b k).foldl subF ([],0)).1.length=k∧((pairsTo a b k).foldl subF ([],0)).2≤1∧Bd ((pairsTo a b k).foldl subF ([],0)).1:=by
 induction k with
 | zero=>simp[pairsTo,num,Bd.nil]
 | succ k ih =>
   obtain⟨h1,h2,h3,h4⟩:=ih
   rw[pairsTo_succ,List.foldl_append,List.foldl_cons,List.foldl_nil]
   generalize (pairsTo a b k).foldl subF ([],0)=s at *
   refine ⟨?_,by simp[subF,h2],by simp only[subF];split<;>omega,h4.snoc (Nat.mod_lt _ W64_pos)⟩
   simp only[subF]
   rw[num_append,num_single,h2,num_take_succ,num_take_succ,Nat.pow_succ]
   have hx:=ha.lat k
   have hy:=hb.lat k
   generalize lat a k=x at *
   generalize lat b k=y at *
   have key:(x+W64 - y - s.2) % W64+y+s.2=x+W64*(if x<y+s.2 then 1 else 0):=by
    split
    ·rw[Nat.mod_eq_of_lt (by omega)];omega
    ·have :x+W64 - y - s.2=(x - y - s.2)+W64:=by omega
     rw[this,Nat.add_mod_right,Nat.mod_eq_of_lt (by omega)];omega
   have e:=congrArg (W64^k* ·) key
   simp only[Nat.mul_add,←Nat.mul_assoc] at e
   omega
theorem subS_num {a b:List Nat} (ha:Bd a) (hb:Bd b) (hle:num b≤num a) {ys:List Pair2} (h:ys.map (·.1)=pairsTo a b (max a.length b.length)):num (subS ys).1=num a - num b:=by
 obtain⟨h1,h2,h3,h4⟩:=subTo a b ha hb (max a.length b.length)
 unfold subS
 rw[h]
 rw[num_take_ge _ _ (by omega),num_take_ge _ _ (by omega)] at h1
 have h5:=num_lt _ h4
 rw[h2] at h5
 generalize (pairsTo a b (max a.length b.length)).foldl subF ([],0)=s at *
 have :s.2=0∨s.2=1:=by omega
 rcases this with e | e<;>rw[e] at h1<;>omega
theorem sub_less (va vb:Value) (a b:Nat) (w:World) (ha:IsN w va a) (hb:IsN w vb b) (h:a<b):
 Calls Tryz.prog 182 #[va,vb] w fun e w'=>e= .returned (.tuple #[.slice none 0 0,.int .i64 2])∧Below w.heap.size w w':=by
 have hc:=cmp_any va vb a b w ha hb
 rw[cmpI_lt (by omega)] at hc
 have C:=Lib.hid hc
 clear hc
 obtain⟨A,ca,rfl,hac,hca,hba,hra⟩:=ha
 obtain⟨B,cb,rfl,hbc,hcb,hbb,hrb⟩:=hb
 go_enter Tryz.func182,Tryz.ntmps182
 go_wp2_with (with_reducible refine C.out.mono ?_;rintro e w1 ⟨rfl,hb1⟩)
 go_ret2
 exact⟨rfl,hb1⟩
theorem sub_in (va vb:Value) (na nb:Nat) (w:World) (ha:IsN w va na) (hb:IsN w vb nb) (hla:(limbs na).length≤1000000) (hlb:(limbs nb).length≤1000000) (hle:nb≤na):
 CallsIn Fence.wide 9 Tryz.prog 182 #[va,vb] w fun e w'=>∃v',e= .returned (.tuple #[v',.int .i64 0])∧IsN w' v' (na - nb)∧Below w.heap.size w w':=by
 have C:=Lib.hid (callsIn_wide (n:=8) |>.2 (cmp_any va vb na nb w ha hb))
 have hcmp:¬(cmpI (na:Int) (nb:Int)<0):=by unfold cmpI;split<;>(try split)<;>omega
 have hcm2:decide (cmpI (na:Int) (nb:Int)<0)=false:=decide_eq_false hcmp
 have hle':num (limbs nb)≤num (limbs na):=by rw[num_limbs,num_limbs];exact hle
 have ha0:=ha
 have hb0:=hb
 obtain⟨A,ca,rfl,hac,hca,hba,hra'⟩:=ha
 obtain⟨B,cb,rfl,hbc,hcb,hbb,hrb'⟩:=hb
 obtain⟨i0,hi,hz0,hz1,hz2⟩:=info_parts info_u64
 rw[show na - nb=num (limbs na) - num (limbs nb) from by rw[num_limbs,num_limbs]]
 generalize hA:limbs na=a at *
 generalize hB:limbs nb=b at *
 clear hA hB hle
 refine callsIn_of_wp_marks Tryz.func182 rfl trivial ?_ rfl
 simp only[Tryz.ntmps182,List.size_toArray,List.length_cons,List.length_nil,Nat.reduceAdd,Nat.reduceSub,Array.replicate_succ,Array.replicate_zero,List.push_toArray,List.append_toArray,List.nil_append,List.cons_append]
 gi_wp2_with fail
 refine ⟨wide_fn _,C.out.mono ?_⟩
 rintro e u ⟨rfl,hwu⟩
 have hra:=(hra'.below hwu).more hwu.size
 have hrb:=(hrb'.below hwu).more hwu.size
 gi_wp2_with (first | (refine ⟨trivial,?_⟩;gi_at_call 202;refine (pairs_in _ _ _ _ _ _ _ _).mono ?_;rintro e w' ⟨rfl,rfl⟩))
 obtain⟨W0,hW0⟩:∃W0,W0=((((u.alloc (.cells #[.slice none 0 0] 28)).alloc (.cells #[.int .u64 0] 141)).alloc (.cells #[.slice A a.length ca] 28)).alloc (.cells #[.slice B b.length cb] 28)).alloc (.cells #[.func (.func 235) #[] #[]] 205):=⟨_,rfl⟩
 have hsz:W0.heap.size=u.heap.size+5:=by rw[hW0];simp
 have bO:Boxed W0 u.heap.size 28 (.slice none 0 0):=by rw[hW0];exact ((((Boxed.new u _ _).alloc _).alloc _).alloc _).alloc _
 have bC:Boxed W0 (u.heap.size+1) 141 (.int .u64 0):=by rw[hW0];have:=Boxed.new (u.alloc (.cells #[.slice none 0 0] 28)) 141 (.int .u64 0);rw[World.size_alloc] at this;exact ((this.alloc _).alloc _).alloc _
 have bA:Boxed W0 (u.heap.size+2) 28 (.slice A a.length ca):=by rw[hW0];have:=Boxed.new ((u.alloc (.cells #[.slice none 0 0] 28)).alloc (.cells #[.int .u64 0] 141)) 28 (.slice A a.length ca);simp only[World.size_alloc] at this;exact (this.alloc _).alloc _
 have bB:Boxed W0 (u.heap.size+3) 28 (.slice B b.length cb):=by rw[hW0];have:=Boxed.new (((u.alloc (.cells #[.slice none 0 0] 28)).alloc (.cells #[.int .u64 0] 141)).alloc (.cells #[.slice A a.length ca] 28)) 28 (.slice B b.length cb);simp only[World.size_alloc] at this;exact this.alloc _
 have bF:Boxed W0 (u.heap.size+4) 205 (.func (.func 235) #[] #[]):=by rw[hW0];have:=Boxed.new ((((u.alloc (.cells #[.slice none 0 0] 28)).alloc (.cells #[.int .u64 0] 141)).alloc (.cells #[.slice A a.length ca] 28)).alloc (.cells #[.slice B b.length cb] 28)) 205 (.func (.func 235) #[] #[]);simp only[World.size_alloc] at this;exact this
 have hB0:Below u.heap.size u W0:=by rw[hW0];exact (((((Below.refl _ u).alloc (Nat.le_refl _) _).alloc (by simp) _).alloc (by simp;omega) _).alloc (by simp;omega) _).alloc (by simp;omega) _
 rw[←hW0]
 clear hW0
 refine wpIn_rangeFunc_ownG (n:=9) rfl (by omega) (gf:=236) (lb:= #[.pointer (some ⟨u.heap.size+2,0,none⟩),.pointer (some ⟨u.heap.size+2+1,0,none⟩),.pointer (some ⟨u.heap.size+2+2,0,none⟩)]) rfl trivial (enters_of Tryz.func236 (by kernel_rfl) rfl)
  (pairs_stops (u.heap.size+2) u.heap.size ca cb A B a b (by omega) (by omega) hba hbb W0 (by omega) (by omega) bA.cell bB.cell bF.cell (hra.below hB0) (hrb.below hB0)) KR.trans (KR.put (by omega) (by omega)) (Below.refl _ _) (fun _=>rfl)
  (fun pre W=>(∃v,Boxed W u.heap.size 28 v∧W.ownsRow W0.heap.size 141 1 v (subS pre).1.length (us (subS pre).1)∧True)∧Boxed W (u.heap.size+1) 141 (.int .u64 ((subS pre).2:Nat))∧(Below u.heap.size u W∧W0.heap.size≤W.heap.size))
  (fun _ _ _=>False)
  ?oI ?oX ?st ?a1 ?assign ?body ?done ?stop
 case assign=>
  intro l x W K hK
  gi_wp2
  exact hK
 case oI=>exact OwnFrom.and (Own.from (holdsRow_own W0.heap.size u.heap.size 28 141 1 (fun pre=>(subS pre).1.length) (fun pre=>us (subS pre).1) (fun _ _=>True)) _) (OwnFrom.and (Own.from (show Own (fun (s:List Pair2) (W:World)=>Boxed W (u.heap.size+1) 141 (.int .u64 ((subS s).2:Nat))) from fun s X Y row hs hg hr=>boxed_kept hs hg hr) _) (OwnFrom.and (ownFrom_below (by omega) (by omega)) (Own.from (show Own (fun (_:List Pair2) (W:World)=>W0.heap.size≤W.heap.size) from fun s X Y row hs hg hr=>Nat.le_trans hs hg.size) _)))
 case oX=>exact fun _ _ _ _ _ hs _ _=>hs
 case st=>exact⟨⟨_,bO,World.ownsRow_nil _ _ _ _,trivial⟩,bC,hB0,Nat.le_refl _⟩
 case body=>
  rintro l pre x W ⟨⟨v,hv,hrow,_⟩,hC,hBel,hWs⟩ hlt
  have hc:=hv.cell
  have hc2:=hC.cell
  have hf2:=hC.frozen
  obtain⟨k1,k2,k3⟩:=subS_ok pre
  have k2':(subS pre).2≤1:=k2
  have hA:=fun W=>run_Sub64 x.1.1 x.1.2 (subS pre).2 k2 W
  have hsn:=subS_snoc pre x
  rw[subF] at hsn
  have hsb:=Nat.mod_lt (x.1.1+W64 - x.1.2 - (subS pre).2) W64_pos
  generalize (x.1.1+W64 - x.1.2 - (subS pre).2) % W64=sm at hA hsn hsb
  generalize (if x.1.1<x.1.2+(subS pre).2 then 1 else 0)=cy at hA hsn
  have Hsn:=Lib.hid hsn
  clear hsn
  have hcl:=Lib.hid k1
  have hlen:pre.length≤1000000:=by omega
  have hlen2:(subS pre).1.length≤1000000:=by omega
  clear k1 hlt
  have hsW:W0.heap.size≤W.heap.size:=hWs
  have hwf:=wide_fn 229
  gi_wp2_with (gi_at_builtin;go_must (refine wpListIn_append_own _ rfl _ _ 28 rfl W0.heap.size 141 i0 (.int .u64 0) 1 8 Tryz.underlying28 hi hz0 hz1 hz2 rfl (by decide) _ _ _ rfl (hrow.alloc _) ⟨W.heap.size,0,none⟩ 1 1 [.int .u64 (sm:Nat)] rfl rfl (cell_one_new _ _ _) (by simp[Value.oneCell']) (by unfold maxLen;omega) (by omega) (by simp;omega) ?_;intro v' w1 hown' hgrow _;obtain⟨g',cap',rfl⟩:=ownsRow_succ hown';obtain⟨hbl,hko⟩:=below_appended hrow hsW hgrow;have hv1:=boxed_low hv hbl (by omega);have hC1:=boxed_low hC hbl (by omega);have hc1:=hv1.cell;have hf1:=hv1.frozen;have hc1':=hC1.cell;have hf1':=hC1.frozen))
  have hsn:=Hsn.out
  refine ⟨?_,?_,?_⟩
  ·exact (hko.trans ((KeepsOthers.setCell _ _ _).trans (KeepsOthers.setCell _ _ _))).from _
  ·exact ((KR.of_below hbl (by omega) (by omega)).set (by omega) (by omega) _).set (by omega) (by omega) _
  ·refine ⟨⟨_,boxed_far (hv1.set _) (by omega),?_,trivial⟩,?_,?_,?_⟩
   ·rw[hsn,List.length_append,List.length_singleton,us_snoc]
    exact ownsRow_setCell_below (ownsRow_setCell_below hown' (by show u.heap.size<W0.heap.size;omega) _) (by show u.heap.size+1<W0.heap.size;omega) _
   ·rw[hsn];exact (boxed_far hC1 (by omega)).set _
   ·exact (((hBel.trans (hbl.mono (by omega))).setCell (p:=⟨u.heap.size,0,none⟩) (by simp) _).setCell (p:=⟨u.heap.size+1,0,none⟩) (by simp) _)
   ·simp[World.setCell];exact Nat.le_trans (by omega) hbl.size
 case done=>
  rintro D ys W hD hys ⟨⟨v,hv,hrow,_⟩,hC,hBel,hWs⟩ hK
  have hc:=hv.cell
  have hc2:=hC.cell
  obtain⟨k1,k2,k3⟩:=subS_ok ys
  have hl2:(subS ys).1.length≤1000000:=by
   have:=congrArg List.length hys
   rw[List.length_map,pairsTo_length] at this
   omega
  have hys':=Lib.hid hys
  clear hys k1
  have hres:IsL W v (subS ys).1:=IsL.of_own hrow k3
  gi_wp2_with fail
  refine ⟨wide_fn _,(callsIn_wide.2 (bare_any v _ W hres)).mono ?_⟩
  rintro e w' ⟨r,rfl,hr,rfl⟩
  rw[subS_num hba hbb hle' hys'.out] at hr
  gi_wp2
  refine ⟨by simp,.inl ⟨_,_,rfl,run_takeDeferred hK,?_⟩⟩
  have hBB:=(hwu.trans (hBel.mono hwu.size)).trans ((belowK_b (w:=u) (Nat.le_refl _) W D _ (.deferred none) (by omega) hK rfl rfl).mono hwu.size)
  exact⟨_,results_tmp2 rfl _ _ _,r,rfl,IsL.putObj hr hK rfl,hBB⟩
 case stop=>
  rintro D c pre W _ _ h _
  exact h.elim
theorem sub_any (va vb:Value) (a b:Nat) (w:World) (ha:IsN w va a) (hb:IsN w vb b) (hla:(limbs a).length≤1000000) (hlb:(limbs b).length≤1000000) (hle:b≤a):
 Calls Tryz.prog 182 #[va,vb] w fun e w'=>∃v',e= .returned (.tuple #[v',.int .i64 0])∧IsN w' v' (a - b)∧Below w.heap.size w w':=
 callsIn_wide.1 (sub_in va vb _ _ w ha hb hla hlb hle)
end Go.Proofs.YtdnjdglekifhpaaGreat
namespace Go.Proofs.YtdnjdglekifhpaaGreat
open Go.RowKit
attribute [local go_sem ↓] Go.wp_at_zero Go.wp_at_succ
theorem pzadd_any (va vb:Value) (a b:Int) (w:World) (ha:IsZ w va a) (hb:IsZ w vb b) (sa:Sz a.natAbs 400000) (sb:Sz b.natAbs 400000):
 Calls Tryz.prog 124 #[va,vb] w fun e w'=>∃v',e= .returned v'∧IsZ w' v' (a+b)∧Below w.heap.size w w':=by
 obtain⟨na,rfl,ha⟩:=ha
 obtain⟨nb,rfl,hb⟩:=hb
 have hAdd:=fun w ha hb=>add_any na nb a.natAbs b.natAbs w ha hb (sa.fin (by omega)) (sb.fin (by omega))
 have hSab:=fun w ha hb h=>sub_any na nb a.natAbs b.natAbs w ha hb (sa.fin (by omega)) (sb.fin (by omega)) h
 have hSba:=fun w ha hb h=>sub_any nb na b.natAbs a.natAbs w hb ha (sb.fin (by omega)) (sa.fin (by omega)) h
 have hLs:=fun w ha hb h=>sub_less na nb a.natAbs b.natAbs w ha hb h
 have hM:=fun s v n w hn=>pzmade_any s v n w hn
 obtain⟨c,hc⟩:∃c,c=a+b:=⟨_,rfl⟩
 rw[←hc]
 rw[←sided_of a,←sided_of b] at hc
 generalize decide (a<0)=s1 at *
 generalize decide (b<0)=s2 at *
 generalize a.natAbs=x at *
 generalize b.natAbs=y at *
 obtain⟨W0,hW,hT,hR,hB⟩:=box3 w 30 30 30 #[.bool s1,na] #[.bool s2,nb] #[.bool false,.slice none 0 0]
 obtain⟨g,hg⟩:∃g,g=w.heap.size:=⟨_,rfl⟩
 have hW':=Lib.hid (And.intro hW hg)
 rw[←hg] at hT hR
 clear hW hg
 have ha:=ha.below hB
 have hb:=hb.below hB
 have CT:=hT.cells22
 by_cases hs:s1=s2
 ·subst hs
  rw[sided_add_same] at hc
  have hM:=fun v w hn=>hM s1 v (x+y) w hn
  rw[←hc] at hM
  clear hc hSab hSba hLs
  have hAdd:=fun w ha hb=>hAdd w ha hb
  generalize x+y=n at *
  obtain⟨q00,q01,q10,q11⟩:=CT
  go_enter Tryz.func124,Tryz.ntmps124
  go_wp2
  rw[←hW'.out.1,←hW'.out.2]
  go_region_held3 (fun w'=>w'.cell? ⟨g,0,none⟩=some (.bool s1)∧w'.cell? ⟨g,1,none⟩=some na∧w'.cell? ⟨g+1,0,none⟩=some (.bool s1)∧w'.cell? ⟨g+1,1,none⟩=some nb) (first | exact Two.cells22 (by assumption) | exact Two.cells22 (Two.far2 (by assumption) _ _))
   (first
    | (go_at_call 150;refine (hAdd _ ?_ ?_).mono ?_;exact ha;exact hb;rintro x w1 ⟨v1,rfl,h1,b1⟩;have b1:=undrew b1;have hT1:=hT.below b1 hT.lt;have hR1:=hR.below b1 hR.lt;have hB1:=hB.trans (b1.mono hB.size))
    | (go_at_call 176;refine (hM _ _ ?_).mono ?_;exact h1;rintro x w2 ⟨v2,rfl,⟨n2,rfl,h2⟩,b2⟩;obtain⟨A2,L2,C2,rfl⟩:=h2.frm;have hT2:=hT1.below b2 hT1.lt;have hR2:=hR1.below b2 hR1.lt;have hB2:=hB1.trans (b2.mono hB1.size);have q0:=hR2.cell 0;have q1:=hR2.cell 1;have z0:=hR2.frozen 0;have z1:=hR2.frozen 1))
  obtain⟨p1,p2,p3⟩:=put2 hR2 (.bool (decide (c<0))) (.slice A2 L2 C2) (by simp[noU]) hB2 (by rw[hW'.out.2];omega)
  have q0:=hR2.cell 0
  have z0:=hR2.frozen 0
  have q1:=hR2.cell 1
  have z1:=hR2.frozen 1
  have P:=Lib.hid (And.intro (⟨_,rfl,p2 _ _ h2⟩:IsZ _ (.agg #[.bool (decide (c<0)),.slice A2 L2 C2]) c) (And.intro p3 p1.cells2))
  clear p1 p2 p3
  go_wp2
  obtain⟨P1,P2,P3,P4⟩:=P.out
  exact bodyPost_ret (v:= .agg #[.bool (decide (c<0)),.slice A2 L2 C2]) (by simp[results,Tryz.results124,go_sem,P3,P4]) rfl ⟨_,rfl,P1,P2⟩
 ·by_cases hle:y≤x
  ·rw[sided_add_ge _ _ _ _ hs hle] at hc
   have hSab:=fun w ha hb=>hSab w ha hb hle
   have hM:=fun v w hn=>hM s1 v (x - y) w hn
   rw[←hc] at hM
   clear hc
   generalize x - y=n at *
   obtain⟨q00,q01,q10,q11⟩:=CT
   have hne:(s1 == s2)=false:=by simpa using hs
   have hne2:decide (s1=s2)=false:=decide_eq_false hs
   have HS:=Lib.hid hs
   clear hs
   go_enter Tryz.func124,Tryz.ntmps124
   go_wp2_with fail
   rw[←hW'.out.1,←hW'.out.2]
   refine (hSab _ ha hb).mono ?_
   rintro e w2 ⟨v2,rfl,h2,b2⟩
   have hT:=hT.b b2
   have hR:=hR.b b2
   have hB:=hB.trans (b2.mono hB.size)
   have ha:=ha.below b2
   have hb:=hb.below b2
   obtain⟨q00,q01,q10,q11⟩:=hT.cells22
   go_wp2_with fail
   refine (hM _ _ h2).mono ?_
   rintro e w3 ⟨v3,rfl,⟨n3,rfl,h3⟩,b3⟩
   obtain⟨A3,L3,C3,rfl⟩:=h3.frm
   have hR:=hR.b b3
   have hB:=hB.trans (b3.mono hB.size)
   clear hM hAdd
   obtain⟨p1,p2,p3⟩:=put2 hR (.bool (decide (c<0))) (.slice A3 L3 C3) (by simp[noU]) hB (by rw[hW'.out.2];omega)
   have q0:=hR.cell 0
   have z0:=hR.frozen 0
   have q1:=hR.cell 1
   have z1:=hR.frozen 1
   have P:=Lib.hid (And.intro (⟨_,rfl,p2 _ _ h3⟩:IsZ _ (.agg #[.bool (decide (c<0)),.slice A3 L3 C3]) c) (And.intro p3 p1.cells2))
   clear p1 p2 p3
   go_wp2
   obtain⟨P1,P2,P3,P4⟩:=P.out
   exact bodyPost_ret (v:= .agg #[.bool (decide (c<0)),.slice A3 L3 C3]) (by simp[results,Tryz.results124,go_sem,P3,P4]) rfl ⟨_,rfl,P1,P2⟩
  ·rw[sided_add_lt _ _ _ _ hs (by omega)] at hc
   have hSba:=fun w ha hb=>hSba w ha hb (by omega)
   have hLs:=fun w ha hb=>hLs w ha hb (by omega)
   have hM:=fun v w hn=>hM s2 v (y - x) w hn
   rw[←hc] at hM
   clear hc
   generalize y - x=n at *
   obtain⟨q00,q01,q10,q11⟩:=CT
   have hne:(s1 == s2)=false:=by simpa using hs
   have hne2:decide (s1=s2)=false:=decide_eq_false hs
   have HS:=Lib.hid hs
   clear hs
   go_enter Tryz.func124,Tryz.ntmps124
   go_wp2_with fail
   rw[←hW'.out.1,←hW'.out.2]
   refine (hLs _ ha hb).mono ?_
   rintro e w1 ⟨rfl,b1⟩
   have hT:=hT.b b1
   have hR:=hR.b b1
   have hB:=hB.trans (b1.mono hB.size)
   have ha:=ha.below b1
   have hb:=hb.below b1
   obtain⟨q00,q01,q10,q11⟩:=hT.cells22
   go_wp2_with fail
   refine (hSba _ ha hb).mono ?_
   rintro e w2 ⟨v2,rfl,h2,b2⟩
   have hT:=hT.b b2
   have hR:=hR.b b2
   have hB:=hB.trans (b2.mono hB.size)
   have ha:=ha.below b2
   have hb:=hb.below b2
   obtain⟨q00,q01,q10,q11⟩:=hT.cells22
   go_wp2_with fail
   refine (hM _ _ h2).mono ?_
   rintro e w3 ⟨v3,rfl,⟨n3,rfl,h3⟩,b3⟩
   obtain⟨A3,L3,C3,rfl⟩:=h3.frm
   have hR:=hR.b b3
   have hB:=hB.trans (b3.mono hB.size)
   clear hM hAdd
   obtain⟨p1,p2,p3⟩:=put2 hR (.bool (decide (c<0))) (.slice A3 L3 C3) (by simp[noU]) hB (by rw[hW'.out.2];omega)
   have q0:=hR.cell 0
   have z0:=hR.frozen 0
   have q1:=hR.cell 1
   have z1:=hR.frozen 1
   have P:=Lib.hid (And.intro (⟨_,rfl,p2 _ _ h3⟩:IsZ _ (.agg #[.bool (decide (c<0)),.slice A3 L3 C3]) c) (And.intro p3 p1.cells2))
   clear p1 p2 p3
   go_wp2
   obtain⟨P1,P2,P3,P4⟩:=P.out
   exact bodyPost_ret (v:= .agg #[.bool (decide (c<0)),.slice A3 L3 C3]) (by simp[results,Tryz.results124,go_sem,P3,P4]) rfl ⟨_,rfl,P1,P2⟩
end Go.Proofs.YtdnjdglekifhpaaGreat
namespace Go.Proofs.YtdnjdglekifhpaaGreat
open Go.RowKit
theorem ddivmod_any (va vb:Value) (a b:Nat) (w:World) (ha:IsN w va a) (hb:IsN w vb b) (sa:Sz a 100000) (_sb:Sz b 100000) (h0:0<b):
 Calls Tryz.prog 148 #[va,vb] w fun e w'=>∃q r,e= .returned (.tuple #[q,r,.int .i64 0])∧IsN w' q (a / b)∧IsN w' r (a % b)∧Below w.heap.size w w':=
 (dm_any va vb a b h0 w ha hb (sa.fin (by omega))).mono fun _ _ ⟨q,r,h1,h2,h3,_,h5⟩=>⟨q,r,h1,h2,h3,h5⟩
theorem dgcd_any (va vb:Value) (a b:Nat) (w:World) (ha:IsN w va a) (hb:IsN w vb b) (sa:Sz a 100000) (sb:Sz b 100000):
 Calls Tryz.prog 178 #[va,vb] w fun e w'=>∃v',e= .returned v'∧IsN w' v' (Nat.gcd a b)∧Below w.heap.size w w':=by
 obtain⟨d,hd⟩:∃d,d=Nat.gcd a b:=⟨_,rfl⟩
 have HD:=Lib.hid hd
 rw[←hd]
 clear hd
 go_enter Tryz.func178,Tryz.ntmps178
 go_wp2
 go_loopg [0,1] b (fun k x y wr=>∃(n:Nat),IsN wr x n∧IsN wr y k∧Sz n 100000∧Sz k 100000∧Hid (Nat.gcd n k=d)∧Below w.heap.size w wr)
 case atStart=>exact⟨a,ha,hb,sa,sb,Lib.hid HD.out.symm,Below.refl _ _⟩
 case round=>
  obtain⟨n,hx,hy,sx,sy,hg,hB⟩:=hrel
  by_cases h0:gk=0
  ·subst h0
   obtain⟨A,c,rfl⟩:=(show ∃A c,u1= .slice A 0 c by unfold IsN at hy;rw[limbs_zero] at hy;obtain⟨A,c,e,_⟩:=hy;exact⟨A,c,e⟩)
   go_wp2
   go_ret
   exact⟨_,rfl,by have:=hg.out;rw[Nat.gcd_zero_right] at this;rw[←this];exact hx,hB⟩
  ·have hp:0<gk:=Nat.pos_of_ne_zero h0
   have hL:0<(limbs gk).length:=by
    rcases Nat.eq_zero_or_pos (limbs gk).length with e | e
    ·exact absurd (limbs_nil.1 (List.eq_nil_of_length_eq_zero e)) h0
    ·exact e
   have hD:=ddivmod_any u0 u1 n gk wr hx hy sx sy hp
   obtain⟨A,L,c,rfl,hLe⟩:=hy.open_
   rw[←hLe] at hL
   have HLe:=Lib.hid hLe
   have H0:=Lib.hid h0
   clear hLe h0
   go_wp2_with fail
   refine hD.mono ?_
   rintro e w1 ⟨q,r,rfl,hq,hr,b1⟩
   have hy:=hy.below b1
   have hB:=hB.trans (b1.mono hB.size)
   clear hD hx b1
   go_wp2
   go_roundg (n % gk)
   case rel=>exact⟨gk,hy,hr,sy,sx.le (Nat.mod_le _ _),Lib.hid (by rw[←hg.out,Nat.gcd_comm gk,Nat.gcd_comm n,Nat.gcd_rec gk n]),hB⟩
   case measure=>exact Nat.mod_lt _ hp
attribute [local go_sem ↓] Go.wp_at_zero Go.wp_at_succ
theorem prmake_any (vp vq:Value) (p:Int) (q:Nat) (w:World) (hp:IsZ w vp p) (hq:IsN w vq q) (sp:Sz p.natAbs 100000) (sq:Sz q 100000) (h0:0<q):
 Calls Tryz.prog 120 #[vp,vq] w fun e w'=>∃v',e= .returned (.tuple #[v',.int .i64 0])∧IsQ w' v' (mkRat p q)∧Below w.heap.size w w':=by
 obtain⟨np,rfl,hp⟩:=hp
 obtain⟨m1,m2,m3⟩:=mk_num p q (by omega)
 have hgp:0<Nat.gcd p.natAbs q:=Nat.gcd_pos_of_pos_right _ h0
 have hG:=fun w hp hq=>dgcd_any np vq p.natAbs q w hp hq sp sq
 have hD1:=fun v w hp hg=>ddivmod_any np v p.natAbs (Nat.gcd p.natAbs q) w hp hg sp (sq.le (Nat.gcd_le_right _ h0)) hgp
 have hD2:=fun v w hp hg=>ddivmod_any vq v q (Nat.gcd p.natAbs q) w hp hg sq (sq.le (Nat.gcd_le_right _ h0)) hgp
 rw[←m1] at hD1
 rw[←m2] at hD2
 rw[←m3] at *
 generalize mkRat p q=r at *
 generalize Nat.gcd p.natAbs q=d at *
 generalize p.natAbs=x at *
 obtain⟨Aq,Lq,Cq,rfl,hLq⟩:=hq.pos h0
 have hl1:((Lq:Int) == 0)=false:=by simp;omega
 have hl2:decide (Lq=0)=false:=by simp;omega
 clear m1 m2 m3 hLq h0 hgp sp sq
 obtain⟨W0,hW,hT,hB⟩:=box2 w 30 32 #[.bool (decide (r.num<0)),np] #[.bool false,.slice none 0 0,.slice none 0 0]
 obtain⟨g,hg⟩:∃g,g=w.heap.size:=⟨_,rfl⟩
 have hW':=Lib.hid (And.intro hW hg)
 rw[←hg] at hT
 clear hW hg
 have hp:=hp.below hB
 have hq:=hq.below hB
 obtain⟨q00,q01⟩:=hT.1.cells2
 go_enter Tryz.func120,Tryz.ntmps120
 go_wp2_with fail
 rw[←hW'.out.1,←hW'.out.2]
 refine (hG _ hp hq).mono ?_
 rintro e w1 ⟨v1,rfl,h1,b1⟩
 have hT:=hT.b b1
 have hB:=hB.trans (b1.mono hB.size)
 have hp:=hp.below b1
 have hq:=hq.below b1
 obtain⟨q00,q01⟩:=hT.1.cells2
 go_wp2_with fail
 refine (hD1 _ _ hp h1).mono ?_
 rintro e w2 ⟨v2,r2,rfl,h2,hr2,b2⟩
 have hT:=hT.b b2
 have hB:=hB.trans (b2.mono hB.size)
 have h1:=h1.below b2
 have hq:=hq.below b2
 obtain⟨q00,q01⟩:=hT.1.cells2
 go_wp2_with fail
 refine (hD2 _ _ hq h1).mono ?_
 rintro e w3 ⟨v3,r3,rfl,h3,hr3,b3⟩
 have hT:=hT.b b3
 have hB:=hB.trans (b3.mono hB.size)
 have h2:=h2.below b3
 obtain⟨q00,q01⟩:=hT.1.cells2
 have hR:=hT.2
 obtain⟨A2,L2,C2,rfl⟩:=h2.frm
 obtain⟨A3,L3,C3,rfl⟩:=h3.frm
 obtain⟨p1,p2,p3⟩:=put3 hR (.bool (decide (r.num<0))) (.slice A2 L2 C2) (.slice A3 L3 C3) (by simp[noU]) hB (by rw[hW'.out.2];omega)
 have q0:=hR.cell 0
 have z0:=hR.frozen 0
 have q1:=hR.cell 1
 have z1:=hR.frozen 1
 have q2:=hR.cell 2
 have z2:=hR.frozen 2
 have P:=Lib.hid (And.intro (⟨_,_,rfl,p2 _ _ h2,p2 _ _ h3⟩:IsQ _ (.agg #[.bool (decide (r.num<0)),.slice A2 L2 C2,.slice A3 L3 C3]) r) (And.intro p3 p1.cells3))
 clear p1 p2 p3 hG hD1 hD2
 go_wp2
 obtain⟨P1,P2,P3,P4,P5⟩:=P.out
 exact bodyPost_ret (v:= .tuple #[.agg #[.bool (decide (r.num<0)),.slice A2 L2 C2,.slice A3 L3 C3],.int .i64 0]) (by simp[results,Tryz.results120,go_sem,P3,P4,P5]) rfl ⟨_,rfl,P1,P2⟩
theorem pof_any (n:Int) (h0: -9223372036854775808≤n) (h1:n≤9223372036854775807) (w:World):
 Calls Tryz.prog 55 #[.int .i64 n] w fun e w'=>∃v',e= .returned v'∧IsQ w' v' (n:Rat)∧Below w.heap.size w w':=by
 have hZ:=fun w=>pzof_any n h0 h1 w
 have hO:=fun w=>of_any 1 (by unfold W64;omega) w
 obtain⟨c,hc⟩:∃c,c=n:=⟨_,rfl⟩
 have KEY:Hid (∀w' b a d,IsN w' a c.natAbs→IsN w' d 1→b=decide (c<0)→IsQ w' (.agg #[.bool b,a,d]) (n:Rat)):=by
  rw[hc];rintro w' b a d h1 h2 rfl;exact⟨a,d,rfl,h1,h2⟩
 have hZ:=fun w=>(show Calls Tryz.prog 118 #[.int .i64 n] w fun e w'=>∃v',e= .returned v'∧IsZ w' v' c∧Below w.heap.size w w' by rw[hc];exact hZ w)
 clear hc
 obtain⟨W0,hW,hR,hB⟩:=box1 w 32 #[.bool false,.slice none 0 0,.slice none 0 0]
 obtain⟨g,hg⟩:∃g,g=w.heap.size:=⟨_,rfl⟩
 have hW':=Lib.hid (And.intro hW hg)
 rw[←hg] at hR
 clear hW hg
 go_enter Tryz.func55,Tryz.ntmps55
 go_wp2_with fail
 rw[←hW'.out.1,←hW'.out.2]
 refine (hZ _).mono ?_
 rintro e w1 ⟨v1,rfl,⟨n1,rfl,h1⟩,b1⟩
 have hR:=hR.b b1
 have hB:=hB.trans (b1.mono hB.size)
 go_wp2_with fail
 refine (hO _).mono ?_
 rintro e w2 ⟨v2,rfl,h2,b2⟩
 have hR:=hR.b b2
 have hB:=hB.trans (b2.mono hB.size)
 have h1:=h1.below b2
 obtain⟨A2,L2,C2,rfl⟩:=h1.frm
 obtain⟨A3,L3,C3,rfl⟩:=h2.frm
 obtain⟨p1,p2,p3⟩:=put3 hR (.bool (decide (c<0))) (.slice A2 L2 C2) (.slice A3 L3 C3) (by simp[noU]) hB (by rw[hW'.out.2];omega)
 have q0:=hR.cell 0
 have z0:=hR.frozen 0
 have q1:=hR.cell 1
 have z1:=hR.frozen 1
 have q2:=hR.cell 2
 have z2:=hR.frozen 2
 have P:=Lib.hid (And.intro (KEY.out _ _ _ _ (p2 _ _ h1) (p2 _ _ h2) rfl) (And.intro p3 p1.cells3))
 clear p1 p2 p3 hZ hO
 go_wp2
 obtain⟨P1,P2,P3,P4,P5⟩:=P.out
 exact bodyPost_ret (v:= .agg #[.bool (decide (c<0)),.slice A2 L2 C2,.slice A3 L3 C3]) (by simp[results,Tryz.results55,go_sem,P3,P4,P5]) rfl ⟨_,rfl,P1,P2⟩
theorem prtimes_any (vp vq:Value) (p:Int) (q:Nat) (w:World) (hp:IsZ w vp p) (hq:IsN w vq q) (sp:Sz p.natAbs 400000) (sq:Sz q 400000):
 Calls Tryz.prog 183 #[vp,vq] w fun e w'=>∃v',e= .returned v'∧IsZ w' v' (p*(q:Int))∧Below w.heap.size w w':=by
 have hM:=fun w va vb ha hb=>pzmul_any va vb p (q:Int) w ha hb sp (by simpa using sq)
 have hZ:∀w,IsN w vq q→IsZ w (.agg #[.bool false,vq]) (q:Int):=fun w h=>⟨vq,by rw[decide_eq_false (by omega)],by simpa using h⟩
 have hp0:=hp
 obtain⟨np,rfl,hp⟩:=hp
 obtain⟨Aq,Lq,Cq,rfl⟩:=hq.frm
 obtain⟨Ap,Lp,Cp,rfl⟩:=hp.frm
 obtain⟨c,hc⟩:∃c,c=p*(q:Int):=⟨_,rfl⟩
 rw[←hc] at hM ⊢
 have HZ:=Lib.hid hZ
 clear hc hZ sp sq
 generalize decide (p<0)=b at *
 obtain⟨W0,hW,hT,hB⟩:=box2 w 30 30 #[.bool b,.slice Ap Lp Cp] #[.bool false,.slice none 0 0]
 obtain⟨g,hg⟩:∃g,g=w.heap.size:=⟨_,rfl⟩
 have hW':=Lib.hid (And.intro hW hg)
 rw[←hg] at hT
 clear hW hg
 have hp0:=hp0.below hB
 have hq:=HZ.out _ (hq.below hB)
 obtain⟨q00,q01⟩:=hT.1.cells2
 go_enter Tryz.func183,Tryz.ntmps183
 go_wp2_with fail
 rw[←hW'.out.1,←hW'.out.2]
 refine (hM _ _ _ hp0 hq).mono ?_
 rintro e w1 ⟨v1,rfl,⟨n1,rfl,h1⟩,b1⟩
 obtain⟨A2,L2,C2,rfl⟩:=h1.frm
 have hT:=hT.b b1
 have hB:=hB.trans (b1.mono hB.size)
 have hR:=hT.2
 obtain⟨p1,p2,p3⟩:=put2 hR (.bool (decide (c<0))) (.slice A2 L2 C2) (by simp[noU]) hB (by rw[hW'.out.2];omega)
 have q0:=hR.cell 0
 have z0:=hR.frozen 0
 have q1:=hR.cell 1
 have z1:=hR.frozen 1
 have P:=Lib.hid (And.intro (⟨_,rfl,p2 _ _ h1⟩:IsZ _ (.agg #[.bool (decide (c<0)),.slice A2 L2 C2]) c) (And.intro p3 p1.cells2))
 clear p1 p2 p3 hM
 go_wp2
 obtain⟨P1,P2,P3,P4⟩:=P.out
 exact bodyPost_ret (v:= .agg #[.bool (decide (c<0)),.slice A2 L2 C2]) (by simp[results,Tryz.results183,go_sem,P3,P4]) rfl ⟨_,rfl,P1,P2⟩
attribute [local go_sem ↓] Go.wp_at_zero Go.wp_at_succ
theorem blk_one {w:World} {g:Nat} {t:TypeId} {a:Value} (h:Blk w g t #[a]):w.cell? ⟨g,0,none⟩=some a:=h.cell 0
theorem box4 (w:World) (t0 t1 t2 t3:TypeId) (c0 c1 c2 c3:Array Value):∃W,W=(((w.alloc (.cells c0 t0)).alloc (.cells c1 t1)).alloc (.cells c2 t2)).alloc (.cells c3 t3)∧Blk W w.heap.size t0 c0∧Two W (w.heap.size+1) t1 c1 t2 c2∧Blk W (w.heap.size+1+1+1) t3 c3∧Below w.heap.size w W:=by
 obtain⟨W,e,h1,h2,h3⟩:=box3 (w.alloc (.cells c0 t0)) t1 t2 t3 c1 c2 c3
 rw[World.size_alloc] at h1 h2 h3
 exact⟨W,e,(Blk.new w t0 c0).below h3 (by omega),h1,h2,((Below.refl _ w).alloc (Nat.le_refl _) _).trans (h3.mono (by omega))⟩
theorem pjoin_add (va vb:Value) (a b:Rat) (w:World) (ha:IsQ w va a) (hb:IsQ w vb b) (sa:BQ a 10000) (sb:BQ b 10000):
 Calls Tryz.prog 125 #[.agg #[.func (.func 124) #[] #[]],va,vb] w fun e w'=>∃v',e= .returned v'∧IsQ w' v' (a+b)∧Below w.heap.size w w':=by
 have hda:0<a.den:=Rat.den_pos a
 have hdb:0<b.den:=Rat.den_pos b
 obtain⟨pa,qa,rfl,hpa,hqa⟩:=ha
 have hza:IsZ w (.agg #[.bool (decide (a.num<0)),pa]) a.num:=⟨_,rfl,hpa⟩
 obtain⟨pb,qb,rfl,hpb,hqb⟩:=hb
 have hzb:IsZ w (.agg #[.bool (decide (b.num<0)),pb]) b.num:=⟨_,rfl,hpb⟩
 have hO1:=fun w hp hq=>prtimes_any (.agg #[.bool (decide (a.num<0)),pa]) qb a.num b.den w hp hq (sa.1.more (by omega)) (sb.2.more (by omega))
 have hO2:=fun w hp hq=>prtimes_any (.agg #[.bool (decide (b.num<0)),pb]) qa b.num a.den w hp hq (sb.1.more (by omega)) (sa.2.more (by omega))
 have s1:Sz (a.num*(b.den:Int)).natAbs 20000:=sa.1.imul (b:=(b.den:Int)) (by simpa using sb.2)
 have s2:Sz (b.num*(a.den:Int)).natAbs 20000:=sb.1.imul (b:=(a.den:Int)) (by simpa using sa.2)
 have hA:=fun u v w hu hv=>pzadd_any u v (a.num*(b.den:Int)) (b.num*(a.den:Int)) w hu hv (s1.more (by omega)) (s2.more (by omega))
 have hM:=fun w hu hv=>mul_any qa qb a.den b.den w hu hv (sa.2.fin (by omega)) (sb.2.fin (by omega))
 have hK:=fun u v w hu hv=>prmake_any u v (a.num*(b.den:Int)+b.num*(a.den:Int)) (a.den*b.den) w hu hv ((s1.iadd s2).more (by omega)) ((sa.2.mul sb.2).more (by omega)) (Nat.mul_pos hda hdb)
 rw[←Rat.add_def'] at hK
 obtain⟨r,hr⟩:∃r,r=a+b:=⟨_,rfl⟩
 rw[←hr] at hK ⊢
 clear hr s1 s2
 generalize a.num*(b.den:Int)+b.num*(a.den:Int)=m3 at *
 generalize a.num*(b.den:Int)=m1 at *
 generalize b.num*(a.den:Int)=m2 at *
 generalize a.den*b.den=d at *
 generalize a.num=na at *
 generalize b.num=nb at *
 generalize a.den=da at *
 generalize b.den=db at *
 clear hpa hpb sa sb hda hdb
 generalize decide (na<0)=sa at *
 generalize decide (nb<0)=sb at *
 obtain⟨W0,hW,hJ,hT,hR,hB⟩:=box4 w 156 32 32 32 #[.func (.func 124) #[] #[]] #[.bool sa,pa,qa] #[.bool sb,pb,qb] #[.bool false,.slice none 0 0,.slice none 0 0]
 obtain⟨g0,hg⟩:∃g0,g0=w.heap.size:=⟨_,rfl⟩
 have hW':=Lib.hid (And.intro hW hg)
 rw[←hg] at hJ hT hR
 clear hW hg
 have hza:=hza.below hB
 have hzb:=hzb.below hB
 have hqa:=hqa.below hB
 have hqb:=hqb.below hB
 have hgw:w.heap.size≤g0:=by rw[hW'.out.2];omega
 go_enter Tryz.func125,Tryz.ntmps125
 go_upto_region 1 with fail
 rw[←hW'.out.1,←hW'.out.2]
 go_cut [7] (fun s wx=>∃(X:Nat) (A1 A2:Option Addr) (L1 L2 C1 C2:Nat),s= .pointer (some ⟨X,0,none⟩)∧Blk wx X 32 #[.bool (decide (r.num<0)),.slice A1 L1 C1,.slice A2 L2 C2]∧IsN wx (.slice A1 L1 C1) r.num.natAbs∧IsN wx (.slice A2 L2 C2) r.den∧Blk wx (g0+1+1+1) 32 #[.bool false,.slice none 0 0,.slice none 0 0]∧Below w.heap.size w wx)
 case first=>
  go_region_held3 (fun w'=>w'.cell? ⟨g0,0,none⟩=some (.func (.func 124) #[] #[])∧w'.cell? ⟨g0+1,0,none⟩=some (.bool sa)∧w'.cell? ⟨g0+1,1,none⟩=some pa∧w'.cell? ⟨g0+1,2,none⟩=some qa∧w'.cell? ⟨g0+1+1,0,none⟩=some (.bool sb)∧w'.cell? ⟨g0+1+1,1,none⟩=some pb∧w'.cell? ⟨g0+1+1,2,none⟩=some qb) (first | exact⟨blk_one (hJ.below (by first | assumption | exact balloc (by assumption) _ | exact bdrew _ | exact balloc (bdrew _) _) hJ.lt),Two.cells33 (hT.below (by first | assumption | exact balloc (by assumption) _ | exact bdrew _ | exact balloc (bdrew _) _) hT.lt)⟩ | exact⟨blk_one (hJ.below (bset (bset (bset (by assumption) (by assumption) _) (by assumption) _) (by assumption) _) hJ.lt),Two.cells33 (hT.below (bset (bset (bset (by assumption) (by assumption) _) (by assumption) _) (by assumption) _) hT.lt)⟩)
   (first
    | (go_at_call 183;(with_reducible refine (hO1 _ ?_ ?_).mono ?_);exact hza.below (by first | assumption | exact balloc (by assumption) _ | exact bdrew _ | exact balloc (bdrew _) _);exact hqb.below (by first | assumption | exact balloc (by assumption) _ | exact bdrew _ | exact balloc (bdrew _) _);rintro x w1 ⟨v1,rfl,h1,b1⟩;(first | ((first | have hXX:=newX b1 W0 (by first | assumption | exact bdrew _) | have hXX:=newX (undrew b1) W0 (by first | exact Below.refl _ _ | assumption));obtain⟨hX,sX⟩:=hXX;try simp only[World.size_drew] at hX sX) | (have hX:=hX.below b1 hX.lt) | skip);have B1:=bstep (a:=W0) (by first | assumption | exact balloc (by assumption) _ | exact bdrew _ | exact balloc (bdrew _) _) b1)
    | (go_at_call 183;(with_reducible refine (hO2 _ ?_ ?_).mono ?_);exact hzb.below (by first | assumption | exact balloc (by assumption) _ | exact bdrew _ | exact balloc (bdrew _) _);exact hqa.below (by first | assumption | exact balloc (by assumption) _ | exact bdrew _ | exact balloc (bdrew _) _);rintro x w2 ⟨v2,rfl,h2,b2⟩;(first | ((first | have hXX:=newX b2 W0 (by first | assumption | exact bdrew _) | have hXX:=newX (undrew b2) W0 (by first | exact Below.refl _ _ | assumption));obtain⟨hX,sX⟩:=hXX;try simp only[World.size_drew] at hX sX) | (have hX:=hX.below b2 hX.lt) | skip);have B2:=bstep (a:=W0) (by first | assumption | exact balloc (by assumption) _ | exact bdrew _ | exact balloc (bdrew _) _) b2;have h1:=h1.below (by first | exact b2 | exact bstep (balloc (Below.refl _ _) _) b2))
    | (go_at_call 124;(with_reducible refine (hA _ _ _ ?_ ?_).mono ?_);exact h1.below (by first | exact Below.refl _ _ | exact balloc (Below.refl _ _) _);exact h2.below (by first | exact Below.refl _ _ | exact balloc (Below.refl _ _) _);rintro x w3 ⟨v3,rfl,h3,b3⟩;(first | ((first | have hXX:=newX b3 W0 (by first | assumption | exact bdrew _) | have hXX:=newX (undrew b3) W0 (by first | exact Below.refl _ _ | assumption));obtain⟨hX,sX⟩:=hXX;try simp only[World.size_drew] at hX sX) | (have hX:=hX.below b3 hX.lt) | skip);have B3:=bstep (a:=W0) (by first | assumption | exact balloc (by assumption) _ | exact bdrew _ | exact balloc (bdrew _) _) b3)
    | (go_at_call 122;(with_reducible refine (hM _ ?_ ?_).mono ?_);exact hqa.below (by first | assumption | exact balloc (by assumption) _ | exact bdrew _ | exact balloc (bdrew _) _);exact hqb.below (by first | assumption | exact balloc (by assumption) _ | exact bdrew _ | exact balloc (bdrew _) _);rintro x w4 ⟨v4,rfl,h4,b4⟩;(first | ((first | have hXX:=newX b4 W0 (by first | assumption | exact bdrew _) | have hXX:=newX (undrew b4) W0 (by first | exact Below.refl _ _ | assumption));obtain⟨hX,sX⟩:=hXX;try simp only[World.size_drew] at hX sX) | (have hX:=hX.below b4 hX.lt) | skip);have B4:=bstep (a:=W0) (by first | assumption | exact balloc (by assumption) _ | exact bdrew _ | exact balloc (bdrew _) _) b4;have h3:=h3.below (by first | exact b4 | exact bstep (balloc (Below.refl _ _) _) b4))
    | (go_at_call 120;(with_reducible refine (hK _ _ _ ?_ ?_).mono ?_);exact h3.below (by first | exact Below.refl _ _ | exact balloc (Below.refl _ _) _);exact h4.below (by first | exact Below.refl _ _ | exact balloc (Below.refl _ _) _);rintro x w5 ⟨v5,rfl,⟨n5,d5,rfl,h5,k5⟩,b5⟩;(first | ((first | have hXX:=newX b5 W0 (by first | assumption | exact bdrew _) | have hXX:=newX (undrew b5) W0 (by first | exact Below.refl _ _ | assumption));obtain⟨hX,sX⟩:=hXX;try simp only[World.size_drew] at hX sX) | (have hX:=hX.below b5 hX.lt) | skip);have B5:=bstep (a:=W0) (by first | assumption | exact balloc (by assumption) _ | exact bdrew _ | exact balloc (bdrew _) _) b5;obtain⟨A1,L1,C1,rfl⟩:=h5.frm;obtain⟨A2,L2,C2,rfl⟩:=k5.frm;(try (have x0:=hX.cell 0;have x1:=hX.cell 1;have x2:=hX.cell 2;have y0:=hX.frozen 0;have y1:=hX.frozen 1;have y2:=hX.frozen 2))))
  all_goals (go_wp2_with fail;go_meet)
  all_goals
   have hRlt:=hR.lt
   have hR:=hR.b B5
   have hB0:=hB
   have hB:=hB.trans (B5.mono hB.size)
   have hsz:=hT.lt
   first
    | exact⟨_,_,_,_,_,_,_,rfl,Blk.new _ _ _,h5.below (balloc (Below.refl _ _) _),k5.below (balloc (Below.refl _ _) _),hR.alloc _,hB.alloc hB.size _⟩
    | (obtain ⟨p1, p2, p3⟩ := put3 hX (.bool (decide (r.num < 0))) (.slice A1 L1 C1) (.slice A2 L2 C2) (by simp [noU]) hB (Nat.le_trans hB0.size (by first | assumption | exact Nat.le_refl _))
       exact⟨_,_,_,_,_,_,_,rfl,p1,p2 _ _ h5,p2 _ _ k5,hR.farX (Nat.ne_of_lt (Nat.lt_of_lt_of_le hRlt (by first | assumption | exact Nat.le_refl _))) _ _ _,p3⟩)
 obtain⟨X,A1,A2,L1,L2,C1,C2,rfl,hX,h1,h2,hR,hB⟩:=hcut
 obtain⟨x0,x1,x2⟩:=hX.cells3
 obtain⟨p1,p2,p3⟩:=put3 hR (.bool (decide (r.num<0))) (.slice A1 L1 C1) (.slice A2 L2 C2) (by simp[noU]) hB (by omega)
 have q0:=hR.cell 0
 have z0:=hR.frozen 0
 have q1:=hR.cell 1
 have z1:=hR.frozen 1
 have q2:=hR.cell 2
 have z2:=hR.frozen 2
 have P:=Lib.hid (And.intro (⟨_,_,rfl,p2 _ _ h1,p2 _ _ h2⟩:IsQ _ (.agg #[.bool (decide (r.num<0)),.slice A1 L1 C1,.slice A2 L2 C2]) r) (And.intro p3 p1.cells3))
 clear p1 p2 p3
 go_wp2
 obtain⟨P1,P2,P3,P4,P5⟩:=P.out
 exact bodyPost_ret (v:= .agg #[.bool (decide (r.num<0)),.slice A1 L1 C1,.slice A2 L2 C2]) (by simp[results,Tryz.results125,go_sem,P3,P4,P5]) rfl ⟨_,rfl,P1,P2⟩
theorem prsub1_any (va vb:Value) (a b:Int) (w:World) (ha:IsZ w va a) (hb:IsZ w vb b) (sa:Sz a.natAbs 400000) (sb:Sz b.natAbs 400000):
 Calls Tryz.prog 132 #[va,vb] w fun e w'=>∃v',e= .returned v'∧IsZ w' v' (a - b)∧Below w.heap.size w w':=by
 have hNg:=fun v w h=>pzneg_any v b w h
 have hAd:=fun u v w h1 h2=>pzadd_any u v a (-b) w h1 h2 sa (by rw[Int.natAbs_neg];exact sb)
 rw[show a+ -b=a - b from (Int.sub_eq_add_neg).symm] at hAd
 have hav:=ha
 have hbv:=hb
 obtain⟨na,rfl,hna⟩:=ha
 obtain⟨nb,rfl,hnb⟩:=hb
 obtain⟨Aa,La,Ca,rfl⟩:=hna.frm
 obtain⟨Ab,Lb,Cb,rfl⟩:=hnb.frm
 generalize a - b=c at *
 clear hna hnb sa sb
 obtain⟨W0,hW,hT,hR,hB⟩:=box3 w 30 30 30 #[.bool (decide (a<0)),.slice Aa La Ca] #[.bool (decide (b<0)),.slice Ab Lb Cb] #[.bool false,.slice none 0 0]
 obtain⟨g,hg⟩:∃g,g=w.heap.size:=⟨_,rfl⟩
 have hW':=Lib.hid (And.intro hW hg)
 rw[←hg] at hT hR
 have hgw:w.heap.size≤g:=by omega
 clear hW hg
 obtain⟨hX,hY⟩:=hT
 replace hav:=hav.b hB
 replace hbv:=hbv.b hB
 obtain⟨c1_hX_0,c1_hX_1⟩:=hX.cells2
 obtain⟨c1_hY_0,c1_hY_1⟩:=hY.cells2
 obtain⟨c1_hR_0,c1_hR_1⟩:=hR.cells2
 generalize decide (a<0)=s1 at *
 generalize decide (b<0)=s2 at *
 go_enter Tryz.func132,Tryz.ntmps132
 go_upto_region 1 with fail
 rw[←hW'.out.1,←hW'.out.2]
 go_region_held3 (fun w'=>w'.cell? ⟨g,0,none⟩=some (.bool s1)∧w'.cell? ⟨g,1,none⟩=some (.slice Aa La Ca)∧w'.cell? ⟨g+1,0,none⟩=some (.bool s2)∧w'.cell? ⟨g+1,1,none⟩=some (.slice Ab Lb Cb))
  (first | exact Two.cells22 ⟨hX.below (by first | assumption | exact bdrew _ | exact Below.refl _ _ | exact balloc (bdrew _) _ | exact balloc (by assumption) _ | exact balloc (Below.refl _ _) _ | exact bset (bset (by assumption) (by first | assumption | exact Nat.le_refl _) _) (by first | assumption | exact Nat.le_refl _) _) hX.lt,hY.below (by first | assumption | exact bdrew _ | exact Below.refl _ _ | exact balloc (bdrew _) _ | exact balloc (by assumption) _ | exact balloc (Below.refl _ _) _ | exact bset (bset (by assumption) (by first | assumption | exact Nat.le_refl _) _) (by first | assumption | exact Nat.le_refl _) _) hY.lt⟩ | exact Two.cells22 (Two.far2 ⟨hX.below (by first | assumption | exact bdrew _ | exact Below.refl _ _ | exact balloc (bdrew _) _ | exact balloc (by assumption) _ | exact balloc (Below.refl _ _) _ | exact bset (bset (by assumption) (by first | assumption | exact Nat.le_refl _) _) (by first | assumption | exact Nat.le_refl _) _) hX.lt,hY.below (by first | assumption | exact bdrew _ | exact Below.refl _ _ | exact balloc (bdrew _) _ | exact balloc (by assumption) _ | exact balloc (Below.refl _ _) _ | exact bset (bset (by assumption) (by first | assumption | exact Nat.le_refl _) _) (by first | assumption | exact Nat.le_refl _) _) hY.lt⟩ _ _))
  (first
   | (go_at_call 133;(with_reducible refine (hNg _ _ ?_).mono ?_);exact hbv.below (by first | assumption | exact bdrew _ | exact Below.refl _ _ | exact balloc (bdrew _) _ | exact balloc (by assumption) _ | exact balloc (Below.refl _ _) _ | exact bset (bset (by assumption) (by first | assumption | exact Nat.le_refl _) _) (by first | assumption | exact Nat.le_refl _) _);rintro e w1 ⟨v1,rfl,h1,b1⟩;have B1:=bstep (a:=W0) (by first | assumption | exact bdrew _ | exact Below.refl _ _ | exact balloc (bdrew _) _ | exact balloc (by assumption) _ | exact balloc (Below.refl _ _) _ | exact bset (bset (by assumption) (by first | assumption | exact Nat.le_refl _) _) (by first | assumption | exact Nat.le_refl _) _) b1)
   | (go_at_call 124;(with_reducible refine (hAd _ _ _ ?_ ?_).mono ?_);exact hav.below (by first | assumption | exact bdrew _ | exact Below.refl _ _ | exact balloc (bdrew _) _ | exact balloc (by assumption) _ | exact balloc (Below.refl _ _) _ | exact bset (bset (by assumption) (by first | assumption | exact Nat.le_refl _) _) (by first | assumption | exact Nat.le_refl _) _);exact h1.below (by first | exact Below.refl _ _ | exact balloc (Below.refl _ _) _ | exact bdrew _ | exact (balloc (Below.refl _ _) _).drew);rintro e w2 ⟨v2,rfl,⟨n2,rfl,h2⟩,b2⟩;obtain⟨A2,L2,C2,rfl⟩:=h2.frm;have B2:=bstep (a:=W0) (by first | assumption | exact bdrew _ | exact Below.refl _ _ | exact balloc (bdrew _) _ | exact balloc (by assumption) _ | exact balloc (Below.refl _ _) _ | exact bset (bset (by assumption) (by first | assumption | exact Nat.le_refl _) _) (by first | assumption | exact Nat.le_refl _) _) b2;have hR2:=hR.below B2 hR.lt;obtain⟨q0,q1⟩:=hR2.cells2;have z0:=hR2.frozen 0;have z1:=hR2.frozen 1))
 all_goals
  have hB2:=hB.trans (B2.mono hB.size)
  obtain⟨p1,p2,p3⟩:=put2 hR2 (.bool (decide (c<0))) (.slice A2 L2 C2) (by simp[noU]) hB2 (by omega)
  have P:=Lib.hid (And.intro (p2 _ _ h2) (And.intro p3 p1.cells2))
  clear p1 p2 p3
  go_wp2
  obtain⟨P1,P2,P3,P4⟩:=P.out
  exact bodyPost_ret (v:= .agg #[.bool (decide (c<0)),.slice A2 L2 C2]) (by simp[results,Tryz.results132,go_sem,P3,P4]) rfl ⟨_,rfl,⟨_,rfl,P1⟩,P2⟩
theorem Sz.isub {a b:Int} {k m:Nat} (ha:Sz a.natAbs k) (hb:Sz b.natAbs m):Sz (a - b).natAbs (k+m+1):=by
 rw[Int.sub_eq_add_neg];exact ha.iadd (by rw[Int.natAbs_neg];exact hb)
theorem sub_mk (a b:Rat):a - b=mkRat (a.num*(b.den:Int) - b.num*(a.den:Int)) (a.den*b.den):=by
 rw[Rat.sub_eq_add_neg,Rat.add_def',Rat.neg_num,Rat.neg_den,Int.neg_mul,←Int.sub_eq_add_neg]
theorem pjoin_sub (va vb:Value) (a b:Rat) (w:World) (ha:IsQ w va a) (hb:IsQ w vb b) (sa:BQ a 10000) (sb:BQ b 10000):
 Calls Tryz.prog 125 #[.agg #[.func (.func 132) #[] #[]],va,vb] w fun e w'=>∃v',e= .returned v'∧IsQ w' v' (a - b)∧Below w.heap.size w w':=by
 have hda:0<a.den:=Rat.den_pos a
 have hdb:0<b.den:=Rat.den_pos b
 obtain⟨pa,qa,rfl,hpa,hqa⟩:=ha
 have hza:IsZ w (.agg #[.bool (decide (a.num<0)),pa]) a.num:=⟨_,rfl,hpa⟩
 obtain⟨pb,qb,rfl,hpb,hqb⟩:=hb
 have hzb:IsZ w (.agg #[.bool (decide (b.num<0)),pb]) b.num:=⟨_,rfl,hpb⟩
 have hO1:=fun w hp hq=>prtimes_any (.agg #[.bool (decide (a.num<0)),pa]) qb a.num b.den w hp hq (sa.1.more (by omega)) (sb.2.more (by omega))
 have hO2:=fun w hp hq=>prtimes_any (.agg #[.bool (decide (b.num<0)),pb]) qa b.num a.den w hp hq (sb.1.more (by omega)) (sa.2.more (by omega))
 have s1:Sz (a.num*(b.den:Int)).natAbs 20000:=sa.1.imul (b:=(b.den:Int)) (by simpa using sb.2)
 have s2:Sz (b.num*(a.den:Int)).natAbs 20000:=sb.1.imul (b:=(a.den:Int)) (by simpa using sa.2)
 have hA:=fun u v w hu hv=>prsub1_any u v (a.num*(b.den:Int)) (b.num*(a.den:Int)) w hu hv (s1.more (by omega)) (s2.more (by omega))
 have hM:=fun w hu hv=>mul_any qa qb a.den b.den w hu hv (sa.2.fin (by omega)) (sb.2.fin (by omega))
 have hK:=fun u v w hu hv=>prmake_any u v (a.num*(b.den:Int) - b.num*(a.den:Int)) (a.den*b.den) w hu hv ((s1.isub s2).more (by omega)) ((sa.2.mul sb.2).more (by omega)) (Nat.mul_pos hda hdb)
 rw[←sub_mk] at hK
 obtain⟨r,hr⟩:∃r,r=a - b:=⟨_,rfl⟩
 rw[←hr] at hK ⊢
 clear hr s1 s2
 generalize a.num*(b.den:Int) - b.num*(a.den:Int)=m3 at *
 generalize a.num*(b.den:Int)=m1 at *
 generalize b.num*(a.den:Int)=m2 at *
 generalize a.den*b.den=d at *
 generalize a.num=na at *
 generalize b.num=nb at *
 generalize a.den=da at *
 generalize b.den=db at *
 clear hpa hpb sa sb hda hdb
 generalize decide (na<0)=sa at *
 generalize decide (nb<0)=sb at *
 obtain⟨W0,hW,hJ,hT,hR,hB⟩:=box4 w 156 32 32 32 #[.func (.func 132) #[] #[]] #[.bool sa,pa,qa] #[.bool sb,pb,qb] #[.bool false,.slice none 0 0,.slice none 0 0]
 obtain⟨g0,hg⟩:∃g0,g0=w.heap.size:=⟨_,rfl⟩
 have hW':=Lib.hid (And.intro hW hg)
 rw[←hg] at hJ hT hR
 clear hW hg
 have hza:=hza.below hB
 have hzb:=hzb.below hB
 have hqa:=hqa.below hB
 have hqb:=hqb.below hB
 have hgw:w.heap.size≤g0:=by rw[hW'.out.2];omega
 go_enter Tryz.func125,Tryz.ntmps125
 go_upto_region 1 with fail
 rw[←hW'.out.1,←hW'.out.2]
 go_cut [7] (fun s wx=>∃(X:Nat) (A1 A2:Option Addr) (L1 L2 C1 C2:Nat),s= .pointer (some ⟨X,0,none⟩)∧Blk wx X 32 #[.bool (decide (r.num<0)),.slice A1 L1 C1,.slice A2 L2 C2]∧IsN wx (.slice A1 L1 C1) r.num.natAbs∧IsN wx (.slice A2 L2 C2) r.den∧Blk wx (g0+1+1+1) 32 #[.bool false,.slice none 0 0,.slice none 0 0]∧Below w.heap.size w wx)
 case first=>
  go_region_held3 (fun w'=>w'.cell? ⟨g0,0,none⟩=some (.func (.func 132) #[] #[])∧w'.cell? ⟨g0+1,0,none⟩=some (.bool sa)∧w'.cell? ⟨g0+1,1,none⟩=some pa∧w'.cell? ⟨g0+1,2,none⟩=some qa∧w'.cell? ⟨g0+1+1,0,none⟩=some (.bool sb)∧w'.cell? ⟨g0+1+1,1,none⟩=some pb∧w'.cell? ⟨g0+1+1,2,none⟩=some qb) (first | exact⟨blk_one (hJ.below (by first | assumption | exact balloc (by assumption) _ | exact bdrew _ | exact balloc (bdrew _) _) hJ.lt),Two.cells33 (hT.below (by first | assumption | exact balloc (by assumption) _ | exact bdrew _ | exact balloc (bdrew _) _) hT.lt)⟩ | exact⟨blk_one (hJ.below (bset (bset (bset (by assumption) (by assumption) _) (by assumption) _) (by assumption) _) hJ.lt),Two.cells33 (hT.below (bset (bset (bset (by assumption) (by assumption) _) (by assumption) _) (by assumption) _) hT.lt)⟩)
   (first
    | (go_at_call 183;(with_reducible refine (hO1 _ ?_ ?_).mono ?_);exact hza.below (by first | assumption | exact balloc (by assumption) _ | exact bdrew _ | exact balloc (bdrew _) _);exact hqb.below (by first | assumption | exact balloc (by assumption) _ | exact bdrew _ | exact balloc (bdrew _) _);rintro x w1 ⟨v1,rfl,h1,b1⟩;(first | ((first | have hXX:=newX b1 W0 (by first | assumption | exact bdrew _) | have hXX:=newX (undrew b1) W0 (by first | exact Below.refl _ _ | assumption));obtain⟨hX,sX⟩:=hXX;try simp only[World.size_drew] at hX sX) | (have hX:=hX.below b1 hX.lt) | skip);have B1:=bstep (a:=W0) (by first | assumption | exact balloc (by assumption) _ | exact bdrew _ | exact balloc (bdrew _) _) b1)
    | (go_at_call 183;(with_reducible refine (hO2 _ ?_ ?_).mono ?_);exact hzb.below (by first | assumption | exact balloc (by assumption) _ | exact bdrew _ | exact balloc (bdrew _) _);exact hqa.below (by first | assumption | exact balloc (by assumption) _ | exact bdrew _ | exact balloc (bdrew _) _);rintro x w2 ⟨v2,rfl,h2,b2⟩;(first | ((first | have hXX:=newX b2 W0 (by first | assumption | exact bdrew _) | have hXX:=newX (undrew b2) W0 (by first | exact Below.refl _ _ | assumption));obtain⟨hX,sX⟩:=hXX;try simp only[World.size_drew] at hX sX) | (have hX:=hX.below b2 hX.lt) | skip);have B2:=bstep (a:=W0) (by first | assumption | exact balloc (by assumption) _ | exact bdrew _ | exact balloc (bdrew _) _) b2;have h1:=h1.below (by first | exact b2 | exact bstep (balloc (Below.refl _ _) _) b2))
    | (go_at_call 132;(with_reducible refine (hA _ _ _ ?_ ?_).mono ?_);exact h1.below (by first | exact Below.refl _ _ | exact balloc (Below.refl _ _) _);exact h2.below (by first | exact Below.refl _ _ | exact balloc (Below.refl _ _) _);rintro x w3 ⟨v3,rfl,h3,b3⟩;(first | ((first | have hXX:=newX b3 W0 (by first | assumption | exact bdrew _) | have hXX:=newX (undrew b3) W0 (by first | exact Below.refl _ _ | assumption));obtain⟨hX,sX⟩:=hXX;try simp only[World.size_drew] at hX sX) | (have hX:=hX.below b3 hX.lt) | skip);have B3:=bstep (a:=W0) (by first | assumption | exact balloc (by assumption) _ | exact bdrew _ | exact balloc (bdrew _) _) b3)
    | (go_at_call 122;(with_reducible refine (hM _ ?_ ?_).mono ?_);exact hqa.below (by first | assumption | exact balloc (by assumption) _ | exact bdrew _ | exact balloc (bdrew _) _);exact hqb.below (by first | assumption | exact balloc (by assumption) _ | exact bdrew _ | exact balloc (bdrew _) _);rintro x w4 ⟨v4,rfl,h4,b4⟩;(first | ((first | have hXX:=newX b4 W0 (by first | assumption | exact bdrew _) | have hXX:=newX (undrew b4) W0 (by first | exact Below.refl _ _ | assumption));obtain⟨hX,sX⟩:=hXX;try simp only[World.size_drew] at hX sX) | (have hX:=hX.below b4 hX.lt) | skip);have B4:=bstep (a:=W0) (by first | assumption | exact balloc (by assumption) _ | exact bdrew _ | exact balloc (bdrew _) _) b4;have h3:=h3.below (by first | exact b4 | exact bstep (balloc (Below.refl _ _) _) b4))
    | (go_at_call 120;(with_reducible refine (hK _ _ _ ?_ ?_).mono ?_);exact h3.below (by first | exact Below.refl _ _ | exact balloc (Below.refl _ _) _);exact h4.below (by first | exact Below.refl _ _ | exact balloc (Below.refl _ _) _);rintro x w5 ⟨v5,rfl,⟨n5,d5,rfl,h5,k5⟩,b5⟩;(first | ((first | have hXX:=newX b5 W0 (by first | assumption | exact bdrew _) | have hXX:=newX (undrew b5) W0 (by first | exact Below.refl _ _ | assumption));obtain⟨hX,sX⟩:=hXX;try simp only[World.size_drew] at hX sX) | (have hX:=hX.below b5 hX.lt) | skip);have B5:=bstep (a:=W0) (by first | assumption | exact balloc (by assumption) _ | exact bdrew _ | exact balloc (bdrew _) _) b5;obtain⟨A1,L1,C1,rfl⟩:=h5.frm;obtain⟨A2,L2,C2,rfl⟩:=k5.frm;(try (have x0:=hX.cell 0;have x1:=hX.cell 1;have x2:=hX.cell 2;have y0:=hX.frozen 0;have y1:=hX.frozen 1;have y2:=hX.frozen 2))))
  all_goals (go_wp2_with fail;go_meet)
  all_goals
   have hRlt:=hR.lt
   have hR:=hR.b B5
   have hB0:=hB
   have hB:=hB.trans (B5.mono hB.size)
   have hsz:=hT.lt
   first
    | exact⟨_,_,_,_,_,_,_,rfl,Blk.new _ _ _,h5.below (balloc (Below.refl _ _) _),k5.below (balloc (Below.refl _ _) _),hR.alloc _,hB.alloc hB.size _⟩
    | (obtain ⟨p1, p2, p3⟩ := put3 hX (.bool (decide (r.num < 0))) (.slice A1 L1 C1) (.slice A2 L2 C2) (by simp [noU]) hB (Nat.le_trans hB0.size (by first | assumption | exact Nat.le_refl _))
       exact⟨_,_,_,_,_,_,_,rfl,p1,p2 _ _ h5,p2 _ _ k5,hR.farX (Nat.ne_of_lt (Nat.lt_of_lt_of_le hRlt (by first | assumption | exact Nat.le_refl _))) _ _ _,p3⟩)
 obtain⟨X,A1,A2,L1,L2,C1,C2,rfl,hX,h1,h2,hR,hB⟩:=hcut
 obtain⟨x0,x1,x2⟩:=hX.cells3
 obtain⟨p1,p2,p3⟩:=put3 hR (.bool (decide (r.num<0))) (.slice A1 L1 C1) (.slice A2 L2 C2) (by simp[noU]) hB (by omega)
 have q0:=hR.cell 0
 have z0:=hR.frozen 0
 have q1:=hR.cell 1
 have z1:=hR.frozen 1
 have q2:=hR.cell 2
 have z2:=hR.frozen 2
 have P:=Lib.hid (And.intro (⟨_,_,rfl,p2 _ _ h1,p2 _ _ h2⟩:IsQ _ (.agg #[.bool (decide (r.num<0)),.slice A1 L1 C1,.slice A2 L2 C2]) r) (And.intro p3 p1.cells3))
 clear p1 p2 p3
 go_wp2
 obtain⟨P1,P2,P3,P4,P5⟩:=P.out
 exact bodyPost_ret (v:= .agg #[.bool (decide (r.num<0)),.slice A1 L1 C1,.slice A2 L2 C2]) (by simp[results,Tryz.results125,go_sem,P3,P4,P5]) rfl ⟨_,rfl,P1,P2⟩
theorem pradd_any (va vb:Value) (a b:Rat) (w:World) (ha:IsQ w va a) (hb:IsQ w vb b) (sa:BQ a 10000) (sb:BQ b 10000):
 Calls Tryz.prog 60 #[va,vb] w fun e w'=>∃v',e= .returned v'∧IsQ w' v' (a+b)∧Below w.heap.size w w':=by
 have hJ:=fun w h1 h2=>pjoin_add va vb a b w h1 h2 sa sb
 generalize a+b=r at *
 have hav:=ha
 have hbv:=hb
 obtain⟨pa,qa,rfl,hpa,hqa⟩:=ha
 obtain⟨pb,qb,rfl,hpb,hqb⟩:=hb
 obtain⟨A1,L1,C1,rfl⟩:=hpa.frm
 obtain⟨A2,L2,C2,rfl⟩:=hqa.frm
 obtain⟨A3,L3,C3,rfl⟩:=hpb.frm
 obtain⟨A4,L4,C4,rfl⟩:=hqb.frm
 clear hpa hqa hpb hqb sa sb
 generalize decide (a.num<0)=s1 at *
 generalize decide (b.num<0)=s2 at *
 obtain⟨W0,hW,hT,hR,hB⟩:=box3 w 32 32 32 #[.bool s1,.slice A1 L1 C1,.slice A2 L2 C2] #[.bool s2,.slice A3 L3 C3,.slice A4 L4 C4] #[.bool false,.slice none 0 0,.slice none 0 0]
 obtain⟨g,hg⟩:∃g,g=w.heap.size:=⟨_,rfl⟩
 have hW':=Lib.hid (And.intro hW hg)
 rw[←hg] at hT hR
 have hgw:w.heap.size≤g:=by omega
 clear hW hg
 obtain⟨hX,hY⟩:=hT
 replace hav:=hav.b hB
 replace hbv:=hbv.b hB
 obtain⟨c1_hX_0,c1_hX_1,c1_hX_2⟩:=hX.cells3
 obtain⟨c1_hY_0,c1_hY_1,c1_hY_2⟩:=hY.cells3
 obtain⟨c1_hR_0,c1_hR_1,c1_hR_2⟩:=hR.cells3
 go_enter Tryz.func60,Tryz.ntmps60
 go_wp2_with fail
 rw[←hW'.out.1,←hW'.out.2]
 refine (hJ _ hav hbv).mono ?_
 rintro e w1 ⟨v1,rfl,⟨n1,d1,rfl,h1,k1⟩,b1⟩
 replace hav:=hav.b b1
 replace hbv:=hbv.b b1
 replace hX:=hX.b b1
 replace hY:=hY.b b1
 replace hR:=hR.b b1
 replace hB:=bOn hB b1
 clear c1_hX_0 c1_hX_1 c1_hX_2 c1_hY_0 c1_hY_1 c1_hY_2 c1_hR_0 c1_hR_1 c1_hR_2
 obtain⟨c2_hX_0,c2_hX_1,c2_hX_2⟩:=hX.cells3
 obtain⟨c2_hY_0,c2_hY_1,c2_hY_2⟩:=hY.cells3
 obtain⟨c2_hR_0,c2_hR_1,c2_hR_2⟩:=hR.cells3
 obtain⟨A5,L5,C5,rfl⟩:=h1.frm
 obtain⟨A6,L6,C6,rfl⟩:=k1.frm
 obtain⟨p1,p2,p3⟩:=put3 hR (.bool (decide (r.num<0))) (.slice A5 L5 C5) (.slice A6 L6 C6) (by simp[noU]) hB (by omega)
 have q0:=hR.cell 0
 have z0:=hR.frozen 0
 have q1:=hR.cell 1
 have z1:=hR.frozen 1
 have q2:=hR.cell 2
 have z2:=hR.frozen 2
 have P:=Lib.hid (And.intro (⟨_,_,rfl,p2 _ _ h1,p2 _ _ k1⟩:IsQ _ (.agg #[.bool (decide (r.num<0)),.slice A5 L5 C5,.slice A6 L6 C6]) r) (And.intro p3 p1.cells3))
 clear p1 p2 p3
 go_wp2_with fail
 obtain⟨P1,P2,P3,P4,P5⟩:=P.out
 exact bodyPost_ret (v:= .agg #[.bool (decide (r.num<0)),.slice A5 L5 C5,.slice A6 L6 C6]) (by simp[results,Tryz.results60,go_sem,P3,P4,P5]) rfl ⟨_,rfl,P1,P2⟩
theorem prsub_any (va vb:Value) (a b:Rat) (w:World) (ha:IsQ w va a) (hb:IsQ w vb b) (sa:BQ a 10000) (sb:BQ b 10000):
 Calls Tryz.prog 67 #[va,vb] w fun e w'=>∃v',e= .returned v'∧IsQ w' v' (a - b)∧Below w.heap.size w w':=by
 have hJ:=fun w h1 h2=>pjoin_sub va vb a b w h1 h2 sa sb
 generalize a - b=r at *
 have hav:=ha
 have hbv:=hb
 obtain⟨pa,qa,rfl,hpa,hqa⟩:=ha
 obtain⟨pb,qb,rfl,hpb,hqb⟩:=hb
 obtain⟨A1,L1,C1,rfl⟩:=hpa.frm
 obtain⟨A2,L2,C2,rfl⟩:=hqa.frm
 obtain⟨A3,L3,C3,rfl⟩:=hpb.frm
 obtain⟨A4,L4,C4,rfl⟩:=hqb.frm
 clear hpa hqa hpb hqb sa sb
 generalize decide (a.num<0)=s1 at *
 generalize decide (b.num<0)=s2 at *
 obtain⟨W0,hW,hT,hR,hB⟩:=box3 w 32 32 32 #[.bool s1,.slice A1 L1 C1,.slice A2 L2 C2] #[.bool s2,.slice A3 L3 C3,.slice A4 L4 C4] #[.bool false,.slice none 0 0,.slice none 0 0]
 obtain⟨g,hg⟩:∃g,g=w.heap.size:=⟨_,rfl⟩
 have hW':=Lib.hid (And.intro hW hg)
 rw[←hg] at hT hR
 have hgw:w.heap.size≤g:=by omega
 clear hW hg
 obtain⟨hX,hY⟩:=hT
 replace hav:=hav.b hB
 replace hbv:=hbv.b hB
 obtain⟨c1_hX_0,c1_hX_1,c1_hX_2⟩:=hX.cells3
 obtain⟨c1_hY_0,c1_hY_1,c1_hY_2⟩:=hY.cells3
 obtain⟨c1_hR_0,c1_hR_1,c1_hR_2⟩:=hR.cells3
 go_enter Tryz.func67,Tryz.ntmps67
 go_wp2_with fail
 rw[←hW'.out.1,←hW'.out.2]
 refine (hJ _ hav hbv).mono ?_
 rintro e w1 ⟨v1,rfl,⟨n1,d1,rfl,h1,k1⟩,b1⟩
 replace hav:=hav.b b1
 replace hbv:=hbv.b b1
 replace hX:=hX.b b1
 replace hY:=hY.b b1
 replace hR:=hR.b b1
 replace hB:=bOn hB b1
 clear c1_hX_0 c1_hX_1 c1_hX_2 c1_hY_0 c1_hY_1 c1_hY_2 c1_hR_0 c1_hR_1 c1_hR_2
 obtain⟨c2_hX_0,c2_hX_1,c2_hX_2⟩:=hX.cells3
 obtain⟨c2_hY_0,c2_hY_1,c2_hY_2⟩:=hY.cells3
 obtain⟨c2_hR_0,c2_hR_1,c2_hR_2⟩:=hR.cells3
 obtain⟨A5,L5,C5,rfl⟩:=h1.frm
 obtain⟨A6,L6,C6,rfl⟩:=k1.frm
 obtain⟨p1,p2,p3⟩:=put3 hR (.bool (decide (r.num<0))) (.slice A5 L5 C5) (.slice A6 L6 C6) (by simp[noU]) hB (by omega)
 have q0:=hR.cell 0
 have z0:=hR.frozen 0
 have q1:=hR.cell 1
 have z1:=hR.frozen 1
 have q2:=hR.cell 2
 have z2:=hR.frozen 2
 have P:=Lib.hid (And.intro (⟨_,_,rfl,p2 _ _ h1,p2 _ _ k1⟩:IsQ _ (.agg #[.bool (decide (r.num<0)),.slice A5 L5 C5,.slice A6 L6 C6]) r) (And.intro p3 p1.cells3))
 clear p1 p2 p3
 go_wp2_with fail
 obtain⟨P1,P2,P3,P4,P5⟩:=P.out
 exact bodyPost_ret (v:= .agg #[.bool (decide (r.num<0)),.slice A5 L5 C5,.slice A6 L6 C6]) (by simp[results,Tryz.results67,go_sem,P3,P4,P5]) rfl ⟨_,rfl,P1,P2⟩
theorem pdback_any (v:Value) (z:Int) (k:Nat) (hk:k≤2000) (w:World) (h:IsZ w v z) (sz:Sz z.natAbs 10000):
 Calls Tryz.prog 65 #[v,.int .i64 k] w fun e w'=>∃v',e= .returned (.tuple #[v',.int .i64 0])∧IsQ w' v' (mkRat z (2^k))∧Below w.heap.size w w':=by
 have hO:=fun w=>of_any 1 (by unfold W64;omega) w
 have hS:=fun v w h=>dshl_any v 1 k (by omega) w h (by rw[limbs_single (by omega) (by unfold W64;omega)];simp)
 have hM:=fun u v w hu hv=>prmake_any u v z (2^k) w hu hv (sz.more (by omega)) ((Sz.two_pow k).more (by omega)) (Nat.pow_pos (by omega))
 rw[Nat.one_mul] at hS
 generalize mkRat z (2^k)=r at *
 generalize 2^k=p at *
 obtain⟨s,A,L,C,rfl,hz⟩:=h.opn
 have hd0:decide ((k:Int)<0)=false:=decide_eq_false (by omega)
 have hd1:¬(2000:Int)<(k:Int):=by omega
 clear h sz
 obtain⟨g,hg⟩:∃g,g=w.heap.size:=⟨_,rfl⟩
 obtain⟨Y0,eY0,hX,bY0⟩:=box1 w 30 #[.bool s,.slice A L C]
 have zY0:Y0.heap.size=g+1:=by rw[eY0,World.size_alloc,←hg]
 rw[←hg] at hX
 replace hz:=hz.b bY0
 have hB:=bY0
 obtain⟨Y1,eY1,hR,bY1⟩:=box1 Y0 32 #[.bool false,.slice none 0 0,.slice none 0 0]
 have zY1:Y1.heap.size=g+1+1:=by rw[eY1,World.size_alloc,zY0]
 rw[zY0] at hR
 replace hX:=hX.b bY1
 replace hz:=hz.b bY1
 replace hB:=bOn hB bY1
 have hgw:w.heap.size≤g:=by omega
 have EY:=Lib.hid (And.intro hg (And.intro eY0 eY1))
 clear hg eY0 zY0 eY1 zY1
 obtain⟨c0,c1⟩:=hX.q2
 obtain⟨c2,c3,c4⟩:=hR.q3
 go_enter Tryz.func65,Tryz.ntmps65
 go_wp2_with fail
 rw[←EY.out.2.1,←EY.out.2.2,←EY.out.1]
 refine (hO _).mono ?_
 rintro e w2 ⟨v1,rfl,h1,b2⟩
 replace hz:=hz.b b2
 replace hX:=hX.b b2
 replace hR:=hR.b b2
 replace hB:=bOn hB b2
 clear c0 c1 c2 c3 c4
 obtain⟨c5,c6⟩:=hX.q2
 obtain⟨c7,c8,c9⟩:=hR.q3
 go_wp2_with fail
 refine (hS _ _ h1).mono ?_
 rintro e w4 ⟨v2,rfl,h2,b4⟩
 replace hz:=hz.b b4
 replace hX:=hX.b b4
 replace hR:=hR.b b4
 replace h1:=h1.b b4
 replace hB:=bOn hB b4
 clear c5 c6 c7 c8 c9
 obtain⟨c10,c11⟩:=hX.q2
 obtain⟨c12,c13,c14⟩:=hR.q3
 go_wp2_with fail
 refine (hM _ _ _ hz h2).mono ?_
 rintro e w6 ⟨v3,rfl,q3,b6⟩
 replace hz:=hz.b b6
 replace hX:=hX.b b6
 replace hR:=hR.b b6
 replace h2:=h2.b b6
 replace hB:=bOn hB b6
 clear c10 c11 c12 c13 c14
 obtain⟨c15,c16⟩:=hX.q2
 obtain⟨c17,c18,c19⟩:=hR.q3
 obtain⟨s3,A3,L3,C3,D3,M3,E3,rfl,q3⟩:=q3.opn
 obtain⟨p1,p2,p3⟩:=put3 hR (.bool s3) (.slice A3 L3 C3) (.slice D3 M3 E3) (by simp[noU]) hB (by omega)
 have rc0:World.cell? _ ⟨g+1,0,none⟩=some (.bool false):=hR.cell 0
 have rf0:=hR.frozen 0
 have rc1:World.cell? _ ⟨g+1,1,none⟩=some (.slice none 0 0):=hR.cell 1
 have rf1:=hR.frozen 1
 have rc2:World.cell? _ ⟨g+1,2,none⟩=some (.slice none 0 0):=hR.cell 2
 have rf2:=hR.frozen 2
 have P:=Lib.hid (And.intro (q3.kept p2) (And.intro p3 p1.cells3))
 clear p1 p2 p3
 go_wp2_with fail
 obtain⟨P1,P2,P3,P4,P5⟩:=P.out
 exact bodyPost_ret (v:= .tuple #[.agg #[.bool s3,.slice A3 L3 C3,.slice D3 M3 E3],.int .i64 0]) (by simp[results,Tryz.results65,go_sem,P3,P4,P5]) rfl ⟨_,rfl,P1,P2⟩
theorem floor_neg (n D:Nat) (hD:0<D): -(n:Int) / (D:Int)= -((n / D+(if 0<n % D then 1 else 0):Nat):Int):=by
 have hr:=Nat.mod_lt n hD
 have hn:=Nat.div_add_mod n D
 generalize n / D=q at *
 generalize n % D=r at *
 by_cases h0:r=0
 ·subst h0
  have e0: -(n:Int)=(D:Int)*(-(q:Int)):=by rw[←hn];simp[Int.mul_neg]
  rw[e0,Int.mul_ediv_cancel_left _ (by omega)];simp
 ·have e0: -(n:Int)=((D - r:Nat):Int)+(D:Int)*(-(q:Int) - 1):=by
   rw[←hn,Int.mul_sub,Int.mul_neg];push_cast [Nat.le_of_lt hr];rw[Int.mul_one];omega
  rw[e0,Int.add_mul_ediv_left _ _ (by omega),Int.ediv_eq_zero_of_lt (by omega) (by omega),Int.zero_add,if_pos (by omega)];omega
def flr (a:Rat) (k:Nat):Int:=a.num*2^k / a.den
theorem flr_pos (a:Rat) (k:Nat) (h:¬a.num<0):flr a k=((a.num.natAbs*2^k / a.den:Nat):Int):=by
 unfold flr
 have e:a.num=(a.num.natAbs:Int):=by omega
 generalize a.num.natAbs=x at *
 rw[e];simp
theorem flr_neg (a:Rat) (k:Nat) (h:a.num<0):flr a k= -((a.num.natAbs*2^k / a.den+(if 0<a.num.natAbs*2^k % a.den then 1 else 0):Nat):Int):=by
 unfold flr
 have e:a.num= -(a.num.natAbs:Int):=by omega
 have hd:=Rat.den_pos a
 generalize a.num.natAbs=x at *
 rw[e,←floor_neg _ _ hd,Int.neg_mul];simp
def cel (a:Rat) (k:Nat):Int:= -flr (-a) k
def rndN (a:Rat) (k:Nat) (c:Bool):Nat:=a.num.natAbs*2^k / a.den+(if 0<a.num.natAbs*2^k % a.den∧c=true then 1 else 0)
theorem IsN.zeroL {w:World} {v:Value} {n:Nat} (h:IsN w v n) (h0:n=0):∃A C,v= .slice A 0 C:=by
 obtain⟨A,L,c,rfl,hL⟩:=h.open_
 subst h0
 exact⟨A,c,by rw[hL];rfl⟩
theorem rnd_cel (a:Rat) (k:Nat):cel a k=sided (decide (a.num<0)) (rndN a k (!decide (a.num<0))):=by
 unfold cel rndN
 by_cases h:a.num<0
 ·have h2:¬(-a).num<0:=by rw[Rat.neg_num];omega
  rw[flr_pos _ _ h2,Rat.neg_num,Rat.neg_den,Int.natAbs_neg,decide_eq_true h]
  simp[sided]
 ·rw[decide_eq_false h]
  by_cases h0:a.num=0
  ·have h2:¬(-a).num<0:=by rw[Rat.neg_num];omega
   rw[flr_pos _ _ h2,Rat.neg_num,h0]
   simp[sided]
  ·have h2:(-a).num<0:=by rw[Rat.neg_num];omega
   rw[flr_neg _ _ h2,Rat.neg_num,Rat.neg_den,Int.natAbs_neg]
   simp[sided]
theorem pceil1_any (u v x:Value) (X:Nat) (s:Bool) (pa qa:Value) (w:World) (hX:Blk w X 32 #[.bool s,pa,qa]):
 Calls Tryz.prog 129 #[u,v,x,.pointer (some ⟨X,0,none⟩)] w fun e w'=>e= .returned (.bool (!s))∧w=w':=by
 have c0:World.cell? w ⟨X,0,none⟩=some (.bool s):=hX.cell 0
 go_enter Tryz.func129,Tryz.ntmps129
 go_wp2
 go_ret
 exact⟨rfl,rfl⟩
theorem prounded_ceil (v:Value) (a:Rat) (k:Nat) (X:Nat) (w:World) (h:IsQ w v a) (hk:k≤2000) (sa:BQ a 10000) (hX:∃p q,Blk w X 32 #[.bool (decide (a.num<0)),p,q]):
 Calls Tryz.prog 128 #[v,.int .i64 k,.func (.func 129) #[] #[.pointer (some ⟨X,0,none⟩)]] w fun e w'=>∃v',e= .returned (.tuple #[v',.int .i64 0])∧IsZ w' v' (cel a k)∧Below w.heap.size w w':=by
 have hd:=Rat.den_pos a
 obtain⟨px,qx,hX⟩:=hX
 obtain⟨s,A,L,C,D,M,E,rfl,hq⟩:=h.opn
 obtain⟨es,hz,hn⟩:=hq.parts
 obtain⟨-,hp⟩:=hz.parts
 rw[←es] at hX
 have hS:=fun w h=>dshl_any (.slice A L C) a.num.natAbs k (by omega) w h (sa.1.fin (by omega))
 have s2:Sz (a.num.natAbs*2^k) 20000:=(sa.1.mul (Sz.two_pow k)).more (by omega)
 have hD:=fun u w hu hv=>ddivmod_any u (.slice D M E) (a.num.natAbs*2^k) a.den w hu hv (s2.more (by omega)) (sa.2.more (by omega)) hd
 have s3:Sz (a.num.natAbs*2^k / a.den) 20000:=s2.le (Nat.div_le_self _ _)
 have hO:=fun w=>of_any 1 (by unfold W64;omega) w
 have hA:=fun u v w hu hv=>add_any u v (a.num.natAbs*2^k / a.den) 1 w hu hv (s3.fin (by omega)) (Sz.one.fin (by omega))
 have hC:=fun u v x w h=>pceil1_any u v x X s px qx w h
 have hv:cel a k=sided s (rndN a k (!s)):=by rw[es];exact rnd_cel a k
 have hr:rndN a k (!s)=a.num.natAbs*2^k / a.den+(if 0<a.num.natAbs*2^k % a.den∧(!s)=true then 1 else 0):=rfl
 rw[hr] at hv
 generalize cel a k=z at *
 generalize a.num.natAbs*2^k / a.den=n at *
 generalize a.num.natAbs*2^k % a.den=r at *
 generalize a.num.natAbs*2^k=m at *
 generalize a.num.natAbs=x at *
 generalize a.den=d at *
 have hd0:decide ((k:Int)<0)=false:=decide_eq_false (by omega)
 have hd1:¬(2000:Int)<(k:Int):=by omega
 clear s2 s3 sa hd hz es hr hq
 rcases s with _ | _
 ·-- s = False
  rcases Nat.eq_zero_or_pos r with hr0 | hr0
  ·have HR:=Lib.hid hr0
   rw[if_neg (by omega),Nat.add_zero] at hv
   have HZ:Hid (decide (z<0)=false∧z.natAbs=n):=by rw[Hid,hv];simp[sided]
   clear hr0 hv
   obtain⟨Y0,eY0,hT,bY0⟩:=box1 w 32 #[.bool false,.slice A L C,.slice D M E]
   obtain⟨Y1,eY1,hR,bY1⟩:=box1 Y0 30 #[.bool false,.slice none 0 0]
   obtain⟨g,hg⟩:∃g,g=w.heap.size:=⟨_,rfl⟩
   have zY0:Y0.heap.size=g+1:=by rw[eY0,World.size_alloc,←hg]
   rw[←hg] at hT
   rw[zY0] at hR
   replace hT:=hT.b bY1
   replace hX:=(hX.below bY0 hX.lt).below bY1 (by have:=hX.lt;have:=bY0.size;omega)
   replace hp:=(hp.below bY0).below bY1
   replace hn:=(hn.below bY0).below bY1
   have hB:=bY0.trans (bY1.mono bY0.size)
   have hgw:w.heap.size≤g:=by omega
   have EY:=Lib.hid (And.intro hg (And.intro eY0 eY1))
   clear hg eY0 eY1 zY0
   obtain⟨c0,c1,c2⟩:=hX.q3
   obtain⟨c3,c4,c5⟩:=hT.q3
   obtain⟨c6,c7⟩:=hR.q2
   go_enter Tryz.func128,Tryz.ntmps128
   go_wp2_with fail
   rw[←EY.out.2.1,←EY.out.2.2,←EY.out.1]
   refine (hS _ hp).mono ?_
   rintro e w2 ⟨v1,rfl,h1,b2⟩
   replace hp:=hp.b b2
   replace hn:=hn.b b2
   replace hX:=hX.b b2
   replace hT:=hT.b b2
   replace hR:=hR.b b2
   replace hB:=bOn hB b2
   clear c0 c1 c2 c3 c4 c5 c6 c7
   obtain⟨c8,c9,c10⟩:=hX.q3
   obtain⟨c11,c12,c13⟩:=hT.q3
   obtain⟨c14,c15⟩:=hR.q2
   go_wp2_with fail
   refine (hD _ _ h1 hn).mono ?_
   rintro e w4 ⟨v2,v3,rfl,h2,h3,b4⟩
   replace hn:=hn.b b4
   replace hX:=hX.b b4
   replace hT:=hT.b b4
   replace hR:=hR.b b4
   replace h1:=h1.b b4
   replace hB:=bOn hB b4
   clear c8 c9 c10 c11 c12 c13 c14 c15
   obtain⟨c16,c17,c18⟩:=hX.q3
   obtain⟨c19,c20,c21⟩:=hT.q3
   obtain⟨c22,c23⟩:=hR.q2
   obtain⟨A2,L2,C2,rfl,h2⟩:=h2.opn
   obtain⟨A3,C3,rfl⟩:=h3.zeroL HR.out
   clear h3
   obtain⟨p1,p2,p3⟩:=put2 hR (.bool false) (.slice A2 L2 C2) (by simp[noU]) hB (by omega)
   have rc0:World.cell? _ ⟨g+1,0,none⟩=some (.bool false):=hR.cell 0
   have rf0:=hR.frozen 0
   have rc1:World.cell? _ ⟨g+1,1,none⟩=some (.slice none 0 0):=hR.cell 1
   have rf1:=hR.frozen 1
   have P:=Lib.hid (And.intro (show IsZ _ (.agg #[.bool false,.slice A2 L2 C2]) z from ⟨_,by rw[show decide (z<0)=false from HZ.out.1],by rw[HZ.out.2];exact p2 _ _ h2⟩) (And.intro p3 p1.cells2))
   clear p1 p2 p3
   go_wp2_with fail
   obtain⟨P1,P2,P3,P4⟩:=P.out
   exact bodyPost_ret (v:= .tuple #[.agg #[.bool false,.slice A2 L2 C2],.int .i64 0]) (by simp[results,Tryz.results128,go_sem,P3,P4]) rfl ⟨_,rfl,P1,P2⟩
  ·have HR:=Lib.hid hr0
   rw[if_pos ⟨hr0,rfl⟩] at hv
   have HZ:Hid (decide (z<0)=false∧z.natAbs=n+1):=by rw[Hid,hv];simp[sided];omega
   clear hr0 hv
   obtain⟨Y0,eY0,hT,bY0⟩:=box1 w 32 #[.bool false,.slice A L C,.slice D M E]
   obtain⟨Y1,eY1,hR,bY1⟩:=box1 Y0 30 #[.bool false,.slice none 0 0]
   obtain⟨g,hg⟩:∃g,g=w.heap.size:=⟨_,rfl⟩
   have zY0:Y0.heap.size=g+1:=by rw[eY0,World.size_alloc,←hg]
   rw[←hg] at hT
   rw[zY0] at hR
   replace hT:=hT.b bY1
   replace hX:=(hX.below bY0 hX.lt).below bY1 (by have:=hX.lt;have:=bY0.size;omega)
   replace hp:=(hp.below bY0).below bY1
   replace hn:=(hn.below bY0).below bY1
   have hB:=bY0.trans (bY1.mono bY0.size)
   have hgw:w.heap.size≤g:=by omega
   have EY:=Lib.hid (And.intro hg (And.intro eY0 eY1))
   clear hg eY0 eY1 zY0
   obtain⟨c0,c1,c2⟩:=hX.q3
   obtain⟨c3,c4,c5⟩:=hT.q3
   obtain⟨c6,c7⟩:=hR.q2
   go_enter Tryz.func128,Tryz.ntmps128
   go_wp2_with fail
   rw[←EY.out.2.1,←EY.out.2.2,←EY.out.1]
   refine (hS _ hp).mono ?_
   rintro e w2 ⟨v1,rfl,h1,b2⟩
   replace hp:=hp.b b2
   replace hn:=hn.b b2
   replace hX:=hX.b b2
   replace hT:=hT.b b2
   replace hR:=hR.b b2
   replace hB:=bOn hB b2
   clear c0 c1 c2 c3 c4 c5 c6 c7
   obtain⟨c8,c9,c10⟩:=hX.q3
   obtain⟨c11,c12,c13⟩:=hT.q3
   obtain⟨c14,c15⟩:=hR.q2
   go_wp2_with fail
   refine (hD _ _ h1 hn).mono ?_
   rintro e w4 ⟨v2,v3,rfl,h2,h3,b4⟩
   replace hn:=hn.b b4
   replace hX:=hX.b b4
   replace hT:=hT.b b4
   replace hR:=hR.b b4
   replace h1:=h1.b b4
   replace hB:=bOn hB b4
   clear c8 c9 c10 c11 c12 c13 c14 c15
   obtain⟨c16,c17,c18⟩:=hX.q3
   obtain⟨c19,c20,c21⟩:=hT.q3
   obtain⟨c22,c23⟩:=hR.q2
   obtain⟨A2,L2,C2,rfl,h2⟩:=h2.opn
   obtain⟨A3,L3,C3,rfl,hL3⟩:=h3.pos HR.out
   have hL3i:(0:Int)<(L3:Int):=by omega
   clear h3
   go_wp2_with fail
   refine (hC _ _ _ _ hX).mono ?_
   rintro e w6 ⟨rfl,rfl⟩
   go_wp2_with fail
   refine (hO _).mono ?_
   rintro e w7 ⟨v4,rfl,h4,b7⟩
   replace hX:=hX.b b7
   replace hT:=hT.b b7
   replace hR:=hR.b b7
   replace h2:=h2.b b7
   replace hB:=bOn hB b7
   clear c16 c17 c18 c19 c20 c21 c22 c23
   obtain⟨c24,c25,c26⟩:=hX.q3
   obtain⟨c27,c28,c29⟩:=hT.q3
   obtain⟨c30,c31⟩:=hR.q2
   go_wp2_with fail
   refine (hA _ _ _ h2 h4).mono ?_
   rintro e w9 ⟨v5,rfl,h5,b9⟩
   replace hX:=hX.b b9
   replace hT:=hT.b b9
   replace hR:=hR.b b9
   replace h2:=h2.b b9
   replace h4:=h4.b b9
   replace hB:=bOn hB b9
   clear c24 c25 c26 c27 c28 c29 c30 c31
   obtain⟨c32,c33,c34⟩:=hX.q3
   obtain⟨c35,c36,c37⟩:=hT.q3
   obtain⟨c38,c39⟩:=hR.q2
   obtain⟨A6,L6,C6,rfl,h5⟩:=h5.opn
   obtain⟨p1,p2,p3⟩:=put2 hR (.bool false) (.slice A6 L6 C6) (by simp[noU]) hB (by omega)
   have rc0:World.cell? _ ⟨g+1,0,none⟩=some (.bool false):=hR.cell 0
   have rf0:=hR.frozen 0
   have rc1:World.cell? _ ⟨g+1,1,none⟩=some (.slice none 0 0):=hR.cell 1
   have rf1:=hR.frozen 1
   have P:=Lib.hid (And.intro (show IsZ _ (.agg #[.bool false,.slice A6 L6 C6]) z from ⟨_,by rw[show decide (z<0)=false from HZ.out.1],by rw[HZ.out.2];exact p2 _ _ h5⟩) (And.intro p3 p1.cells2))
   clear p1 p2 p3
   go_wp2_with fail
   obtain⟨P1,P2,P3,P4⟩:=P.out
   exact bodyPost_ret (v:= .tuple #[.agg #[.bool false,.slice A6 L6 C6],.int .i64 0]) (by simp[results,Tryz.results128,go_sem,P3,P4]) rfl ⟨_,rfl,P1,P2⟩
 ·-- s = True
  rcases Nat.eq_zero_or_pos r with hr0 | hr0
  ·have HR:=Lib.hid hr0
   rw[if_neg (by omega),Nat.add_zero] at hv
   rcases Nat.eq_zero_or_pos n with hn0 | hn0
   ·have HQ:=Lib.hid hn0
    have HZ:Hid (decide (z<0)=false∧z.natAbs=n):=by rw[Hid,hv,hn0];simp[sided]
    clear hr0 hv hn0
    obtain⟨Y0,eY0,hT,bY0⟩:=box1 w 32 #[.bool true,.slice A L C,.slice D M E]
    obtain⟨Y1,eY1,hR,bY1⟩:=box1 Y0 30 #[.bool false,.slice none 0 0]
    obtain⟨g,hg⟩:∃g,g=w.heap.size:=⟨_,rfl⟩
    have zY0:Y0.heap.size=g+1:=by rw[eY0,World.size_alloc,←hg]
    rw[←hg] at hT
    rw[zY0] at hR
    replace hT:=hT.b bY1
    replace hX:=(hX.below bY0 hX.lt).below bY1 (by have:=hX.lt;have:=bY0.size;omega)
    replace hp:=(hp.below bY0).below bY1
    replace hn:=(hn.below bY0).below bY1
    have hB:=bY0.trans (bY1.mono bY0.size)
    have hgw:w.heap.size≤g:=by omega
    have EY:=Lib.hid (And.intro hg (And.intro eY0 eY1))
    clear hg eY0 eY1 zY0
    obtain⟨c0,c1,c2⟩:=hX.q3
    obtain⟨c3,c4,c5⟩:=hT.q3
    obtain⟨c6,c7⟩:=hR.q2
    go_enter Tryz.func128,Tryz.ntmps128
    go_wp2_with fail
    rw[←EY.out.2.1,←EY.out.2.2,←EY.out.1]
    refine (hS _ hp).mono ?_
    rintro e w2 ⟨v1,rfl,h1,b2⟩
    replace hp:=hp.b b2
    replace hn:=hn.b b2
    replace hX:=hX.b b2
    replace hT:=hT.b b2
    replace hR:=hR.b b2
    replace hB:=bOn hB b2
    clear c0 c1 c2 c3 c4 c5 c6 c7
    obtain⟨c8,c9,c10⟩:=hX.q3
    obtain⟨c11,c12,c13⟩:=hT.q3
    obtain⟨c14,c15⟩:=hR.q2
    go_wp2_with fail
    refine (hD _ _ h1 hn).mono ?_
    rintro e w4 ⟨v2,v3,rfl,h2,h3,b4⟩
    replace hn:=hn.b b4
    replace hX:=hX.b b4
    replace hT:=hT.b b4
    replace hR:=hR.b b4
    replace h1:=h1.b b4
    replace hB:=bOn hB b4
    clear c8 c9 c10 c11 c12 c13 c14 c15
    obtain⟨c16,c17,c18⟩:=hX.q3
    obtain⟨c19,c20,c21⟩:=hT.q3
    obtain⟨c22,c23⟩:=hR.q2
    obtain⟨A2,L2,C2,rfl,h2⟩:=h2.opn
    obtain⟨A3,C3,rfl⟩:=h3.zeroL HR.out
    clear h3
    obtain⟨A6,C6,e6⟩:=h2.zeroL HQ.out
    obtain⟨rfl,rfl,rfl⟩:=Value.slice.inj e6
    clear e6
    obtain⟨p1,p2,p3⟩:=put2 hR (.bool false) (.slice A2 0 C2) (by simp[noU]) hB (by omega)
    have rc0:World.cell? _ ⟨g+1,0,none⟩=some (.bool false):=hR.cell 0
    have rf0:=hR.frozen 0
    have rc1:World.cell? _ ⟨g+1,1,none⟩=some (.slice none 0 0):=hR.cell 1
    have rf1:=hR.frozen 1
    have P:=Lib.hid (And.intro (show IsZ _ (.agg #[.bool false,.slice A2 0 C2]) z from ⟨_,by rw[show decide (z<0)=false from HZ.out.1],by rw[HZ.out.2];exact p2 _ _ h2⟩) (And.intro p3 p1.cells2))
    clear p1 p2 p3
    go_wp2_with fail
    obtain⟨P1,P2,P3,P4⟩:=P.out
    exact bodyPost_ret (v:= .tuple #[.agg #[.bool false,.slice A2 0 C2],.int .i64 0]) (by simp[results,Tryz.results128,go_sem,P3,P4]) rfl ⟨_,rfl,P1,P2⟩
   ·have HQ:=Lib.hid hn0
    have HZ:Hid (decide (z<0)=true∧z.natAbs=n):=by rw[Hid,hv];simp[sided];omega
    clear hr0 hv hn0
    obtain⟨Y0,eY0,hT,bY0⟩:=box1 w 32 #[.bool true,.slice A L C,.slice D M E]
    obtain⟨Y1,eY1,hR,bY1⟩:=box1 Y0 30 #[.bool false,.slice none 0 0]
    obtain⟨g,hg⟩:∃g,g=w.heap.size:=⟨_,rfl⟩
    have zY0:Y0.heap.size=g+1:=by rw[eY0,World.size_alloc,←hg]
    rw[←hg] at hT
    rw[zY0] at hR
    replace hT:=hT.b bY1
    replace hX:=(hX.below bY0 hX.lt).below bY1 (by have:=hX.lt;have:=bY0.size;omega)
    replace hp:=(hp.below bY0).below bY1
    replace hn:=(hn.below bY0).below bY1
    have hB:=bY0.trans (bY1.mono bY0.size)
    have hgw:w.heap.size≤g:=by omega
    have EY:=Lib.hid (And.intro hg (And.intro eY0 eY1))
    clear hg eY0 eY1 zY0
    obtain⟨c0,c1,c2⟩:=hX.q3
    obtain⟨c3,c4,c5⟩:=hT.q3
    obtain⟨c6,c7⟩:=hR.q2
    go_enter Tryz.func128,Tryz.ntmps128
    go_wp2_with fail
    rw[←EY.out.2.1,←EY.out.2.2,←EY.out.1]
    refine (hS _ hp).mono ?_
    rintro e w2 ⟨v1,rfl,h1,b2⟩
    replace hp:=hp.b b2
    replace hn:=hn.b b2
    replace hX:=hX.b b2
    replace hT:=hT.b b2
    replace hR:=hR.b b2
    replace hB:=bOn hB b2
    clear c0 c1 c2 c3 c4 c5 c6 c7
    obtain⟨c8,c9,c10⟩:=hX.q3
    obtain⟨c11,c12,c13⟩:=hT.q3
    obtain⟨c14,c15⟩:=hR.q2
    go_wp2_with fail
    refine (hD _ _ h1 hn).mono ?_
    rintro e w4 ⟨v2,v3,rfl,h2,h3,b4⟩
    replace hn:=hn.b b4
    replace hX:=hX.b b4
    replace hT:=hT.b b4
    replace hR:=hR.b b4
    replace h1:=h1.b b4
    replace hB:=bOn hB b4
    clear c8 c9 c10 c11 c12 c13 c14 c15
    obtain⟨c16,c17,c18⟩:=hX.q3
    obtain⟨c19,c20,c21⟩:=hT.q3
    obtain⟨c22,c23⟩:=hR.q2
    obtain⟨A2,L2,C2,rfl,h2⟩:=h2.opn
    obtain⟨A3,C3,rfl⟩:=h3.zeroL HR.out
    clear h3
    obtain⟨A6,L6,C6,e6,hL6⟩:=h2.pos HQ.out
    obtain⟨rfl,rfl,rfl⟩:=Value.slice.inj e6
    clear e6
    have hL6i:(0:Int)<(L2:Int):=by omega
    skip
    obtain⟨p1,p2,p3⟩:=put2 hR (.bool true) (.slice A2 L2 C2) (by simp[noU]) hB (by omega)
    have rc0:World.cell? _ ⟨g+1,0,none⟩=some (.bool false):=hR.cell 0
    have rf0:=hR.frozen 0
    have rc1:World.cell? _ ⟨g+1,1,none⟩=some (.slice none 0 0):=hR.cell 1
    have rf1:=hR.frozen 1
    have P:=Lib.hid (And.intro (show IsZ _ (.agg #[.bool true,.slice A2 L2 C2]) z from ⟨_,by rw[show decide (z<0)=true from HZ.out.1],by rw[HZ.out.2];exact p2 _ _ h2⟩) (And.intro p3 p1.cells2))
    clear p1 p2 p3
    go_wp2_with fail
    obtain⟨P1,P2,P3,P4⟩:=P.out
    exact bodyPost_ret (v:= .tuple #[.agg #[.bool true,.slice A2 L2 C2],.int .i64 0]) (by simp[results,Tryz.results128,go_sem,P3,P4]) rfl ⟨_,rfl,P1,P2⟩
  ·have HR:=Lib.hid hr0
   rw[if_neg (by simp),Nat.add_zero] at hv
   rcases Nat.eq_zero_or_pos n with hn0 | hn0
   ·have HQ:=Lib.hid hn0
    have HZ:Hid (decide (z<0)=false∧z.natAbs=n):=by rw[Hid,hv,hn0];simp[sided]
    clear hr0 hv hn0
    obtain⟨Y0,eY0,hT,bY0⟩:=box1 w 32 #[.bool true,.slice A L C,.slice D M E]
    obtain⟨Y1,eY1,hR,bY1⟩:=box1 Y0 30 #[.bool false,.slice none 0 0]
    obtain⟨g,hg⟩:∃g,g=w.heap.size:=⟨_,rfl⟩
    have zY0:Y0.heap.size=g+1:=by rw[eY0,World.size_alloc,←hg]
    rw[←hg] at hT
    rw[zY0] at hR
    replace hT:=hT.b bY1
    replace hX:=(hX.below bY0 hX.lt).below bY1 (by have:=hX.lt;have:=bY0.size;omega)
    replace hp:=(hp.below bY0).below bY1
    replace hn:=(hn.below bY0).below bY1
    have hB:=bY0.trans (bY1.mono bY0.size)
    have hgw:w.heap.size≤g:=by omega
    have EY:=Lib.hid (And.intro hg (And.intro eY0 eY1))
    clear hg eY0 eY1 zY0
    obtain⟨c0,c1,c2⟩:=hX.q3
    obtain⟨c3,c4,c5⟩:=hT.q3
    obtain⟨c6,c7⟩:=hR.q2
    go_enter Tryz.func128,Tryz.ntmps128
    go_wp2_with fail
    rw[←EY.out.2.1,←EY.out.2.2,←EY.out.1]
    refine (hS _ hp).mono ?_
    rintro e w2 ⟨v1,rfl,h1,b2⟩
    replace hp:=hp.b b2
    replace hn:=hn.b b2
    replace hX:=hX.b b2
    replace hT:=hT.b b2
    replace hR:=hR.b b2
    replace hB:=bOn hB b2
    clear c0 c1 c2 c3 c4 c5 c6 c7
    obtain⟨c8,c9,c10⟩:=hX.q3
    obtain⟨c11,c12,c13⟩:=hT.q3
    obtain⟨c14,c15⟩:=hR.q2
    go_wp2_with fail
    refine (hD _ _ h1 hn).mono ?_
    rintro e w4 ⟨v2,v3,rfl,h2,h3,b4⟩
    replace hn:=hn.b b4
    replace hX:=hX.b b4
    replace hT:=hT.b b4
    replace hR:=hR.b b4
    replace h1:=h1.b b4
    replace hB:=bOn hB b4
    clear c8 c9 c10 c11 c12 c13 c14 c15
    obtain⟨c16,c17,c18⟩:=hX.q3
    obtain⟨c19,c20,c21⟩:=hT.q3
    obtain⟨c22,c23⟩:=hR.q2
    obtain⟨A2,L2,C2,rfl,h2⟩:=h2.opn
    obtain⟨A3,L3,C3,rfl,hL3⟩:=h3.pos HR.out
    have hL3i:(0:Int)<(L3:Int):=by omega
    clear h3
    go_wp2_with fail
    refine (hC _ _ _ _ hX).mono ?_
    rintro e w6 ⟨rfl,rfl⟩
    obtain⟨A6,C6,e6⟩:=h2.zeroL HQ.out
    obtain⟨rfl,rfl,rfl⟩:=Value.slice.inj e6
    clear e6
    obtain⟨p1,p2,p3⟩:=put2 hR (.bool false) (.slice A2 0 C2) (by simp[noU]) hB (by omega)
    have rc0:World.cell? _ ⟨g+1,0,none⟩=some (.bool false):=hR.cell 0
    have rf0:=hR.frozen 0
    have rc1:World.cell? _ ⟨g+1,1,none⟩=some (.slice none 0 0):=hR.cell 1
    have rf1:=hR.frozen 1
    have P:=Lib.hid (And.intro (show IsZ _ (.agg #[.bool false,.slice A2 0 C2]) z from ⟨_,by rw[show decide (z<0)=false from HZ.out.1],by rw[HZ.out.2];exact p2 _ _ h2⟩) (And.intro p3 p1.cells2))
    clear p1 p2 p3
    go_wp2_with fail
    obtain⟨P1,P2,P3,P4⟩:=P.out
    exact bodyPost_ret (v:= .tuple #[.agg #[.bool false,.slice A2 0 C2],.int .i64 0]) (by simp[results,Tryz.results128,go_sem,P3,P4]) rfl ⟨_,rfl,P1,P2⟩
   ·have HQ:=Lib.hid hn0
    have HZ:Hid (decide (z<0)=true∧z.natAbs=n):=by rw[Hid,hv];simp[sided];omega
    clear hr0 hv hn0
    obtain⟨Y0,eY0,hT,bY0⟩:=box1 w 32 #[.bool true,.slice A L C,.slice D M E]
    obtain⟨Y1,eY1,hR,bY1⟩:=box1 Y0 30 #[.bool false,.slice none 0 0]
    obtain⟨g,hg⟩:∃g,g=w.heap.size:=⟨_,rfl⟩
    have zY0:Y0.heap.size=g+1:=by rw[eY0,World.size_alloc,←hg]
    rw[←hg] at hT
    rw[zY0] at hR
    replace hT:=hT.b bY1
    replace hX:=(hX.below bY0 hX.lt).below bY1 (by have:=hX.lt;have:=bY0.size;omega)
    replace hp:=(hp.below bY0).below bY1
    replace hn:=(hn.below bY0).below bY1
    have hB:=bY0.trans (bY1.mono bY0.size)
    have hgw:w.heap.size≤g:=by omega
    have EY:=Lib.hid (And.intro hg (And.intro eY0 eY1))
    clear hg eY0 eY1 zY0
    obtain⟨c0,c1,c2⟩:=hX.q3
    obtain⟨c3,c4,c5⟩:=hT.q3
    obtain⟨c6,c7⟩:=hR.q2
    go_enter Tryz.func128,Tryz.ntmps128
    go_wp2_with fail
    rw[←EY.out.2.1,←EY.out.2.2,←EY.out.1]
    refine (hS _ hp).mono ?_
    rintro e w2 ⟨v1,rfl,h1,b2⟩
    replace hp:=hp.b b2
    replace hn:=hn.b b2
    replace hX:=hX.b b2
    replace hT:=hT.b b2
    replace hR:=hR.b b2
    replace hB:=bOn hB b2
    clear c0 c1 c2 c3 c4 c5 c6 c7
    obtain⟨c8,c9,c10⟩:=hX.q3
    obtain⟨c11,c12,c13⟩:=hT.q3
    obtain⟨c14,c15⟩:=hR.q2
    go_wp2_with fail
    refine (hD _ _ h1 hn).mono ?_
    rintro e w4 ⟨v2,v3,rfl,h2,h3,b4⟩
    replace hn:=hn.b b4
    replace hX:=hX.b b4
    replace hT:=hT.b b4
    replace hR:=hR.b b4
    replace h1:=h1.b b4
    replace hB:=bOn hB b4
    clear c8 c9 c10 c11 c12 c13 c14 c15
    obtain⟨c16,c17,c18⟩:=hX.q3
    obtain⟨c19,c20,c21⟩:=hT.q3
    obtain⟨c22,c23⟩:=hR.q2
    obtain⟨A2,L2,C2,rfl,h2⟩:=h2.opn
    obtain⟨A3,L3,C3,rfl,hL3⟩:=h3.pos HR.out
    have hL3i:(0:Int)<(L3:Int):=by omega
    clear h3
    go_wp2_with fail
    refine (hC _ _ _ _ hX).mono ?_
    rintro e w6 ⟨rfl,rfl⟩
    obtain⟨A6,L6,C6,e6,hL6⟩:=h2.pos HQ.out
    obtain⟨rfl,rfl,rfl⟩:=Value.slice.inj e6
    clear e6
    have hL6i:(0:Int)<(L2:Int):=by omega
    skip
    obtain⟨p1,p2,p3⟩:=put2 hR (.bool true) (.slice A2 L2 C2) (by simp[noU]) hB (by omega)
    have rc0:World.cell? _ ⟨g+1,0,none⟩=some (.bool false):=hR.cell 0
    have rf0:=hR.frozen 0
    have rc1:World.cell? _ ⟨g+1,1,none⟩=some (.slice none 0 0):=hR.cell 1
    have rf1:=hR.frozen 1
    have P:=Lib.hid (And.intro (show IsZ _ (.agg #[.bool true,.slice A2 L2 C2]) z from ⟨_,by rw[show decide (z<0)=true from HZ.out.1],by rw[HZ.out.2];exact p2 _ _ h2⟩) (And.intro p3 p1.cells2))
    clear p1 p2 p3
    go_wp2_with fail
    obtain⟨P1,P2,P3,P4⟩:=P.out
    exact bodyPost_ret (v:= .tuple #[.agg #[.bool true,.slice A2 L2 C2],.int .i64 0]) (by simp[results,Tryz.results128,go_sem,P3,P4]) rfl ⟨_,rfl,P1,P2⟩
theorem pceil_any (v:Value) (a:Rat) (k:Nat) (w:World) (h:IsQ w v a) (hk:k≤2000) (sa:BQ a 10000):
 Calls Tryz.prog 64 #[v,.int .i64 k] w fun e w'=>∃v',e= .returned (.tuple #[v',.int .i64 0])∧IsZ w' v' (cel a k)∧Below w.heap.size w w':=by
 have hK:=fun X v w h hX=>prounded_ceil v a k X w h hk sa hX
 generalize cel a k=z at *
 obtain⟨s,A,L,C,D,M,E,rfl,hq⟩:=h.opn
 have es:=hq.parts.1
 rw[←es] at hK
 clear es h sa
 obtain⟨g,hg⟩:∃g,g=w.heap.size:=⟨_,rfl⟩
 obtain⟨Y0,eY0,hT,bY0⟩:=box1 w 32 #[.bool s,.slice A L C,.slice D M E]
 have zY0:Y0.heap.size=g+1:=by rw[eY0,World.size_alloc,←hg]
 rw[←hg] at hT
 replace hq:=hq.b bY0
 have hB:=bY0
 obtain⟨Y1,eY1,hR,bY1⟩:=box1 Y0 30 #[.bool false,.slice none 0 0]
 have zY1:Y1.heap.size=g+1+1:=by rw[eY1,World.size_alloc,zY0]
 rw[zY0] at hR
 replace hT:=hT.b bY1
 replace hq:=hq.b bY1
 replace hB:=bOn hB bY1
 have hgw:w.heap.size≤g:=by omega
 have EY:=Lib.hid (And.intro hg (And.intro eY0 eY1))
 clear hg eY0 zY0 eY1 zY1
 obtain⟨c0,c1,c2⟩:=hT.q3
 obtain⟨c3,c4⟩:=hR.q2
 go_enter Tryz.func64,Tryz.ntmps64
 go_wp2_with fail
 rw[←EY.out.2.1,←EY.out.2.2,←EY.out.1]
 refine (hK _ _ _ hq ⟨_,_,hT⟩).mono ?_
 rintro e w2 ⟨v1,rfl,h1,b2⟩
 replace hq:=hq.b b2
 replace hT:=hT.b b2
 replace hR:=hR.b b2
 replace hB:=bOn hB b2
 clear c0 c1 c2 c3 c4
 obtain⟨c5,c6,c7⟩:=hT.q3
 obtain⟨c8,c9⟩:=hR.q2
 obtain⟨s1,A1,L1,C1,rfl,h1⟩:=h1.opn
 obtain⟨p1,p2,p3⟩:=put2 hR (.bool s1) (.slice A1 L1 C1) (by simp[noU]) hB (by omega)
 have rc0:World.cell? _ ⟨g+1,0,none⟩=some (.bool false):=hR.cell 0
 have rf0:=hR.frozen 0
 have rc1:World.cell? _ ⟨g+1,1,none⟩=some (.slice none 0 0):=hR.cell 1
 have rf1:=hR.frozen 1
 have P:=Lib.hid (And.intro (h1.kept p2) (And.intro p3 p1.cells2))
 clear p1 p2 p3
 go_wp2_with fail
 obtain⟨P1,P2,P3,P4⟩:=P.out
 exact bodyPost_ret (v:= .tuple #[.agg #[.bool s1,.slice A1 L1 C1],.int .i64 0]) (by simp[results,Tryz.results64,go_sem,P3,P4]) rfl ⟨_,rfl,P1,P2⟩
end Go.Proofs.YtdnjdglekifhpaaGreat
namespace Go.Proofs.YtdnjdglekifhpaaGreat
def In64 (a:Int):Prop:= -9223372036854775808≤a∧a≤9223372036854775807
open Go.RowKit
attribute [local go_sem ↓] Go.wp_at_zero Go.wp_at_succ
theorem pmul_any (va vb:Value) (a b:Rat) (w:World) (ha:IsQ w va a) (hb:IsQ w vb b) (sa:BQ a 10000) (sb:BQ b 10000):
 Calls Tryz.prog 56 #[va,vb] w fun e w'=>∃v',e= .returned v'∧IsQ w' v' (a*b)∧Below w.heap.size w w':=by
 have hda:0<a.den:=Rat.den_pos a
 have hdb:0<b.den:=Rat.den_pos b
 obtain⟨pa,qa,rfl,hpa,hqa⟩:=ha
 have hza:IsZ w (.agg #[.bool (decide (a.num<0)),pa]) a.num:=⟨_,rfl,hpa⟩
 obtain⟨pb,qb,rfl,hpb,hqb⟩:=hb
 have hzb:IsZ w (.agg #[.bool (decide (b.num<0)),pb]) b.num:=⟨_,rfl,hpb⟩
 have hA:=fun w hu hv=>pzmul_any (.agg #[.bool (decide (a.num<0)),pa]) (.agg #[.bool (decide (b.num<0)),pb]) a.num b.num w hu hv (sa.1.more (by omega)) (sb.1.more (by omega))
 have hM:=fun w hu hv=>mul_any qa qb a.den b.den w hu hv (sa.2.fin (by omega)) (sb.2.fin (by omega))
 have hK:=fun u v w hu hv=>prmake_any u v (a.num*b.num) (a.den*b.den) w hu hv ((sa.1.imul sb.1).more (by omega)) ((sa.2.mul sb.2).more (by omega)) (Nat.mul_pos hda hdb)
 rw[←Rat.mul_def'] at hK
 obtain⟨r,hr⟩:∃r,r=a*b:=⟨_,rfl⟩
 rw[←hr] at hK ⊢
 clear hr
 generalize a.num*b.num=m3 at *
 generalize a.den*b.den=d at *
 generalize a.num=na at *
 generalize b.num=nb at *
 generalize a.den=da at *
 generalize b.den=db at *
 clear hpa hpb sa sb hda hdb
 generalize decide (na<0)=sa at *
 generalize decide (nb<0)=sb at *
 obtain⟨W0,hW,hT,hR,hB⟩:=box3 w 32 32 32 #[.bool sa,pa,qa] #[.bool sb,pb,qb] #[.bool false,.slice none 0 0,.slice none 0 0]
 obtain⟨g,hg⟩:∃g,g=w.heap.size:=⟨_,rfl⟩
 have hW':=Lib.hid (And.intro hW hg)
 rw[←hg] at hT hR
 clear hW hg
 have hza:=hza.below hB
 have hzb:=hzb.below hB
 have hqa:=hqa.below hB
 have hqb:=hqb.below hB
 have hgw:w.heap.size≤g:=by rw[hW'.out.2];omega
 go_enter Tryz.func56,Tryz.ntmps56
 go_upto_region 1 with fail
 rw[←hW'.out.1,←hW'.out.2]
 go_cut [5] (fun s wx=>∃(X:Nat) (A1 A2:Option Addr) (L1 L2 C1 C2:Nat),s= .pointer (some ⟨X,0,none⟩)∧Blk wx X 32 #[.bool (decide (r.num<0)),.slice A1 L1 C1,.slice A2 L2 C2]∧IsN wx (.slice A1 L1 C1) r.num.natAbs∧IsN wx (.slice A2 L2 C2) r.den∧Blk wx (g+1+1) 32 #[.bool false,.slice none 0 0,.slice none 0 0]∧Below w.heap.size w wx)
 case first=>
  go_region_held3 (fun w'=>w'.cell? ⟨g,0,none⟩=some (.bool sa)∧w'.cell? ⟨g,1,none⟩=some pa∧w'.cell? ⟨g,2,none⟩=some qa∧w'.cell? ⟨g+1,0,none⟩=some (.bool sb)∧w'.cell? ⟨g+1,1,none⟩=some pb∧w'.cell? ⟨g+1,2,none⟩=some qb) (first | exact Two.cells33 (hT.below (by first | assumption | exact balloc (by assumption) _ | exact bdrew _ | exact balloc (bdrew _) _) hT.lt) | exact Two.cells33 (hT.below (bset (bset (bset (by assumption) (by assumption) _) (by assumption) _) (by assumption) _) hT.lt))
   (first
    | (go_at_call 121;(with_reducible refine (hA _ ?_ ?_).mono ?_);exact hza.below (by first | assumption | exact balloc (by assumption) _ | exact bdrew _ | exact balloc (bdrew _) _);exact hzb.below (by first | assumption | exact balloc (by assumption) _ | exact bdrew _ | exact balloc (bdrew _) _);rintro x w3 ⟨v3,rfl,h3,b3⟩;(first | ((first | have hXX:=newX b3 W0 (by first | assumption | exact bdrew _) | have hXX:=newX (undrew b3) W0 (by first | exact Below.refl _ _ | assumption));obtain⟨hX,sX⟩:=hXX;try simp only[World.size_drew] at hX sX) | (have hX:=hX.below b3 hX.lt) | skip);have B3:=bstep (a:=W0) (by first | assumption | exact balloc (by assumption) _ | exact bdrew _ | exact balloc (bdrew _) _) b3)
    | (go_at_call 122;(with_reducible refine (hM _ ?_ ?_).mono ?_);exact hqa.below (by first | assumption | exact balloc (by assumption) _ | exact bdrew _ | exact balloc (bdrew _) _);exact hqb.below (by first | assumption | exact balloc (by assumption) _ | exact bdrew _ | exact balloc (bdrew _) _);rintro x w4 ⟨v4,rfl,h4,b4⟩;(first | ((first | have hXX:=newX b4 W0 (by first | assumption | exact bdrew _) | have hXX:=newX (undrew b4) W0 (by first | exact Below.refl _ _ | assumption));obtain⟨hX,sX⟩:=hXX;try simp only[World.size_drew] at hX sX) | (have hX:=hX.below b4 hX.lt) | skip);have B4:=bstep (a:=W0) (by first | assumption | exact balloc (by assumption) _ | exact bdrew _ | exact balloc (bdrew _) _) b4;have h3:=h3.below (by first | exact b4 | exact bstep (balloc (Below.refl _ _) _) b4))
    | (go_at_call 120;(with_reducible refine (hK _ _ _ ?_ ?_).mono ?_);exact h3.below (by first | exact Below.refl _ _ | exact balloc (Below.refl _ _) _);exact h4.below (by first | exact Below.refl _ _ | exact balloc (Below.refl _ _) _);rintro x w5 ⟨v5,rfl,⟨n5,d5,rfl,h5,k5⟩,b5⟩;(first | ((first | have hXX:=newX b5 W0 (by first | assumption | exact bdrew _) | have hXX:=newX (undrew b5) W0 (by first | exact Below.refl _ _ | assumption));obtain⟨hX,sX⟩:=hXX;try simp only[World.size_drew] at hX sX) | (have hX:=hX.below b5 hX.lt) | skip);have B5:=bstep (a:=W0) (by first | assumption | exact balloc (by assumption) _ | exact bdrew _ | exact balloc (bdrew _) _) b5;obtain⟨A1,L1,C1,rfl⟩:=h5.frm;obtain⟨A2,L2,C2,rfl⟩:=k5.frm;(try (have x0:=hX.cell 0;have x1:=hX.cell 1;have x2:=hX.cell 2;have y0:=hX.frozen 0;have y1:=hX.frozen 1;have y2:=hX.frozen 2))))
  all_goals (go_wp2_with fail;go_meet)
  all_goals
   have hRlt:=hR.lt
   have hR:=hR.b B5
   have hB0:=hB
   have hB:=hB.trans (B5.mono hB.size)
   have hsz:=hT.lt
   first
    | exact⟨_,_,_,_,_,_,_,rfl,Blk.new _ _ _,h5.below (balloc (Below.refl _ _) _),k5.below (balloc (Below.refl _ _) _),hR.alloc _,hB.alloc hB.size _⟩
    | (obtain ⟨p1, p2, p3⟩ := put3 hX (.bool (decide (r.num < 0))) (.slice A1 L1 C1) (.slice A2 L2 C2) (by simp [noU]) hB (Nat.le_trans hB0.size (by first | assumption | exact Nat.le_refl _))
       exact⟨_,_,_,_,_,_,_,rfl,p1,p2 _ _ h5,p2 _ _ k5,hR.farX (Nat.ne_of_lt (Nat.lt_of_lt_of_le hRlt (by first | assumption | exact Nat.le_refl _))) _ _ _,p3⟩)
 obtain⟨X,A1,A2,L1,L2,C1,C2,rfl,hX,h1,h2,hR,hB⟩:=hcut
 obtain⟨x0,x1,x2⟩:=hX.cells3
 obtain⟨p1,p2,p3⟩:=put3 hR (.bool (decide (r.num<0))) (.slice A1 L1 C1) (.slice A2 L2 C2) (by simp[noU]) hB (by omega)
 have q0:=hR.cell 0
 have z0:=hR.frozen 0
 have q1:=hR.cell 1
 have z1:=hR.frozen 1
 have q2:=hR.cell 2
 have z2:=hR.frozen 2
 have P:=Lib.hid (And.intro (⟨_,_,rfl,p2 _ _ h1,p2 _ _ h2⟩:IsQ _ (.agg #[.bool (decide (r.num<0)),.slice A1 L1 C1,.slice A2 L2 C2]) r) (And.intro p3 p1.cells3))
 clear p1 p2 p3
 go_wp2
 obtain⟨P1,P2,P3,P4,P5⟩:=P.out
 exact bodyPost_ret (v:= .agg #[.bool (decide (r.num<0)),.slice A1 L1 C1,.slice A2 L2 C2]) (by simp[results,Tryz.results56,go_sem,P3,P4,P5]) rfl ⟨_,rfl,P1,P2⟩
theorem pnum_any (n:Int) (k:Nat) (w:World) (hk:k≤40) (ha:In64 n):
 Calls Tryz.prog 63 #[.int .i64 n,.int .i64 k] w fun e w'=>∃v',e= .returned (.tuple #[v',.bool true])∧IsQ w' v' (mkRat n (2^k))∧Below w.heap.size w w':=by
 have hO:=fun w=>pzof_any n ha.1 ha.2 w
 have sz:Sz n.natAbs 1:=Sz.u64 (by have:=ha.1;have:=ha.2;unfold W64;omega)
 have hBk:=fun u w h=>pdback_any u n k (by omega) w h (sz.more (by omega))
 generalize mkRat n (2^k)=r at *
 have hd0:decide ((k:Int)<0)=false:=decide_eq_false (by omega)
 have hd1:¬(40:Int)<(k:Int):=by omega
 clear sz ha
 obtain⟨g,Y0,hR,hB,hgw,EY⟩:=boxes1 w 32 #[.bool false,.slice none 0 0,.slice none 0 0]
 obtain⟨c0,c1,c2⟩:=hR.q3
 go_enter Tryz.func63,Tryz.ntmps63
 go_wp2_with fail
 rw[←EY.out.2,←EY.out.1]
 refine (hO _).mono ?_
 rintro e w2 ⟨v1,rfl,z1,b2⟩
 replace hR:=hR.b b2
 replace hB:=bOn hB b2
 clear c0 c1 c2
 obtain⟨c3,c4,c5⟩:=hR.q3
 go_wp2_with fail
 refine (hBk _ _ z1).mono ?_
 rintro e w4 ⟨v2,rfl,q2,b4⟩
 replace hR:=hR.b b4
 replace z1:=z1.b b4
 replace hB:=bOn hB b4
 clear c3 c4 c5
 obtain⟨c6,c7,c8⟩:=hR.q3
 obtain⟨s2,A2,L2,C2,D2,M2,E2,rfl,q2⟩:=q2.opn
 obtain⟨X6,V6,hV,bV6,lX6,nX6,EV6⟩:=boxL hB 32 #[.bool s2,.slice A2 L2 C2,.slice D2 M2 E2]
 have dX6_hR:=nX6 _ hR.lt
 clear nX6
 go_upto_region 4 with fail
 rw[←EV6.out.1,←EV6.out.2]
 replace hR:=hR.b bV6
 replace q2:=q2.b bV6
 replace hB:=bOn hB bV6
 clear c6 c7 c8
 obtain⟨c9,c10,c11⟩:=hR.q3
 obtain⟨c12,c13,c14⟩:=hV.q3
 obtain⟨p1,p2,p3⟩:=put3 hR (.bool s2) (.slice A2 L2 C2) (.slice D2 M2 E2) (by simp[noU]) hB (by omega)
 have rc0:World.cell? _ ⟨g,0,none⟩=some (.bool false):=hR.cell 0
 have rf0:=hR.frozen 0
 have rc1:World.cell? _ ⟨g,1,none⟩=some (.slice none 0 0):=hR.cell 1
 have rf1:=hR.frozen 1
 have rc2:World.cell? _ ⟨g,2,none⟩=some (.slice none 0 0):=hR.cell 2
 have rf2:=hR.frozen 2
 have P:=Lib.hid (And.intro (q2.kept p2) (And.intro p3 p1.cells3))
 clear p1 p2 p3
 go_wp2_with fail
 obtain⟨P1,P2,P3,P4,P5⟩:=P.out
 exact bodyPost_ret (v:= .tuple #[.agg #[.bool s2,.slice A2 L2 C2,.slice D2 M2 E2],.bool true]) (by simp[results,Tryz.results63,go_sem,P3,P4,P5]) rfl ⟨_,rfl,P1,P2⟩
theorem field_zed (s:Bool) (v:Value) (w:World):(Instr.field 30 (.agg #[.bool s,v]) 1).run Tryz.prog w= .ok v w:=by kernel_rfl
theorem pover_any (p q:Int) (w:World) (hp:In64 p) (hq:In64 q) (h0:0<q):
 Calls Tryz.prog 57 #[.int .i64 p,.int .i64 q] w fun e w'=>∃v',e= .returned v'∧IsQ w' v' (mkRat p q.natAbs)∧Below w.heap.size w w':=by
 have hO1:=fun w=>pzof_any p hp.1 hp.2 w
 have hO2:=fun w=>pzof_any q hq.1 hq.2 w
 have sp:Sz p.natAbs 1:=Sz.u64 (by have:=hp.1;have:=hp.2;unfold W64;omega)
 have sq:Sz q.natAbs 1:=Sz.u64 (by have:=hq.1;have:=hq.2;unfold W64;omega)
 have hM:=fun u v w hu hv=>prmake_any u v p q.natAbs w hu hv (sp.more (by omega)) (sq.more (by omega)) (by omega)
 generalize mkRat p q.natAbs=r at *
 clear sp sq hp hq h0
 obtain⟨g,Y0,hR,hB,hgw,EY⟩:=boxes1 w 32 #[.bool false,.slice none 0 0,.slice none 0 0]
 obtain⟨c0,c1,c2⟩:=hR.q3
 go_enter Tryz.func57,Tryz.ntmps57
 go_wp2_with fail
 rw[←EY.out.2,←EY.out.1]
 refine (hO1 _).mono ?_
 rintro e w2 ⟨v1,rfl,z1,b2⟩
 replace hR:=hR.b b2
 replace hB:=bOn hB b2
 clear c0 c1 c2
 obtain⟨c3,c4,c5⟩:=hR.q3
 go_wp2_with fail
 refine (hO2 _).mono ?_
 rintro e w4 ⟨v2,rfl,z2,b4⟩
 replace hR:=hR.b b4
 replace z1:=z1.b b4
 replace hB:=bOn hB b4
 clear c3 c4 c5
 obtain⟨c6,c7,c8⟩:=hR.q3
 obtain⟨s2,A2,L2,C2,rfl,z2⟩:=z2.opn
 have n2:=z2.parts.2
 have hfl:=fun w=>field_zed s2 (.slice A2 L2 C2) w
 go_wp2_with fail
 refine (hM _ _ _ z1 n2).mono ?_
 rintro e w6 ⟨v3,rfl,q3,b6⟩
 replace hR:=hR.b b6
 replace z1:=z1.b b6
 replace n2:=n2.b b6
 replace z2:=z2.b b6
 replace hB:=bOn hB b6
 clear c6 c7 c8
 obtain⟨c9,c10,c11⟩:=hR.q3
 obtain⟨s3,A3,L3,C3,D3,M3,E3,rfl,q3⟩:=q3.opn
 obtain⟨X8,V8,hV,bV8,lX8,nX8,EV8⟩:=boxL hB 32 #[.bool s3,.slice A3 L3 C3,.slice D3 M3 E3]
 have dX8_hR:=nX8 _ hR.lt
 clear nX8
 go_upto_region 2 with fail
 rw[←EV8.out.1,←EV8.out.2]
 replace hR:=hR.b bV8
 replace z1:=z1.b bV8
 replace n2:=n2.b bV8
 replace z2:=z2.b bV8
 replace q3:=q3.b bV8
 replace hB:=bOn hB bV8
 clear c9 c10 c11
 obtain⟨c12,c13,c14⟩:=hR.q3
 obtain⟨c15,c16,c17⟩:=hV.q3
 obtain⟨p1,p2,p3⟩:=put3 hR (.bool s3) (.slice A3 L3 C3) (.slice D3 M3 E3) (by simp[noU]) hB (by omega)
 have rc0:World.cell? _ ⟨g,0,none⟩=some (.bool false):=hR.cell 0
 have rf0:=hR.frozen 0
 have rc1:World.cell? _ ⟨g,1,none⟩=some (.slice none 0 0):=hR.cell 1
 have rf1:=hR.frozen 1
 have rc2:World.cell? _ ⟨g,2,none⟩=some (.slice none 0 0):=hR.cell 2
 have rf2:=hR.frozen 2
 have P:=Lib.hid (And.intro (q3.kept p2) (And.intro p3 p1.cells3))
 clear p1 p2 p3
 go_wp2_with fail
 obtain⟨P1,P2,P3,P4,P5⟩:=P.out
 exact bodyPost_ret (v:= .agg #[.bool s3,.slice A3 L3 C3,.slice D3 M3 E3]) (by simp[results,Tryz.results57,go_sem,P3,P4,P5]) rfl ⟨_,rfl,P1,P2⟩
def nextQ (beta:Int) (k:Nat) (a m:Rat):Rat:=mkRat (cel (mkRat beta (2^k)*a+m) 20) (2^20)
theorem sz_cel {a:Rat} {k n:Nat} (h:BQ a n):Sz (cel a k).natAbs (n+k+4):=by
 rw[rnd_cel,sided_abs]
 unfold rndN
 refine Sz.le (a:=a.num.natAbs*2^k+1) ((Sz.add (h.1.mul (Sz.two_pow k)) Sz.one).more (by omega)) ?_
 have:=Nat.div_le_self (a.num.natAbs*2^k) a.den
 split<;>omega
theorem pnext_any (beta:Int) (k:Nat) (va vm:Value) (a m:Rat) (w:World) (hk:k≤40) (hb:In64 beta) (hb0:0≤beta) (hb1:beta≤((2^k:Nat):Int)) (ha:IsQ w va a) (hm:IsQ w vm m) (sa:BQ a 2000) (sm:BQ m 2000) (na:decide (a.num<0)=false) (nm:decide (m.num<0)=false):
 Calls Tryz.prog 17 #[.int .i64 beta,.int .i64 k,va,vm] w fun e w'=>∃v',e= .returned (.tuple #[v',.int .i64 0])∧IsQ w' v' (nextQ beta k a m)∧Below w.heap.size w w':=by
 have hN:=fun w=>pnum_any beta k w hk hb
 have sx:BQ (mkRat beta (2^k)) 41:=BQ.mk ((Sz.u64 (by have:=hb.1;have:=hb.2;unfold W64;omega)).more (by omega)) ((Sz.two_pow k).more (by omega)) (by omega)
 have hMu:=fun u v w hu hv=>pmul_any u v (mkRat beta (2^k)) a w hu hv (sx.more (by omega)) (sa.more (by omega))
 have s1:=sx.mul sa
 have hAd:=fun u v w hu hv=>pradd_any u v (mkRat beta (2^k)*a) m w hu hv (s1.more (by omega)) (sm.more (by omega))
 have s2:=s1.add sm
 have hCe:=fun u w hu=>pceil_any u (mkRat beta (2^k)*a+m) 20 w hu (by omega) (s2.more (by omega))
 have s3:=sz_cel (k:=20) s2
 have hBk:=fun u w hu=>pdback_any u (cel (mkRat beta (2^k)*a+m) 20) 20 (by omega) w hu (s3.more (by omega))
 rw[show mkRat (cel (mkRat beta (2^k)*a+m) 20) (2^20)=nextQ beta k a m from rfl] at hBk
 generalize nextQ beta k a m=r at *
 generalize cel (mkRat beta (2^k)*a+m) 20=z at *
 generalize mkRat beta (2^k)*a+m=r2 at *
 generalize mkRat beta (2^k)*a=r1 at *
 generalize mkRat beta (2^k)=x at *
 have hP40:2^k≤2^40:=Nat.pow_le_pow_right (by omega) hk
 have hPi:((2^k:Nat):Int)=(2:Int)^k:=by simp
 obtain⟨P,hP⟩:∃P,P=2^k:=⟨_,rfl⟩
 rw[←hP] at hb1 hP40 hPi
 have w1:IntKind.i64.wrap ((2:Int)^k)=(P:Int):=by rw[←hPi,IntKind.wrap_i64];omega
 have w2:IntKind.i64.wrap (1*(2:Int)^k)=(P:Int):=by rw[Int.one_mul];exact w1
 obtain⟨s1,A1,L1,C1,D1,M1,E1,rfl,q1⟩:=ha.opn
 obtain⟨s2,A2,L2,C2,D2,M2,E2,rfl,q2⟩:=hm.opn
 obtain rfl:s1=false:=by rw[q1.parts.1];exact na
 obtain rfl:s2=false:=by rw[q2.parts.1];exact nm
 have hd0:decide (beta<0)=false:=decide_eq_false (by omega)
 have hd1:¬(P:Int)<beta:=by omega
 clear hP hPi hP40 s3 sx sa sm na nm ha hm hb
 obtain⟨g,Y2,hA,hM,hR,hB,hgw,EY⟩:=boxes3 w 32 #[.bool false,.slice A1 L1 C1,.slice D1 M1 E1] 32 #[.bool false,.slice A2 L2 C2,.slice D2 M2 E2] 32 #[.bool false,.slice none 0 0,.slice none 0 0]
 replace q1:=q1.b hB
 replace q2:=q2.b hB
 obtain⟨c0,c1,c2⟩:=hA.q3
 obtain⟨c3,c4,c5⟩:=hM.q3
 obtain⟨c6,c7,c8⟩:=hR.q3
 go_enter Tryz.func17,Tryz.ntmps17
 go_wp2_with fail
 rw[←EY.out.2,←EY.out.1]
 refine (hN _).mono ?_
 rintro e w2 ⟨v3,rfl,q3,b2⟩
 replace q1:=q1.b b2
 replace q2:=q2.b b2
 replace hA:=hA.b b2
 replace hM:=hM.b b2
 replace hR:=hR.b b2
 replace hB:=bOn hB b2
 clear c0 c1 c2 c3 c4 c5 c6 c7 c8
 obtain⟨c9,c10,c11⟩:=hA.q3
 obtain⟨c12,c13,c14⟩:=hM.q3
 obtain⟨c15,c16,c17⟩:=hR.q3
 obtain⟨s3,A3,L3,C3,D3,M3,E3,rfl,q3⟩:=q3.opn
 obtain⟨X4,V4,hV,bV4,lX4,nX4,EV4⟩:=boxL hB 32 #[.bool s3,.slice A3 L3 C3,.slice D3 M3 E3]
 have dX4_hA:=nX4 _ hA.lt
 have dX4_hM:=nX4 _ hM.lt
 have dX4_hR:=nX4 _ hR.lt
 clear nX4
 go_upto_region 2 with fail
 rw[←EV4.out.1,←EV4.out.2]
 replace q1:=q1.b bV4
 replace q2:=q2.b bV4
 replace hA:=hA.b bV4
 replace hM:=hM.b bV4
 replace hR:=hR.b bV4
 replace q3:=q3.b bV4
 replace hB:=bOn hB bV4
 clear c9 c10 c11 c12 c13 c14 c15 c16 c17
 obtain⟨c18,c19,c20⟩:=hA.q3
 obtain⟨c21,c22,c23⟩:=hM.q3
 obtain⟨c24,c25,c26⟩:=hR.q3
 obtain⟨c27,c28,c29⟩:=hV.q3
 go_upto_region 4 with fail
 replace hB:=hB.drew
 replace q1:=q1.b (bdrew _)
 replace q2:=q2.b (bdrew _)
 replace hA:=hA.drew
 replace hM:=hM.drew
 replace hR:=hR.drew
 replace q3:=q3.b (bdrew _)
 replace hV:=hV.drew
 clear c18 c19 c20 c21 c22 c23 c24 c25 c26 c27 c28 c29
 go_cut [12] (fun s12 wx=>∃X9 s6 A6 L6 C6,s12= .pointer (some ⟨X9,0,none⟩)∧Blk wx (g+1+1) 32 #[.bool false,.slice none 0 0,.slice none 0 0]∧IsZ wx (.agg #[.bool s6,.slice A6 L6 C6]) z∧Blk wx X9 30 #[.bool s6,.slice A6 L6 C6]∧Below w.heap.size w wx∧w.heap.size≤X9∧g+1+1≠X9)
 case first=>
  refine wp_region_noPanic ?_
  refine wp_region_held_drew (S:=fun w'=>w'.cell? ⟨X4,0,none⟩=some (.bool s3)∧w'.cell? ⟨X4,1,none⟩=some (.slice A3 L3 C3)∧w'.cell? ⟨X4,2,none⟩=some (.slice D3 M3 E3)∧w'.cell? ⟨g,0,none⟩=some (.bool false)∧w'.cell? ⟨g,1,none⟩=some (.slice A1 L1 C1)∧w'.cell? ⟨g,2,none⟩=some (.slice D1 M1 E1)∧w'.cell? ⟨g+1,0,none⟩=some (.bool false)∧w'.cell? ⟨g+1,1,none⟩=some (.slice A2 L2 C2)∧w'.cell? ⟨g+1,2,none⟩=some (.slice D2 M2 E2)) (by kernel_rfl) ?_ (fun hHeld=>?_)
  ·exact⟨hV.cell 0,hV.cell 1,hV.cell 2,hA.cell 0,hA.cell 1,hA.cell 2,hM.cell 0,hM.cell 1,hM.cell 2⟩
  obtain⟨wd4_1,hwd⟩:∃q,q=V4.drew:=⟨_,rfl⟩
  rw[←hwd] at hB q1 q2 hA hM hR q3 hV hHeld ⊢
  clear hwd
  refine tkA 0 rfl ?_
  refine tkA 1 rfl ?_
  refine tkA 3 rfl ?_
  try simp only[lay]
  refine rd2 2 9 rfl rfl (fun K hK=>?_) fun K hK=>?_
  ·go_simp
   refine (hMu _ _ _ q3 q1).mono ?_
   rintro e u4_1 ⟨v4,rfl,q4,b4_1⟩
   replace q1:=q1.b b4_1
   replace q2:=q2.b b4_1
   replace hA:=hA.b b4_1
   replace hM:=hM.b b4_1
   replace hR:=hR.b b4_1
   replace q3:=q3.b b4_1
   replace hV:=hV.b b4_1
   replace hB:=bOn hB b4_1
   obtain⟨s4,A4,L4,C4,D4,M4,E4,rfl,q4⟩:=q4.opn
   go_wp2_with fail
   refine hK.out _ _ ?_ fun hHeld=>?_
   ·exact⟨hV.cell 0,hV.cell 1,hV.cell 2,hA.cell 0,hA.cell 1,hA.cell 2,hM.cell 0,hM.cell 1,hM.cell 2⟩
   clear hK K
   try simp only[lay]
   refine rd2 4 9 rfl rfl (fun K hK=>?_) fun K hK=>?_
   ·go_simp
    refine (hAd _ _ _ q4 q2).mono ?_
    rintro e u4_2 ⟨v5,rfl,q5,b4_2⟩
    replace q1:=q1.b b4_2
    replace q2:=q2.b b4_2
    replace hA:=hA.b b4_2
    replace hM:=hM.b b4_2
    replace hR:=hR.b b4_2
    replace q3:=q3.b b4_2
    replace hV:=hV.b b4_2
    replace q4:=q4.b b4_2
    replace hB:=bOn hB b4_2
    obtain⟨s5,A5,L5,C5,D5,M5,E5,rfl,q5⟩:=q5.opn
    go_wp2_with fail
    refine hK.out _ _ ?_ fun hHeld=>?_
    ·exact⟨hV.cell 0,hV.cell 1,hV.cell 2,hA.cell 0,hA.cell 1,hA.cell 2,hM.cell 0,hM.cell 1,hM.cell 2⟩
    clear hK K
    try simp only[lay]
    refine rd2 5 9 rfl rfl (fun K hK=>?_) fun K hK=>?_
    ·go_simp
     refine (hCe _ _ q5).mono ?_
     rintro e u4_3 ⟨v6,rfl,z6,b4_3⟩
     replace q1:=q1.b b4_3
     replace q2:=q2.b b4_3
     replace hA:=hA.b b4_3
     replace hM:=hM.b b4_3
     replace hR:=hR.b b4_3
     replace q3:=q3.b b4_3
     replace hV:=hV.b b4_3
     replace q4:=q4.b b4_3
     replace q5:=q5.b b4_3
     replace hB:=bOn hB b4_3
     obtain⟨s6,A6,L6,C6,rfl,z6⟩:=z6.opn
     go_wp2_with fail
     refine hK.out _ _ ?_ fun hHeld=>?_
     ·exact⟨hV.cell 0,hV.cell 1,hV.cell 2,hA.cell 0,hA.cell 1,hA.cell 2,hM.cell 0,hM.cell 1,hM.cell 2⟩
     clear hK K
     refine tkA 6 rfl ?_
     refine tkA 7 rfl ?_
     refine tkA 8 rfl ?_
     try simp only[lay]
     refine rd1 9 rfl fun K hK=>?_
     obtain⟨u4_4,eu,hU,b4_4⟩:=box1 u4_3 30 #[.bool false,.slice none 0 0]
     obtain⟨X9,en⟩:∃X,X=u4_3.heap.size:=⟨_,rfl⟩
     rw[←en] at hU
     have lX9:w.heap.size≤X9:=by rw[en];exact hB.size
     have dX9_hA:g≠X9:=by have:=hA.lt;omega
     have dX9_hM:g+1≠X9:=by have:=hM.lt;omega
     have dX9_hR:g+1+1≠X9:=by have:=hR.lt;omega
     have dX9_hV:X4≠X9:=by have:=hV.lt;omega
     have EUX9:=Lib.hid (And.intro eu en)
     clear eu en
     go_simp
     rw[←EUX9.out.1,←EUX9.out.2]
     replace q1:=q1.b b4_4
     replace q2:=q2.b b4_4
     replace hA:=hA.b b4_4
     replace hM:=hM.b b4_4
     replace hR:=hR.b b4_4
     replace q3:=q3.b b4_4
     replace hV:=hV.b b4_4
     replace q4:=q4.b b4_4
     replace q5:=q5.b b4_4
     replace z6:=z6.b b4_4
     replace hB:=bOn hB b4_4
     refine hK.out _ _ ?_ fun hHeld=>?_
     ·exact⟨hV.cell 0,hV.cell 1,hV.cell 2,hA.cell 0,hA.cell 1,hA.cell 2,hM.cell 0,hM.cell 1,hM.cell 2⟩
     clear hK K
     try simp only[lay]
     refine rd1 10 rfl fun K hK=>?_
     obtain⟨u4_5,eu,hU',kz,kb,kB⟩:=fill2 hU (.bool s6) (.slice A6 L6 C6) (by simp[noU])
     obtain⟨x0,x1⟩:=hU.q2
     have xf:=hU.frozen
     go_simp
     rw[←eu]
     replace q1:=q1.filled kz
     replace q2:=q2.filled kz
     replace hA:=kb _ _ _ hA (by omega)
     replace hM:=kb _ _ _ hM (by omega)
     replace hR:=kb _ _ _ hR (by omega)
     replace q3:=q3.filled kz
     replace hV:=kb _ _ _ hV (by omega)
     replace q4:=q4.filled kz
     replace q5:=q5.filled kz
     replace z6:=z6.filled kz
     replace hB:=kB _ _ (by omega) hB
     replace hU:=hU'
     clear hU' kz kb kB eu xf x0 x1
     refine hK.out _ _ ?_ fun hHeld=>?_
     ·exact⟨hV.cell 0,hV.cell 1,hV.cell 2,hA.cell 0,hA.cell 1,hA.cell 2,hM.cell 0,hM.cell 1,hM.cell 2⟩
     clear hK K
     refine tkA 11 rfl ?_
     try simp only[lay]
     refine wpAnyH_done (by kernel_rfl) ?_ _
     refine NoPanic.normal ?_
     go_wp2_with fail
     go_meet
     exact⟨X9,s6,A6,L6,C6,rfl,hR,z6,hU,hB,lX9,(by assumption)⟩
    ·obtain⟨u4_6,eu,hU,b4_6⟩:=box1 u4_2 30 #[.bool false,.slice none 0 0]
     obtain⟨X9,en⟩:∃X,X=u4_2.heap.size:=⟨_,rfl⟩
     rw[←en] at hU
     have lX9:w.heap.size≤X9:=by rw[en];exact hB.size
     have dX9_hA:g≠X9:=by have:=hA.lt;omega
     have dX9_hM:g+1≠X9:=by have:=hM.lt;omega
     have dX9_hR:g+1+1≠X9:=by have:=hR.lt;omega
     have dX9_hV:X4≠X9:=by have:=hV.lt;omega
     have EUX9:=Lib.hid (And.intro eu en)
     clear eu en
     go_simp
     rw[←EUX9.out.1,←EUX9.out.2]
     replace q1:=q1.b b4_6
     replace q2:=q2.b b4_6
     replace hA:=hA.b b4_6
     replace hM:=hM.b b4_6
     replace hR:=hR.b b4_6
     replace q3:=q3.b b4_6
     replace hV:=hV.b b4_6
     replace q4:=q4.b b4_6
     replace q5:=q5.b b4_6
     replace hB:=bOn hB b4_6
     refine hK.out _ _ ?_ fun hHeld=>?_
     ·exact⟨hV.cell 0,hV.cell 1,hV.cell 2,hA.cell 0,hA.cell 1,hA.cell 2,hM.cell 0,hM.cell 1,hM.cell 2⟩
     clear hK K
     try simp only[lay]
     refine rd1 5 rfl fun K hK=>?_
     go_simp
     refine (hCe _ _ q5).mono ?_
     rintro e u4_7 ⟨v6,rfl,z6,b4_7⟩
     replace q1:=q1.b b4_7
     replace q2:=q2.b b4_7
     replace hA:=hA.b b4_7
     replace hM:=hM.b b4_7
     replace hR:=hR.b b4_7
     replace q3:=q3.b b4_7
     replace hV:=hV.b b4_7
     replace q4:=q4.b b4_7
     replace q5:=q5.b b4_7
     replace hU:=hU.b b4_7
     replace hB:=bOn hB b4_7
     obtain⟨s6,A6,L6,C6,rfl,z6⟩:=z6.opn
     go_wp2_with fail
     refine hK.out _ _ ?_ fun hHeld=>?_
     ·exact⟨hV.cell 0,hV.cell 1,hV.cell 2,hA.cell 0,hA.cell 1,hA.cell 2,hM.cell 0,hM.cell 1,hM.cell 2⟩
     clear hK K
     refine tkA 6 rfl ?_
     refine tkA 7 rfl ?_
     refine tkA 8 rfl ?_
     try simp only[lay]
     refine rd1 10 rfl fun K hK=>?_
     obtain⟨u4_8,eu,hU',kz,kb,kB⟩:=fill2 hU (.bool s6) (.slice A6 L6 C6) (by simp[noU])
     obtain⟨x0,x1⟩:=hU.q2
     have xf:=hU.frozen
     go_simp
     rw[←eu]
     replace q1:=q1.filled kz
     replace q2:=q2.filled kz
     replace hA:=kb _ _ _ hA (by omega)
     replace hM:=kb _ _ _ hM (by omega)
     replace hR:=kb _ _ _ hR (by omega)
     replace q3:=q3.filled kz
     replace hV:=kb _ _ _ hV (by omega)
     replace q4:=q4.filled kz
     replace q5:=q5.filled kz
     replace z6:=z6.filled kz
     replace hB:=kB _ _ (by omega) hB
     replace hU:=hU'
     clear hU' kz kb kB eu xf x0 x1
     refine hK.out _ _ ?_ fun hHeld=>?_
     ·exact⟨hV.cell 0,hV.cell 1,hV.cell 2,hA.cell 0,hA.cell 1,hA.cell 2,hM.cell 0,hM.cell 1,hM.cell 2⟩
     clear hK K
     refine tkA 11 rfl ?_
     try simp only[lay]
     refine wpAnyH_done (by kernel_rfl) ?_ _
     refine NoPanic.normal ?_
     go_wp2_with fail
     go_meet
     exact⟨X9,s6,A6,L6,C6,rfl,hR,z6,hU,hB,lX9,(by assumption)⟩
   ·obtain⟨u4_9,eu,hU,b4_9⟩:=box1 u4_1 30 #[.bool false,.slice none 0 0]
    obtain⟨X9,en⟩:∃X,X=u4_1.heap.size:=⟨_,rfl⟩
    rw[←en] at hU
    have lX9:w.heap.size≤X9:=by rw[en];exact hB.size
    have dX9_hA:g≠X9:=by have:=hA.lt;omega
    have dX9_hM:g+1≠X9:=by have:=hM.lt;omega
    have dX9_hR:g+1+1≠X9:=by have:=hR.lt;omega
    have dX9_hV:X4≠X9:=by have:=hV.lt;omega
    have EUX9:=Lib.hid (And.intro eu en)
    clear eu en
    go_simp
    rw[←EUX9.out.1,←EUX9.out.2]
    replace q1:=q1.b b4_9
    replace q2:=q2.b b4_9
    replace hA:=hA.b b4_9
    replace hM:=hM.b b4_9
    replace hR:=hR.b b4_9
    replace q3:=q3.b b4_9
    replace hV:=hV.b b4_9
    replace q4:=q4.b b4_9
    replace hB:=bOn hB b4_9
    refine hK.out _ _ ?_ fun hHeld=>?_
    ·exact⟨hV.cell 0,hV.cell 1,hV.cell 2,hA.cell 0,hA.cell 1,hA.cell 2,hM.cell 0,hM.cell 1,hM.cell 2⟩
    clear hK K
    try simp only[lay]
    refine rd1 4 rfl fun K hK=>?_
    go_simp
    refine (hAd _ _ _ q4 q2).mono ?_
    rintro e u4_10 ⟨v5,rfl,q5,b4_10⟩
    replace q1:=q1.b b4_10
    replace q2:=q2.b b4_10
    replace hA:=hA.b b4_10
    replace hM:=hM.b b4_10
    replace hR:=hR.b b4_10
    replace q3:=q3.b b4_10
    replace hV:=hV.b b4_10
    replace q4:=q4.b b4_10
    replace hU:=hU.b b4_10
    replace hB:=bOn hB b4_10
    obtain⟨s5,A5,L5,C5,D5,M5,E5,rfl,q5⟩:=q5.opn
    go_wp2_with fail
    refine hK.out _ _ ?_ fun hHeld=>?_
    ·exact⟨hV.cell 0,hV.cell 1,hV.cell 2,hA.cell 0,hA.cell 1,hA.cell 2,hM.cell 0,hM.cell 1,hM.cell 2⟩
    clear hK K
    try simp only[lay]
    refine rd1 5 rfl fun K hK=>?_
    go_simp
    refine (hCe _ _ q5).mono ?_
    rintro e u4_11 ⟨v6,rfl,z6,b4_11⟩
    replace q1:=q1.b b4_11
    replace q2:=q2.b b4_11
    replace hA:=hA.b b4_11
    replace hM:=hM.b b4_11
    replace hR:=hR.b b4_11
    replace q3:=q3.b b4_11
    replace hV:=hV.b b4_11
    replace q4:=q4.b b4_11
    replace hU:=hU.b b4_11
    replace q5:=q5.b b4_11
    replace hB:=bOn hB b4_11
    obtain⟨s6,A6,L6,C6,rfl,z6⟩:=z6.opn
    go_wp2_with fail
    refine hK.out _ _ ?_ fun hHeld=>?_
    ·exact⟨hV.cell 0,hV.cell 1,hV.cell 2,hA.cell 0,hA.cell 1,hA.cell 2,hM.cell 0,hM.cell 1,hM.cell 2⟩
    clear hK K
    refine tkA 6 rfl ?_
    refine tkA 7 rfl ?_
    refine tkA 8 rfl ?_
    try simp only[lay]
    refine rd1 10 rfl fun K hK=>?_
    obtain⟨u4_12,eu,hU',kz,kb,kB⟩:=fill2 hU (.bool s6) (.slice A6 L6 C6) (by simp[noU])
    obtain⟨x0,x1⟩:=hU.q2
    have xf:=hU.frozen
    go_simp
    rw[←eu]
    replace q1:=q1.filled kz
    replace q2:=q2.filled kz
    replace hA:=kb _ _ _ hA (by omega)
    replace hM:=kb _ _ _ hM (by omega)
    replace hR:=kb _ _ _ hR (by omega)
    replace q3:=q3.filled kz
    replace hV:=kb _ _ _ hV (by omega)
    replace q4:=q4.filled kz
    replace q5:=q5.filled kz
    replace z6:=z6.filled kz
    replace hB:=kB _ _ (by omega) hB
    replace hU:=hU'
    clear hU' kz kb kB eu xf x0 x1
    refine hK.out _ _ ?_ fun hHeld=>?_
    ·exact⟨hV.cell 0,hV.cell 1,hV.cell 2,hA.cell 0,hA.cell 1,hA.cell 2,hM.cell 0,hM.cell 1,hM.cell 2⟩
    clear hK K
    refine tkA 11 rfl ?_
    try simp only[lay]
    refine wpAnyH_done (by kernel_rfl) ?_ _
    refine NoPanic.normal ?_
    go_wp2_with fail
    go_meet
    exact⟨X9,s6,A6,L6,C6,rfl,hR,z6,hU,hB,lX9,(by assumption)⟩
  ·obtain⟨u4_13,eu,hU,b4_13⟩:=box1 wd4_1 30 #[.bool false,.slice none 0 0]
   obtain⟨X9,en⟩:∃X,X=wd4_1.heap.size:=⟨_,rfl⟩
   rw[←en] at hU
   have lX9:w.heap.size≤X9:=by rw[en];exact hB.size
   have dX9_hA:g≠X9:=by have:=hA.lt;omega
   have dX9_hM:g+1≠X9:=by have:=hM.lt;omega
   have dX9_hR:g+1+1≠X9:=by have:=hR.lt;omega
   have dX9_hV:X4≠X9:=by have:=hV.lt;omega
   have EUX9:=Lib.hid (And.intro eu en)
   clear eu en
   go_simp
   rw[←EUX9.out.1,←EUX9.out.2]
   replace q1:=q1.b b4_13
   replace q2:=q2.b b4_13
   replace hA:=hA.b b4_13
   replace hM:=hM.b b4_13
   replace hR:=hR.b b4_13
   replace q3:=q3.b b4_13
   replace hV:=hV.b b4_13
   replace hB:=bOn hB b4_13
   refine hK.out _ _ ?_ fun hHeld=>?_
   ·exact⟨hV.cell 0,hV.cell 1,hV.cell 2,hA.cell 0,hA.cell 1,hA.cell 2,hM.cell 0,hM.cell 1,hM.cell 2⟩
   clear hK K
   try simp only[lay]
   refine rd1 2 rfl fun K hK=>?_
   go_simp
   refine (hMu _ _ _ q3 q1).mono ?_
   rintro e u4_14 ⟨v4,rfl,q4,b4_14⟩
   replace q1:=q1.b b4_14
   replace q2:=q2.b b4_14
   replace hA:=hA.b b4_14
   replace hM:=hM.b b4_14
   replace hR:=hR.b b4_14
   replace q3:=q3.b b4_14
   replace hV:=hV.b b4_14
   replace hU:=hU.b b4_14
   replace hB:=bOn hB b4_14
   obtain⟨s4,A4,L4,C4,D4,M4,E4,rfl,q4⟩:=q4.opn
   go_wp2_with fail
   refine hK.out _ _ ?_ fun hHeld=>?_
   ·exact⟨hV.cell 0,hV.cell 1,hV.cell 2,hA.cell 0,hA.cell 1,hA.cell 2,hM.cell 0,hM.cell 1,hM.cell 2⟩
   clear hK K
   try simp only[lay]
   refine rd1 4 rfl fun K hK=>?_
   go_simp
   refine (hAd _ _ _ q4 q2).mono ?_
   rintro e u4_15 ⟨v5,rfl,q5,b4_15⟩
   replace q1:=q1.b b4_15
   replace q2:=q2.b b4_15
   replace hA:=hA.b b4_15
   replace hM:=hM.b b4_15
   replace hR:=hR.b b4_15
   replace q3:=q3.b b4_15
   replace hV:=hV.b b4_15
   replace hU:=hU.b b4_15
   replace q4:=q4.b b4_15
   replace hB:=bOn hB b4_15
   obtain⟨s5,A5,L5,C5,D5,M5,E5,rfl,q5⟩:=q5.opn
   go_wp2_with fail
   refine hK.out _ _ ?_ fun hHeld=>?_
   ·exact⟨hV.cell 0,hV.cell 1,hV.cell 2,hA.cell 0,hA.cell 1,hA.cell 2,hM.cell 0,hM.cell 1,hM.cell 2⟩
   clear hK K
   try simp only[lay]
   refine rd1 5 rfl fun K hK=>?_
   go_simp
   refine (hCe _ _ q5).mono ?_
   rintro e u4_16 ⟨v6,rfl,z6,b4_16⟩
   replace q1:=q1.b b4_16
   replace q2:=q2.b b4_16
   replace hA:=hA.b b4_16
   replace hM:=hM.b b4_16
   replace hR:=hR.b b4_16
   replace q3:=q3.b b4_16
   replace hV:=hV.b b4_16
   replace hU:=hU.b b4_16
   replace q4:=q4.b b4_16
   replace q5:=q5.b b4_16
   replace hB:=bOn hB b4_16
   obtain⟨s6,A6,L6,C6,rfl,z6⟩:=z6.opn
   go_wp2_with fail
   refine hK.out _ _ ?_ fun hHeld=>?_
   ·exact⟨hV.cell 0,hV.cell 1,hV.cell 2,hA.cell 0,hA.cell 1,hA.cell 2,hM.cell 0,hM.cell 1,hM.cell 2⟩
   clear hK K
   refine tkA 6 rfl ?_
   refine tkA 7 rfl ?_
   refine tkA 8 rfl ?_
   try simp only[lay]
   refine rd1 10 rfl fun K hK=>?_
   obtain⟨u4_17,eu,hU',kz,kb,kB⟩:=fill2 hU (.bool s6) (.slice A6 L6 C6) (by simp[noU])
   obtain⟨x0,x1⟩:=hU.q2
   have xf:=hU.frozen
   go_simp
   rw[←eu]
   replace q1:=q1.filled kz
   replace q2:=q2.filled kz
   replace hA:=kb _ _ _ hA (by omega)
   replace hM:=kb _ _ _ hM (by omega)
   replace hR:=kb _ _ _ hR (by omega)
   replace q3:=q3.filled kz
   replace hV:=kb _ _ _ hV (by omega)
   replace q4:=q4.filled kz
   replace q5:=q5.filled kz
   replace z6:=z6.filled kz
   replace hB:=kB _ _ (by omega) hB
   replace hU:=hU'
   clear hU' kz kb kB eu xf x0 x1
   refine hK.out _ _ ?_ fun hHeld=>?_
   ·exact⟨hV.cell 0,hV.cell 1,hV.cell 2,hA.cell 0,hA.cell 1,hA.cell 2,hM.cell 0,hM.cell 1,hM.cell 2⟩
   clear hK K
   refine tkA 11 rfl ?_
   try simp only[lay]
   refine wpAnyH_done (by kernel_rfl) ?_ _
   refine NoPanic.normal ?_
   go_wp2_with fail
   go_meet
   exact⟨X9,s6,A6,L6,C6,rfl,hR,z6,hU,hB,lX9,(by assumption)⟩
 obtain⟨X9,s6,A6,L6,C6,rfl,hR,z6,hU,hB,lX9,dX9_hR⟩:=hcut
 obtain⟨c30,c31,c32⟩:=hR.q3
 obtain⟨c33,c34⟩:=hU.q2
 go_wp2_with fail
 refine (hBk _ _ z6).mono ?_
 rintro e w7 ⟨v7,rfl,q7,b7⟩
 replace hR:=hR.b b7
 replace z6:=z6.b b7
 replace hU:=hU.b b7
 replace hB:=bOn hB b7
 clear c30 c31 c32 c33 c34
 obtain⟨c35,c36,c37⟩:=hR.q3
 obtain⟨c38,c39⟩:=hU.q2
 obtain⟨s7,A7,L7,C7,D7,M7,E7,rfl,q7⟩:=q7.opn
 obtain⟨p1,p2,p3⟩:=put3 hR (.bool s7) (.slice A7 L7 C7) (.slice D7 M7 E7) (by simp[noU]) hB (by omega)
 have rc0:World.cell? _ ⟨g+1+1,0,none⟩=some (.bool false):=hR.cell 0
 have rf0:=hR.frozen 0
 have rc1:World.cell? _ ⟨g+1+1,1,none⟩=some (.slice none 0 0):=hR.cell 1
 have rf1:=hR.frozen 1
 have rc2:World.cell? _ ⟨g+1+1,2,none⟩=some (.slice none 0 0):=hR.cell 2
 have rf2:=hR.frozen 2
 have P:=Lib.hid (And.intro (q7.kept p2) (And.intro p3 p1.cells3))
 clear p1 p2 p3
 go_wp2_with fail
 obtain⟨P1,P2,P3,P4,P5⟩:=P.out
 exact bodyPost_ret (v:= .tuple #[.agg #[.bool s7,.slice A7 L7 C7,.slice D7 M7 E7],.int .i64 0]) (by simp[results,Tryz.results17,go_sem,P3,P4,P5]) rfl ⟨_,rfl,P1,P2⟩
end Go.Proofs.YtdnjdglekifhpaaGreat
