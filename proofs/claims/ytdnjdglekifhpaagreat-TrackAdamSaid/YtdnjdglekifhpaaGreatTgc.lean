/- A part of the proof of: ADAM: against the real moments of the same gradients, from noughts on, kept moments are never farther away than their bounds, step by step. No conditions: every input. -/
import Derived.Sort.QuietIn
import Derived.Lib.MinMax
import Derived.Maps.OwnIn
import Derived.Outline
import Derived.Deep.DeepMust
import Derived.Deep.DeepCutAuto
import Derived.WalkLawsBesides
import Derived.Tactics
import Derived.Defers
import Derived.Recover
import Derived.WalkKit
import Derived.Test.YtdnjdglekifhpaaGreatTgb
set_option maxRecDepth 100000
set_option maxHeartbeats 8000000
namespace Go.Proofs.YtdnjdglekifhpaaGreat
open Go.RowKit Go.Shelf
attribute [local go_sem] Oper.semAt_some
abbrev Prt (z:Nat) (l:List Int):={ i:Nat // i*z<l.length }
def partV (A:Option Addr) (z n i:Nat):Value:= .slice (A.map fun ad=>ad.add (i*z)) (min z (n - i*z)) (min z (n - i*z))
theorem IsI.part {w:World} {A:Option Addr} {c z i:Nat} {l:List Int} (h:IsI w (.slice A l.length c) l) (hi:i*z<l.length):IsI w (partV A z l.length i) (partZ z l i):=by
 obtain⟨A',c',e,h1,h2,hr⟩:=h
 obtain⟨rfl,_,rfl⟩:=Value.slice.inj e
 obtain⟨ad,rfl,hb,hc⟩:=hr.2 (by omega)
 have hl:=partZ_len z l i
 refine ⟨some (ad.add (i*z)),min z (l.length - i*z),by rw[hl];rfl,by rw[hl];exact Nat.le_refl _,by omega,by rw[is_len,Nat.mul_one],fun h0=>⟨_,rfl,by rw[block_of_add];exact hb,fun j u hu=>?_⟩⟩
 have hj:j<(partZ z l i).length:=by
  rcases Nat.lt_or_ge j (partZ z l i).length with h' | h'
  ·exact h'
  ·rw[List.getElem?_eq_none (by rw[is_len];exact h')] at hu;cases hu
 rw[is_at _ j hj] at hu
 obtain rfl:=Option.some.inj hu
 rw[add_of_add]
 have hjz:j<z:=by rw[hl] at hj;omega
 have hil:i*z+j<l.length:=by rw[hl] at hj;omega
 have:=hc (i*z+j) _ (is_at l (i*z+j) hil)
 rw[this]
 have e2:iat (partZ z l i) j=iat l (i*z+j):=by unfold iat;rw[partZ_at z l i j hjz]
 rw[e2]
theorem chunk_in (n:Nat) (A:Option Addr) (m c z:Nat) (hz:1≤z) (w:World):
 CallsIn Fence.wide n Tryz.prog 98 #[.slice A m c,.int .i64 z] w fun e w'=>e= .returned (.func (.func 158) #[] #[.pointer (some ⟨w.heap.size,0,none⟩),.pointer (some ⟨w.heap.size+1,0,none⟩)])∧
  w'=(w.alloc (.cells #[.slice A m c] 62)).alloc (.cells #[.int .i64 z] 3):=by
 refine callsIn_wide.2 ?_
 have hmf:∀(fn:Fn) (first cap:Array Value) (w:World),(Instr.makeFunc fn first cap).run Tryz.prog w= .ok (.func fn first cap) w:=fun _ _ _ _=>rfl
 have h1:(1:Int)≤(z:Int):=by omega
 go_enter Tryz.func98,Tryz.ntmps98
 go_wp2
 go_ret
 exact⟨rfl,rfl⟩
theorem chunk1_in (lr Bs n₀ c z:Nat) (hz:1≤z) (hz2:z≤4096) (A:Option Addr) (l:List Int) (hl:l.length≤4096) (w0:World) (hv:IsI w0 (.slice A l.length c) l) (J Jx:List (Prt z l)→World→Prop) (hJd:∀pre W n,J pre W→J pre (W.drewN n))
 (hY : ∀ pre x W, J pre W → pre.length < partN z l.length → YieldAt Fence.wide (8 - 1) Tryz.prog lr #[partV A z l.length x.1] W fun e W' =>
  (e= .returned (.bool true)∧J (pre++[x]) W'∧KR n₀ Bs (Bs+2) W W')∨(e= .returned (.bool false)∧Jx (pre++[x]) W'))
 (W:World) (h1:W.cell? ⟨Bs,0,none⟩=some (.slice A l.length c)) (h2:W.cell? ⟨Bs+1,0,none⟩=some (.int .i64 z)) (h0:J [] W):
 CallsIn Fence.wide 8 Tryz.prog 158 #[.func (.yield lr) #[] #[],.pointer (some ⟨Bs,0,none⟩),.pointer (some ⟨Bs+1,0,none⟩)] W fun e W'=>(∃v,e= .returned v)∧
  ((∃ys:List (Prt z l),ys.map (·.1)=List.range (partN z l.length)∧J ys W')∨(∃pre:List (Prt z l),(∃k,k≤partN z l.length∧pre.map (·.1)=List.range k)∧Jx pre W')):=by
 obtain⟨A',c',e,hc1,hc2,hr⟩:=hv
 obtain⟨rfl,_,rfl⟩:=Value.slice.inj e
 obtain⟨N,hN⟩:∃N,N=partN z l.length:=⟨_,rfl⟩
 have hlt_iff:Hid (∀i,i<N↔i*z<l.length):=Lib.hid fun i=>by rw[hN];exact partN_lt hz
 have hall:Hid (l.length≤N*z):=Lib.hid (by rw[hN];exact partN_all hz)
 rw[←hN] at hY ⊢
 clear hN
 refine callsIn_of_wp Tryz.func158 rfl trivial ?_ rfl
 simp only[Tryz.ntmps158,List.size_toArray,List.length_cons,List.length_nil,Nat.reduceAdd,Nat.reduceSub,Array.replicate_succ,Array.replicate_zero,List.push_toArray,List.append_toArray,List.nil_append,List.cons_append]
 gi_wp2
 gi_loopw [4] (fun i wr=>∃(k q:Nat) (pre:List (Prt z l)),k≤N∧Hid (q=k*z)∧q≤8192∧i= .int .i64 q∧Hid (pre.map (·.1)=List.range k)∧J pre wr∧KR n₀ Bs (Bs+2) W wr)
  (fun i _=>8192 - (intOf i).toNat)
 case atStart=>exact⟨0,0,[],Nat.zero_le _,Lib.hid (by omega),by omega,by simp,Lib.hid rfl,h0,KR.refl _ _ _ _⟩
 case round=>
  obtain⟨k,q,pre,hk,hq,hq2,rfl,hpre,hJs,hnx⟩:=hrel
  have g1:=(hnx.cell (by omega) (by omega)).trans h1
  have g2:=(hnx.cell (by omega) (by omega)).trans h2
  by_cases hlt:q<l.length
  ·have hkN:k<N:=(hlt_iff.out k).2 (by rw[←hq.out];exact hlt)
   obtain⟨ad,rfl,hb,hcx⟩:=hr.2 (by omega)
   obtain⟨m,hm⟩:∃m:Nat,m=min z (l.length - q):=⟨_,rfl⟩
   have hmin:min (z:Int) ((l.length - q:Nat):Int)=(m:Int):=by omega
   have j0:(0:Int)≤(q:Int):=by omega
   have j1:(q:Int)≤(l.length:Int):=by omega
   have j2:(l.length:Int)≤(c:Int):=by omega
   have j3:(q:Int)<(l.length:Int):=by omega
   have j4:(q:Int)+(m:Int)≤(l.length:Int):=by omega
   have j5:(0:Int)<(m:Int):=by omega
   have j8:0<m:=by omega
   have j9:(q:Int)<(c:Int):=by omega
   have j10:q<c:=by omega
   have j11:(q:Int)<(q:Int)+(m:Int):=by omega
   have j6:(q:Int)+(m:Int)≤(c:Int):=by omega
   have j7:(q:Int)≤(q:Int)+(m:Int):=by omega
   have HM:=Lib.hid hm
   have HMIN:=Lib.hid hmin
   clear hm hmin
   gi_wp2_with fail
   gi_quiet (fail)
   rw[HMIN.out]
   obtain⟨fn,tmps,assign,body,hy,hR⟩:=hY pre ⟨k,by rw[←hq.out];exact hlt⟩ (wr.drewN nq) (hJd _ _ _ hJs) (by have:=congrArg List.length hpre.out;rw[List.length_map,List.length_range] at this;omega)
   dsimp only[partV,Option.map] at hy
   rw[←hq.out,←HM.out] at hy
   have hnew:Hid ((pre++[(⟨k,by rw[←hq.out];exact hlt⟩:Prt z l)]).map (·.1)=List.range (k+1)):=Lib.hid (by rw[List.map_append,hpre.out,List.range_succ];rfl)
   generalize (⟨k,by rw[←hq.out];exact hlt⟩:Prt z l)=x at hR hnew
   gi_wp2_with fail
   have hq3:Hid (q+z=(k+1)*z):=Lib.hid (by rw[hq.out,Nat.succ_mul])
   refine hR.mono ?_
   rintro e W3 (⟨rfl,hJ3,hk3⟩ | ⟨rfl,hJx3⟩)
   ·have hnx3:KR n₀ Bs (Bs+2) W W3:=KR.trans ⟨below_drewN hnx.low nq,hnx.mid⟩ hk3
    have g3:=(hnx3.cell (by omega) (by omega)).trans h2
    gi_wp2
    exact⟨⟨k+1,q+z,_,by omega,hq3,by omega,by go_num,hnew,hJ3,hnx3⟩,by simp[intOf];omega⟩
   ·gi_wp2
    refine bodyPost_ret (results_none rfl _ _ _) rfl ?_
    exact⟨⟨_,rfl⟩,.inr ⟨_,⟨k+1,by omega,hnew.out⟩,hJx3⟩⟩
  ·obtain rfl:k=N:=by
    rcases Nat.lt_or_ge k N with h | h
    ·have:=(hlt_iff.out k).1 h;rw[←hq.out] at this;exact absurd this hlt
    ·omega
   gi_wp2
   go_end0
   exact⟨⟨_,rfl⟩,.inl ⟨_,hpre.out,hJs⟩⟩
theorem chunk_stops (Bs n₀ c z:Nat) (hz:1≤z) (hz2:z≤4096) (A:Option Addr) (l:List Int) (hl:l.length≤4096) (w0:World) (hv:IsI w0 (.slice A l.length c) l) (w:World) (hB:Bs+1<w.heap.size)
 (h1:w.cell? ⟨Bs,0,none⟩=some (.slice A l.length c)) (h2:w.cell? ⟨Bs+1,0,none⟩=some (.int .i64 z)):
 SeqStopsK Fence.wide 8 Tryz.prog 158 #[.pointer (some ⟨Bs,0,none⟩),.pointer (some ⟨Bs+1,0,none⟩)] (fun x:Prt z l=> #[partV A z l.length x.1]) (KR n₀ Bs (Bs+2))
  (fun ys=>ys.map (·.1)=List.range (partN z l.length)) (fun pre=>∃k,k≤partN z l.length∧pre.map (·.1)=List.range k) (partN z l.length) w:=fun lr J Jx W hW hJ _ hY h0=>
 chunk1_in lr Bs n₀ c z hz hz2 A l hl w0 hv J Jx (fun pre W n h=>hJ _ W (W.drewN n) none h ⟨rfl,rfl,rfl,Nat.le_refl _,fun _ _ _=>rfl⟩ (fun r e=>by cases e)) hY W
  ((hW.cell (p:=⟨Bs,0,none⟩) (by simp;omega)).trans h1) ((hW.cell (p:=⟨Bs+1,0,none⟩) (by simp;omega)).trans h2) h0
theorem odd_four (p:List Int):oddP 4 p=p.any (oddB true):=rfl
theorem odd_kind {kk:Int} (h:kk≠4) (p:List Int):oddP kk p=p.any (oddB (sgn kk)):=by
 have e4:(kk == 4)=false:=by rw[beq_eq_false_iff_ne];exact h
 unfold oddP;rw[e4,Bool.false_or]
theorem pack_bad (kk:Int) (v:Value) (p:List Int) (w:World) (h:IsI w v p) (hk:0≤kk∧kk≤4) (ho:oddP kk p=true):
 Calls Tryz.prog 101 #[.int .i64 kk,v] w fun e w'=>∃b,e= .returned (.tuple #[b,.int .i64 1])∧IsBk w' b 0 0 [] []∧Below w.heap.size w w':=by
 by_cases k4:kk=4
 ·exact pack_oddw kk v p w h k4 (by rw[k4,odd_four] at ho;exact ho)
 ·exact pack_odd kk v p w h (by omega) (by rw[odd_kind k4] at ho;exact ho)
theorem pack_good (kk:Int) (v:Value) (p:List Int) (w:World) (h:IsI w v p) (hk:0≤kk∧kk≤4) (hl:p.length≤4096) (hi:∀x∈p,I64 x) (ho:oddP kk p=false):
 Calls Tryz.prog 101 #[.int .i64 kk,v] w fun e w'=>∃b,e= .returned (.tuple #[b,.int .i64 0])∧IsBk w' b (bkOf kk p).1 (bkOf kk p).2.1 (bkOf kk p).2.2.1 (bkOf kk p).2.2.2∧Below w.heap.size w w'∧FreshB w.heap.size b:=by
 unfold bkOf
 by_cases k4:kk=4
 ·rw[if_pos k4]
  exact pack_wideF kk v p w h k4 hl (by rw[k4,odd_four] at ho;exact ho)
 ·rw[if_neg k4]
  obtain⟨n,rfl⟩:=Int.eq_ofNat_of_zero_le hk.1
  exact pack_codedF n v p w h n (by omega) rfl hl hi (by rw[odd_kind k4] at ho;exact ho)
theorem box4t (w:World) (t1 t2 t3 t4:TypeId) (c1 c2 c3 c4:Array Value):∃W,W=(((w.alloc (.cells c1 t1)).alloc (.cells c2 t2)).alloc (.cells c3 t3)).alloc (.cells c4 t4)∧Blk W w.heap.size t1 c1∧Blk W (w.heap.size+1) t2 c2∧Blk W (w.heap.size+1+1) t3 c3∧Blk W (w.heap.size+1+1+1) t4 c4∧Below w.heap.size w W:=by
 have h2:=Blk.new (w.alloc (.cells c1 t1)) t2 c2
 have h3:=Blk.new ((w.alloc (.cells c1 t1)).alloc (.cells c2 t2)) t3 c3
 have h4:=Blk.new (((w.alloc (.cells c1 t1)).alloc (.cells c2 t2)).alloc (.cells c3 t3)) t4 c4
 simp only[World.size_alloc] at h2 h3 h4
 exact⟨_,rfl,(((Blk.new w t1 c1).alloc _).alloc _).alloc _,(h2.alloc _).alloc _,h3.alloc _,h4,((((Below.refl _ w).alloc (Nat.le_refl _) _).alloc (by simp) _).alloc (by simp;omega) _).alloc (by simp;omega) _⟩
def bkP (k m o:Int) (Z:Nat) (l:List Int) (i:Nat):Bk:=bkOf (kindOf k m o l.length (partZ Z l i)) (partZ Z l i)
def oddPi (k m o:Int) (Z:Nat) (l:List Int) (i:Nat):Bool:=oddP (kindOf k m o l.length (partZ Z l i)) (partZ Z l i)
def OfI (k m o:Int) (Z:Nat) (A:Option Addr) (c:Nat) (l:List Int) (g X b:Nat) (ps:List Nat) (W:World):Prop:=
 (∃v,Blk W X 26 #[.int .i64 k,.int .i64 Z,.int .i64 m,.int .i64 o,.int .i64 l.length,v]∧OwnBs W b b v (ps.map (bkP k m o Z l)))∧(∀i∈ps,oddPi k m o Z l i=false)∧
 Blk W g 23 #[.int .i64 k,.int .i64 Z,.int .i64 m,.int .i64 o]∧Blk W (g+1) 62 #[.slice A l.length c]∧
 Blk W (g+1+1) 26 #[.int .i64 0,.int .i64 0,.int .i64 0,.int .i64 0,.int .i64 0,.slice none 0 0]∧Blk W (g+1+1+1) 42 #[.int .i64 0]
def OfX (k m o:Int) (Z:Nat) (l:List Int) (g:Nat) (ps:List Nat) (W:World):Prop:=
 (∃i∈ps,oddPi k m o Z l i=true)∧Blk W (g+1+1) 26 #[.int .i64 0,.int .i64 0,.int .i64 0,.int .i64 0,.int .i64 0,.slice none 0 0]∧Blk W (g+1+1+1) 42 #[.int .i64 1]
section
variable {X Y:World} {row:Option Nat}
theorem blk_own {g:Nat} {t:TypeId} {cs:Array Value} (h:Blk X g t cs) (hg:X.grownBy Y row) (hr:∀r,row=some r→∃o:Obj,X.heap[r]?=some o∧o.isCells=false):Blk Y g t cs:=
 h.grown hg fun e=>by
  obtain⟨o,ho,hc⟩:=hr g e.symm
  unfold Blk at h;rw[h] at ho;cases ho;cases hc
theorem away_own {v:Value} {A:Option Addr} {n c m:Nat} {xs:List Value} (_:v= .slice A n c) (h:Reads X X.heap.size 1 A m xs) (hm:0<m) (hxs:xs.length=m) (hr:∀r,row=some r→∃o:Obj,X.heap[r]?=some o∧o.isCells=false):∀g,row=some g→v.ownBlock≠some g:=by
 intro g e e2
 subst v
 obtain⟨ad,rfl,hb,hc⟩:=h.2 hm
 have e3:ad.block=g:=by simpa [Value.ownBlock] using e2
 obtain⟨o,ho,hcl⟩:=hr g e
 have:=hc 0 xs[0] (List.getElem?_eq_getElem (by omega))
 have hbk:(ad.add 0).block=g:=by rw[block_of_add];exact e3
 unfold World.cell? at this
 rw[hbk,ho] at this
 cases o<;>simp_all [Obj.isCells]
theorem IsI.ownr {v:Value} {l:List Int} (h:IsI X v l) (hg:X.grownBy Y row) (hr:∀r,row=some r→∃o:Obj,X.heap[r]?=some o∧o.isCells=false):IsI Y v l:=
 h.grownF hg fun g e=>by
  obtain⟨A,c,e1,h1,h2,h4⟩:=h
  rcases List.eq_nil_or_concat l with rfl | ⟨_,_,rfl⟩
  ·exact .inl rfl
  ·exact .inr (away_own e1 h4 (by simp) (by rw[is_len]) hr g e)
theorem IsY.ownr {v:Value} {l:List Nat} (h:IsY X v l) (hg:X.grownBy Y row) (hr:∀r,row=some r→∃o:Obj,X.heap[r]?=some o∧o.isCells=false):IsY Y v l:=
 h.grownF hg fun g e=>by
  obtain⟨A,c,e1,h1,h2,h3,h4⟩:=h
  rcases List.eq_nil_or_concat l with rfl | ⟨_,_,rfl⟩
  ·exact .inl rfl
  ·exact .inr (away_own e1 h4 (by simp) (by rw[ys_len]) hr g e)
theorem OwnBs.ownr {b fl:Nat} {v:Value} {bs:List Bk} (h:OwnBs X b fl v bs) (hg:X.grownBy Y row) (hr:∀r,row=some r→∃o:Obj,X.heap[r]?=some o∧o.isCells=false):OwnBs Y b fl v bs:=by
 obtain⟨es,h1,h2,h3,h4⟩:=h
 refine ⟨es,h1,fun e he=>⟨(h2 e he).1.ownr hg hr,(h2 e he).2.ownr hg hr⟩,h3,h4.kept hg ?_⟩
 rcases h4.2 with ⟨rfl,_⟩ | ⟨g,cap,cur,rfl,_,hh,_⟩
 ·exact .inl rfl
 ·right
  intro e
  obtain⟨o,ho,hc⟩:=hr g (by rw[←e];rfl)
  rw[hh] at ho;cases ho;cases hc
theorem OfI.own {k m o:Int} {Z:Nat} {A:Option Addr} {c:Nat} {l:List Int} {g x b:Nat} {ps:List Nat} (h:OfI k m o Z A c l g x b ps X) (hg:X.grownBy Y row) (hr:∀r,row=some r→∃o:Obj,X.heap[r]?=some o∧o.isCells=false):OfI k m o Z A c l g x b ps Y:=by
 obtain⟨⟨v,h1,h2⟩,h3,h4,h5,h6,h7⟩:=h
 exact⟨⟨v,blk_own h1 hg hr,h2.ownr hg hr⟩,h3,blk_own h4 hg hr,blk_own h5 hg hr,blk_own h6 hg hr,blk_own h7 hg hr⟩
theorem OfX.own {k m o:Int} {Z:Nat} {l:List Int} {g:Nat} {ps:List Nat} (h:OfX k m o Z l g ps X) (hg:X.grownBy Y row) (hr:∀r,row=some r→∃o:Obj,X.heap[r]?=some o∧o.isCells=false):OfX k m o Z l g ps Y:=
 ⟨h.1,blk_own h.2.1 hg hr,blk_own h.2.2 hg hr⟩
end
theorem of_main (k m o:Int) (Z:Nat) (A:Option Addr) (c:Nat) (l:List Int) (w:World) (h:IsI w (.slice A l.length c) l) (hmay:mayB k Z m o=true) (z1:1≤Z) (z2:Z≤4096) (hl:l.length≤4096) (hi:∀x∈l,I64 x):
 CallsIn Fence.wide 9 Tryz.prog 37 #[.agg #[.int .i64 k,.int .i64 Z,.int .i64 m,.int .i64 o],.slice A l.length c] w fun e w'=>∃x,e= .returned (.tuple #[.agg #[.int .i64 (ofS k Z m o l).1,.int .i64 (ofS k Z m o l).2.1,.int .i64 (ofS k Z m o l).2.2.1,.int .i64 (ofS k Z m o l).2.2.2.1,.int .i64 (ofS k Z m o l).2.2.2.2.1,x],.int .i64 (ofE k Z m o l)])∧OwnBs w' w.heap.size w.heap.size x (ofS k Z m o l).2.2.2.2.2∧Below w.heap.size w w':=by
 obtain⟨i0,hi0,hz0,hz1,hz2⟩:=info_parts info_blk
 have hM:=fun n w=>(callsIn_wide (n:=n)).2 (tmay_any k Z m o w)
 rw[hmay] at hM
 have hl1:decide ((4096:Int)<(l.length:Int))=false:=decide_eq_false (by omega)
 have hl2:decide (4096<l.length)=false:=decide_eq_false (by omega)
 obtain⟨W0,hW,hK,hL,hS,hE,hB⟩:=box4t w 23 62 26 42 #[.int .i64 k,.int .i64 Z,.int .i64 m,.int .i64 o] #[.slice A l.length c] #[.int .i64 0,.int .i64 0,.int .i64 0,.int .i64 0,.int .i64 0,.slice none 0 0] #[.int .i64 0]
 have hW':=Lib.hid hW
 clear hW
 have k0:=hK.cell 0
 have k1:=hK.cell 1
 have k2:=hK.cell 2
 have k3:=hK.cell 3
 have l0:=hL.cell 0
 refine callsIn_of_wp_marks Tryz.func37 rfl trivial ?_ rfl
 simp only[Tryz.ntmps37,List.size_toArray,List.length_cons,List.length_nil,Nat.reduceAdd,Nat.reduceSub,Array.replicate_succ,Array.replicate_zero,List.push_toArray,List.append_toArray,List.nil_append,List.cons_append]
 gi_wp2_with (refine ⟨trivial,?_⟩;gi_at_call 97;rw[←hW'.out];refine (hM _ _).mono ?_;rintro e w1 ⟨rfl,b1⟩;have hK1:=hK.below b1 hK.lt;have hL1:=hL.below b1 hL.lt;have y0:=hK1.cell 0;have y1:=hK1.cell 1;have y2:=hK1.cell 2;have y3:=hK1.cell 3;have y4:=hL1.cell 0;have hK2:=hK1.alloc (.cells #[.int .i64 k,.int .i64 Z,.int .i64 m,.int .i64 o,.int .i64 l.length,.slice none 0 0] 26);have hL2:=hL1.alloc (.cells #[.int .i64 k,.int .i64 Z,.int .i64 m,.int .i64 o,.int .i64 l.length,.slice none 0 0] 26);have x1:=hK2.cell 1;have x4:=hL2.cell 0)
 refine ⟨trivial,?_⟩
 refine (chunk_in _ _ _ _ _ z1 _).mono ?_
 rintro e w' ⟨rfl,rfl⟩
 gi_wp2_with fail
 have hR3:=(((Blk.new w1 26 #[.int .i64 k,.int .i64 Z,.int .i64 m,.int .i64 o,.int .i64 l.length,.slice none 0 0]).alloc (.cells #[.slice A l.length c] 62)).alloc (.cells #[.int .i64 Z] 3))
 have hK3:=(hK2.alloc (.cells #[.slice A l.length c] 62)).alloc (.cells #[.int .i64 Z] 3)
 have hL3:=(hL2.alloc (.cells #[.slice A l.length c] 62)).alloc (.cells #[.int .i64 Z] 3)
 have hS3:=(((hS.below b1 hS.lt).alloc (.cells #[.int .i64 k,.int .i64 Z,.int .i64 m,.int .i64 o,.int .i64 l.length,.slice none 0 0] 26)).alloc (.cells #[.slice A l.length c] 62)).alloc (.cells #[.int .i64 Z] 3)
 have hE3:=(((hE.below b1 hE.lt).alloc (.cells #[.int .i64 k,.int .i64 Z,.int .i64 m,.int .i64 o,.int .i64 l.length,.slice none 0 0] 26)).alloc (.cells #[.slice A l.length c] 62)).alloc (.cells #[.int .i64 Z] 3)
 have hC3:=(Blk.new (w1.alloc (.cells #[.int .i64 k,.int .i64 Z,.int .i64 m,.int .i64 o,.int .i64 l.length,.slice none 0 0] 26)) 62 #[.slice A l.length c]).alloc (.cells #[.int .i64 Z] 3)
 have hD3:=Blk.new ((w1.alloc (.cells #[.int .i64 k,.int .i64 Z,.int .i64 m,.int .i64 o,.int .i64 l.length,.slice none 0 0] 26)).alloc (.cells #[.slice A l.length c] 62)) 3 #[.int .i64 Z]
 simp only[World.size_alloc] at hC3 hD3
 have hB1:=hB.trans (b1.mono hB.size)
 have hB3:=((hB1.alloc hB1.size (.cells #[.int .i64 k,.int .i64 Z,.int .i64 m,.int .i64 o,.int .i64 l.length,.slice none 0 0] 26)).alloc (by have:=hB1.size;simp;omega) (.cells #[.slice A l.length c] 62)).alloc (by have:=hB1.size;simp;omega) (.cells #[.int .i64 Z] 3)
 have hwX:w.heap.size+1+1+1<w1.heap.size:=by have:=hE.lt;have:=b1.size;omega
 obtain⟨W1,hW1⟩:∃W1,W1=((w1.alloc (.cells #[.int .i64 k,.int .i64 Z,.int .i64 m,.int .i64 o,.int .i64 l.length,.slice none 0 0] 26)).alloc (.cells #[.slice A l.length c] 62)).alloc (.cells #[.int .i64 Z] 3):=⟨_,rfl⟩
 have hsz:W1.heap.size=w1.heap.size+1+1+1:=by rw[hW1];simp
 rw[←hW1] at hR3 hK3 hL3 hS3 hE3 hC3 hD3 hB3 ⊢
 clear hW1 x1 x4 y0 y1 y2 y3 y4 k0 k1 k2 k3 l0 hK2 hL2 hK1 hL1 hK hL hS hE hB hB1 hW' hM b1
 have hcc:=hC3.cell 0
 have hcd:=hD3.cell 0
 generalize w1.heap.size=X at *
 refine wpIn_rangeFunc_ownG (n:=9) rfl (by omega) (gf:=158) (lb:= #[.pointer (some ⟨X+1,0,none⟩),.pointer (some ⟨X+1+1,0,none⟩)]) rfl trivial (enters_of Tryz.func158 (by kernel_rfl) rfl)
  (chunk_stops (X+1) w.heap.size c Z z1 z2 A l hl w h W1 (by omega) hcc hcd) KR.trans (KR.put (by omega) (by omega)) (Below.refl _ _) (fun _=>rfl)
  (fun pre W=>OfI k m o Z A c l w.heap.size X W1.heap.size (pre.map (·.1)) W∧(Below w.heap.size w W∧W1.heap.size≤W.heap.size))
  (fun cd pre W=>(cd= .ret∧OfX k m o Z l w.heap.size (pre.map (·.1)) W)∧Below w.heap.size w W)
  ?oI ?oX ?st ?a1 ?assign ?body ?done ?stop
 case assign=>
  intro lr x W K hK
  gi_wp2
  exact hK
 case oI=>exact OwnFrom.and (Own.from (show Own (fun (s:List (Prt Z l)) (W:World)=>OfI k m o Z A c l w.heap.size X W1.heap.size (s.map (·.1)) W) from fun s X Y row hs hg hr=>OfI.own hs hg hr) _) (OwnFrom.and (ownFrom_below (by omega) (by omega)) (Own.from (show Own (fun (_:List (Prt Z l)) (W:World)=>W1.heap.size≤W.heap.size) from fun s X Y row hs hg hr=>Nat.le_trans hs hg.size) _))
 case oX=>exact fun cd=>OwnFrom.and (Own.from (show Own (fun (s:List (Prt Z l)) (W:World)=>cd= .ret∧OfX k m o Z l w.heap.size (s.map (·.1)) W) from fun s X Y row hs hg hr=>⟨hs.1,OfX.own hs.2 hg hr⟩) _) (ownFrom_below (by omega) (by omega))
 case st=>exact⟨⟨⟨_,hR3,OwnBs.nil _ _ _⟩,fun _ h=>(nomatch h),hK3,hL3,hS3,hE3⟩,hB3,Nat.le_refl _⟩
 case body=>
  rintro lr pre x W ⟨⟨⟨v,hR,hown⟩,hodd,hK,hL,hS,hE⟩,hBel,hWs⟩ hlt
  have hp:=(h.below hBel).part x.2
  have hpi:∀y∈partZ Z l x.1,I64 y:=fun y hy=>hi y (partZ_mem hy)
  have hpl:(partZ Z l x.1).length≤4096:=by have:=partZ_len Z l x.1;omega
  obtain⟨xi,hxi⟩:∃y,y=x.1:=⟨_,rfl⟩
  obtain⟨ps,hps⟩:∃y,y=pre.map (fun y:Prt Z l=>y.1):=⟨_,rfl⟩
  have hnew:(pre++[x]).map (fun y:Prt Z l=>y.1)=ps++[xi]:=by rw[List.map_append,←hps,hxi];rfl
  have hplen:ps.length≤4096:=by have:=partN_le (z:=Z) (n:=l.length) z1;rw[hps,List.length_map];omega
  have HNEW:=Lib.hid hnew
  rw[←hps] at hown hodd
  obtain⟨p,hpe⟩:∃p,p=partZ Z l xi:=⟨_,rfl⟩
  obtain⟨pv,hpv⟩:∃pv,pv=partV A Z l.length x.1:=⟨_,rfl⟩
  rw[←hxi,←hpe] at hp hpi hpl
  rw[hxi,←hpv] at hp
  have HPE:=Lib.hid hpe
  have HPV:=Lib.hid hpv
  try dsimp only
  rw[←hpv]
  clear hpe hpv hnew hlt hps hxi
  have hG:=fun w h=>tgreat_any pv p w h
  have hSt:=fun w=>tstays_any k Z m o l.length (greatW p) w
  obtain⟨kk,hkk,hk4⟩:∃kk,kk=kindOf k m o l.length p∧0≤kk∧kk≤4:=⟨_,rfl,by have:=mayB_iff.1 hmay;rcases kindOf_or (k:=k) (m:=m) (o:=o) l.length p with ⟨e,_⟩ | ⟨e,_⟩<;>rw[e]<;>omega⟩
  have hks:(kk=4∧staysB m o l.length (greatW p)=true)∨(kk=k∧staysB m o l.length (greatW p)=false):=by rw[hkk];exact kindOf_or _ _
  have HKK:=Lib.hid hkk
  clear hkk
  generalize staysB m o (l.length:Int) (greatW p)=sb at *
  generalize greatW p=gp at *
  have k0:=hK.cell 0
  have k1:=hK.cell 1
  have k2:=hK.cell 2
  have k3:=hK.cell 3
  have l0:=hL.cell 0
  have hmx:Tryz.prog.follows .mixedOrders=true:=by kernel_rfl
  have hGW:=(hG W.drew (hp.below (bdrew W))).mono (R':=fun e w'=>e= .returned (.int .i64 gp)∧w'=W.drew) (fun _ _ ⟨h,h'⟩=>⟨h,h'.symm⟩)
  have HGW:=Lib.hid hGW
  have HKS:=Lib.hid hks
  have HODD:=Lib.hid hodd
  clear hG hGW hks hodd
  gi_wp2_with fail
  refine wpInR_region_still_tail 5 hmx (by kernel_rfl) (by kernel_rfl) ?_
  simp only[List.take_succ_cons,List.take_zero,List.drop_succ_cons,List.drop_zero]
  iterate 4 still_step
  still_call HGW.out
  refine wpStill_nil ?_
  gi_wp2_with fail
  refine ⟨trivial,?_⟩
  refine (CallsIn.inRound lr (callsIn_wide.2 (hSt _))).mono ?_
  rintro e w2 ⟨rfl,b2⟩
  have B2:Below W.heap.size W w2:=bstep (bdrew W) b2
  have hp2:=hp.below B2
  clear hSt b2 k0 k1 k2 k3 l0 HGW
  rcases HKS.out with ⟨e4,rfl⟩ | ⟨e4,rfl⟩
  ·have hP1:=fun w h (ho:oddP kk p=true)=>pack_bad kk pv p w h hk4 ho
   have hP0:=fun w h (ho:oddP kk p=false)=>pack_good kk pv p w h hk4 hpl hpi ho
   rw[e4] at hP1 hP0 hk4
   have HKK':=Lib.hid (HKK.out.symm.trans e4)
   clear HKK HKS e4 hk4 kk
   cases ho:oddP 4 p
   ·have hP:=fun w h=>hP0 w h ho
    have hofb:Hid (bkP k m o Z l xi=bkOf 4 p):=Lib.hid (by unfold bkP;rw[←HPE.out,HKK'.out])
    have hofo:Hid (oddPi k m o Z l xi=false):=Lib.hid (by unfold oddPi;rw[←HPE.out,HKK'.out,ho])
    clear hP0 hP1 ho
    obtain⟨⟨bk,bs,bc,bw⟩,hbb⟩:∃b:Bk,b=bkOf 4 p:=⟨_,rfl⟩
    rw[←hbb] at hP hofb
    clear hbb
    gi_wp2_with fail
    refine ⟨trivial,?_⟩
    refine (CallsIn.inRound lr (callsIn_wide.2 (hP _ hp2))).mono ?_
    rintro e w3 ⟨b,rfl,⟨a1,a2,rfl,ha1,ha2⟩,b3,hfr⟩
    obtain⟨A1,C1,rfl,_,_⟩:=id ha1.form
    obtain⟨A2,C2,rfl,_,_⟩:=id ha2.form
    obtain⟨_,_,_,_,hfe,hf1,hf2⟩:=hfr
    obtain⟨rfl,rfl,rfl,rfl⟩:_∧_∧_∧_:=by simpa using hfe
    clear hfe hP
    have B3:=bstep B2 b3
    have hne:∀g,v.ownBlock=some g→g<w2.heap.size:=fun g e=>by
     obtain⟨es,_,_,_,hr⟩:=hown
     exact Nat.lt_of_lt_of_le (hr.lt g e).2 B2.size
    have B4:Below W.heap.size W (w3.alloc (.cells #[.int .i64 bk,.int .i64 bs,.slice A1 bc.length C1,.slice A2 bw.length C2] 103)):=balloc B3 _
    have hR4:=hR.below B4 hR.lt
    have hR5:=hR4.alloc (.cells #[.int .i64 bk,.int .i64 bs,.slice A1 bc.length C1,.slice A2 bw.length C2] 103)
    have hrow4:=hown.below B4
    have ha1':=ha1.below (balloc (Below.refl _ w3) (.cells #[.int .i64 bk,.int .i64 bs,.slice A1 bc.length C1,.slice A2 bw.length C2] 103))
    have ha2':=ha2.below (balloc (Below.refl _ w3) (.cells #[.int .i64 bk,.int .i64 bs,.slice A1 bc.length C1,.slice A2 bw.length C2] 103))
    have c5:=hR4.cell 5
    obtain⟨es,hes,hok,haw,hrow⟩:=hrow4
    have hlen:es.length≤4096:=by rw[←List.length_map (f:=fun e:Eb=>e.1),hes,List.length_map];exact hplen
    have hbase:W1.heap.size≤(w3.alloc (.cells #[.int .i64 bk,.int .i64 bs,.slice A1 bc.length C1,.slice A2 bw.length C2] 103)).heap.size:=Nat.le_trans hWs B4.size
    have hone:=flatB_one [((bk,bs,bc,bw),(.slice A1 bc.length C1:Value),(.slice A2 bw.length C2:Value))] (w:=w3) (fun e he=>by
     obtain rfl:=List.mem_singleton.1 he
     exact⟨ha1,ha2⟩)
    have hlc:=lit4_cells (w3.alloc (.cells #[.int .i64 bk,.int .i64 bs,.slice A1 bc.length C1,.slice A2 bw.length C2] 103)) 103 (.int .i64 bk) (.int .i64 bs) (.slice A1 bc.length C1) (.slice A2 bw.length C2)
    rw[World.size_alloc] at hlc
    have hwf:=wide_fn 101
    gi_wp2_with (gi_at_builtin;go_must (refine wpListIn_append_own_at _ rfl (.tmp 49) (.tmp 51) _ rfl W1.heap.size 103 i0 _ 4 64 Tryz.underlying24 hi0 hz0 hz1 hz2 rfl (by omega) _ _ (flatB es) rfl (hrow.alloc _) ⟨w3.heap.size+1,0,none⟩ 1 1 (flatB [((bk,bs,bc,bw),(.slice A1 bc.length C1:Value),(.slice A2 bw.length C2:Value))]) rfl rfl hlc hone (by unfold maxLen;omega) (by omega) (by rw[World.size_alloc];exact Nat.le_succ_of_le hbase) ?_;intro v' w6 hown' hgrow _ hat;obtain⟨A7,C7,rfl,_,_⟩:=own4_form hown';have hR6:=hR5.grown hgrow (fun e=>own4_typed (hrow.alloc _) hR5 (by decide) e.symm);have c6:=hR6.cell 5;have f6:=hR6.frozen 5))
    obtain⟨hbl,hko⟩:=below_grown4 hrow hbase hgrow
    have hwX:w.heap.size+1+1+1<X:=by assumption
    have hX1:X<W1.heap.size:=by omega
    have hpush:=OwnBs.push (fl:=W1.heap.size) (ns:=[((bk,bs,bc,bw),(.slice A1 bc.length C1:Value),(.slice A2 bw.length C2:Value))]) (hok.below (balloc (Below.refl _ _) (.cells #[.int .i64 bk,.int .i64 bs,.slice A1 bc.length C1,.slice A2 bw.length C2] 103))) haw
     (fun e he=>by obtain rfl:=List.mem_singleton.1 he;exact⟨ha1'.below (balloc (Below.refl _ _) _),ha2'.below (balloc (Below.refl _ _) _)⟩)
     (fun e he => by
      obtain rfl:=List.mem_singleton.1 he
      exact⟨fun g eg=>⟨.inr (hf1.ne (hne g eg)),.inr (hf2.ne (hne g eg))⟩,hf1.more (Nat.le_trans hWs B2.size),hf2.more (Nat.le_trans hWs B2.size)⟩) rfl hown' hgrow hat
    rw[hes] at hpush
    have hOB:=hpush.set (i:=5) hX1 hX1 (.slice A7 (es.length+1) C7)
    have hR7:=hR6.set_ 5 (.slice A7 (es.length+1) C7)
    have hK7:=((hK.below B4 hK.lt).below hbl (show w.heap.size<W1.heap.size by omega)).far (p:=⟨X,5,none⟩) (show w.heap.size≠X by omega) (.slice A7 (es.length+1) C7)
    have hL7:=((hL.below B4 hL.lt).below hbl (show w.heap.size+1<W1.heap.size by omega)).far (p:=⟨X,5,none⟩) (show w.heap.size+1≠X by omega) (.slice A7 (es.length+1) C7)
    have hS7:=((hS.below B4 hS.lt).below hbl (show w.heap.size+1+1<W1.heap.size by omega)).far (p:=⟨X,5,none⟩) (show w.heap.size+1+1≠X by omega) (.slice A7 (es.length+1) C7)
    have hE7:=((hE.below B4 hE.lt).below hbl (show w.heap.size+1+1+1<W1.heap.size by omega)).far (p:=⟨X,5,none⟩) (show w.heap.size+1+1+1≠X by omega) (.slice A7 (es.length+1) C7)
    refine ⟨?_,?_,?_⟩
    ·refine KeepsOthers.from (KeepsOthers.trans (KeepsOthers.trans ⟨B4.size,fun k o hk ho=>?_⟩ ⟨hbl.size,hko⟩) (KeepsOthers.setCell _ _ _)) _
     exact (B4.block k (Array.getElem?_eq_some_iff.1 hk).1).trans hk
    ·exact ((KR.of_below (B4.mono hWs) (by omega) (by omega)).trans (KR.of_below hbl (by omega) (by omega))).setAt (by omega) (.inl (by omega)) _
    ·refine ⟨⟨⟨_,by simpa using hR7,?_⟩,?_,hK7,hL7,hS7,hE7⟩,?_,?_⟩
     ·rw[HNEW.out,List.map_append]
      have e1:[xi].map (bkP k m o Z l)=[((bk,bs,bc,bw):Bk)]:=by simp[hofb.out]
      rw[e1];exact hOB
     ·rw[HNEW.out]
      intro i hi'
      rcases List.mem_append.1 hi' with h1 | h1
      ·exact HODD.out i h1
      ·rw[List.mem_singleton.1 h1];exact hofo.out
     ·exact ((hBel.trans (B4.mono hBel.size)).trans (hbl.mono (by omega))).setCell (p:=⟨X,5,none⟩) (by show w.heap.size≤X;omega) _
     ·simp[World.setCell];exact Nat.le_trans hbase hbl.size
   ·have hP:=fun w h=>hP1 w h ho
    have hofo:Hid (oddPi k m o Z l xi=true):=Lib.hid (by unfold oddPi;rw[←HPE.out,HKK'.out,ho])
    clear hP0 hP1 ho
    gi_wp2_with fail
    refine ⟨trivial,?_⟩
    refine (CallsIn.inRound lr (callsIn_wide.2 (hP _ hp2))).mono ?_
    rintro e w3 ⟨b,rfl,⟨a1,a2,rfl,ha1,ha2⟩,b3⟩
    obtain⟨A1,C1,rfl,_,_⟩:=id ha1.form
    obtain⟨A2,C2,rfl,_,_⟩:=id ha2.form
    have B3:=bstep B2 b3
    have B4:Below W.heap.size W (w3.alloc (.cells #[.int .i64 0,.int .i64 0,.slice A1 0 C1,.slice A2 0 C2] 103)):=balloc B3 _
    have hS4:=hS.below B4 hS.lt
    have hE4:=hE.below B4 hE.lt
    have s0:=hS4.cell 0
    have s1:=hS4.cell 1
    have s2:=hS4.cell 2
    have s3:=hS4.cell 3
    have s4:=hS4.cell 4
    have s5:=hS4.cell 5
    have f0:=hS4.frozen 0
    have f1:=hS4.frozen 1
    have f2:=hS4.frozen 2
    have f3:=hS4.frozen 3
    have f4:=hS4.frozen 4
    have f5:=hS4.frozen 5
    have t0:=hE4.cell 0
    have t1:=hE4.frozen 0
    gi_wp2
    have hS8:=((((((hS4.set_ 0 (.int .i64 0)).set_ 1 (.int .i64 0)).set_ 2 (.int .i64 0)).set_ 3 (.int .i64 0)).set_ 4 (.int .i64 0)).set_ 5 (.slice none 0 0)).far (p:=⟨w.heap.size+1+1+1,0,none⟩) (show w.heap.size+1+1≠w.heap.size+1+1+1 by omega) (.int .i64 1)
    have far:=fun (w9:World) (i:Nat) (u:Value) (h9:Blk w9 (w.heap.size+1+1+1) 42 #[.int .i64 0])=>h9.far (p:=⟨w.heap.size+1+1,i,none⟩) (show w.heap.size+1+1+1≠w.heap.size+1+1 by omega) u
    have hE8:=(far _ 5 (.slice none 0 0) (far _ 4 (.int .i64 0) (far _ 3 (.int .i64 0) (far _ 2 (.int .i64 0) (far _ 1 (.int .i64 0) (far _ 0 (.int .i64 0) hE4)))))).set_ 0 (.int .i64 1)
    refine ⟨?_,⟨rfl,⟨xi,?_,hofo.out⟩,by simpa using hS8,by simpa using hE8⟩,?_⟩
    ·refine KeepsOthers.from (KeepsOthers.trans (B:=w3.alloc (.cells #[.int .i64 0,.int .i64 0,.slice A1 0 C1,.slice A2 0 C2] 103)) ⟨B4.size,fun k o hk ho=>(B4.block k (Array.getElem?_eq_some_iff.1 hk).1).trans hk⟩ ?_) _
     exact (((((((KeepsOthers.setCell _ _ _).trans (KeepsOthers.setCell _ _ _)).trans (KeepsOthers.setCell _ _ _)).trans (KeepsOthers.setCell _ _ _)).trans (KeepsOthers.setCell _ _ _)).trans (KeepsOthers.setCell _ _ _)).trans (KeepsOthers.setCell _ _ _))
    ·rw[HNEW.out];simp
    ·exact bset (bset (bset (bset (bset (bset (bset (hBel.trans (B4.mono hBel.size)) (by omega) _) (by omega) _) (by omega) _) (by omega) _) (by omega) _) (by omega) _) (by omega) _
  ·have hP1:=fun w h (ho:oddP kk p=true)=>pack_bad kk pv p w h hk4 ho
   have hP0:=fun w h (ho:oddP kk p=false)=>pack_good kk pv p w h hk4 hpl hpi ho
   rw[e4] at hP1 hP0 hk4
   have HKK':=Lib.hid (HKK.out.symm.trans e4)
   clear HKK HKS e4 hk4 kk
   cases ho:oddP k p
   ·have hP:=fun w h=>hP0 w h ho
    have hofb:Hid (bkP k m o Z l xi=bkOf k p):=Lib.hid (by unfold bkP;rw[←HPE.out,HKK'.out])
    have hofo:Hid (oddPi k m o Z l xi=false):=Lib.hid (by unfold oddPi;rw[←HPE.out,HKK'.out,ho])
    clear hP0 hP1 ho
    obtain⟨⟨bk,bs,bc,bw⟩,hbb⟩:∃b:Bk,b=bkOf k p:=⟨_,rfl⟩
    rw[←hbb] at hP hofb
    clear hbb
    gi_wp2_with fail
    refine ⟨trivial,?_⟩
    refine (CallsIn.inRound lr (callsIn_wide.2 (hP _ hp2))).mono ?_
    rintro e w3 ⟨b,rfl,⟨a1,a2,rfl,ha1,ha2⟩,b3,hfr⟩
    obtain⟨A1,C1,rfl,_,_⟩:=id ha1.form
    obtain⟨A2,C2,rfl,_,_⟩:=id ha2.form
    obtain⟨_,_,_,_,hfe,hf1,hf2⟩:=hfr
    obtain⟨rfl,rfl,rfl,rfl⟩:_∧_∧_∧_:=by simpa using hfe
    clear hfe hP
    have B3:=bstep B2 b3
    have hne:∀g,v.ownBlock=some g→g<w2.heap.size:=fun g e=>by
     obtain⟨es,_,_,_,hr⟩:=hown
     exact Nat.lt_of_lt_of_le (hr.lt g e).2 B2.size
    have B4:Below W.heap.size W (w3.alloc (.cells #[.int .i64 bk,.int .i64 bs,.slice A1 bc.length C1,.slice A2 bw.length C2] 103)):=balloc B3 _
    have hR4:=hR.below B4 hR.lt
    have hR5:=hR4.alloc (.cells #[.int .i64 bk,.int .i64 bs,.slice A1 bc.length C1,.slice A2 bw.length C2] 103)
    have hrow4:=hown.below B4
    have ha1':=ha1.below (balloc (Below.refl _ w3) (.cells #[.int .i64 bk,.int .i64 bs,.slice A1 bc.length C1,.slice A2 bw.length C2] 103))
    have ha2':=ha2.below (balloc (Below.refl _ w3) (.cells #[.int .i64 bk,.int .i64 bs,.slice A1 bc.length C1,.slice A2 bw.length C2] 103))
    have c5:=hR4.cell 5
    obtain⟨es,hes,hok,haw,hrow⟩:=hrow4
    have hlen:es.length≤4096:=by rw[←List.length_map (f:=fun e:Eb=>e.1),hes,List.length_map];exact hplen
    have hbase:W1.heap.size≤(w3.alloc (.cells #[.int .i64 bk,.int .i64 bs,.slice A1 bc.length C1,.slice A2 bw.length C2] 103)).heap.size:=Nat.le_trans hWs B4.size
    have hone:=flatB_one [((bk,bs,bc,bw),(.slice A1 bc.length C1:Value),(.slice A2 bw.length C2:Value))] (w:=w3) (fun e he=>by
     obtain rfl:=List.mem_singleton.1 he
     exact⟨ha1,ha2⟩)
    have hlc:=lit4_cells (w3.alloc (.cells #[.int .i64 bk,.int .i64 bs,.slice A1 bc.length C1,.slice A2 bw.length C2] 103)) 103 (.int .i64 bk) (.int .i64 bs) (.slice A1 bc.length C1) (.slice A2 bw.length C2)
    rw[World.size_alloc] at hlc
    have hwf:=wide_fn 101
    gi_wp2_with (gi_at_builtin;go_must (refine wpListIn_append_own_at _ rfl (.tmp 49) (.tmp 51) _ rfl W1.heap.size 103 i0 _ 4 64 Tryz.underlying24 hi0 hz0 hz1 hz2 rfl (by omega) _ _ (flatB es) rfl (hrow.alloc _) ⟨w3.heap.size+1,0,none⟩ 1 1 (flatB [((bk,bs,bc,bw),(.slice A1 bc.length C1:Value),(.slice A2 bw.length C2:Value))]) rfl rfl hlc hone (by unfold maxLen;omega) (by omega) (by rw[World.size_alloc];exact Nat.le_succ_of_le hbase) ?_;intro v' w6 hown' hgrow _ hat;obtain⟨A7,C7,rfl,_,_⟩:=own4_form hown';have hR6:=hR5.grown hgrow (fun e=>own4_typed (hrow.alloc _) hR5 (by decide) e.symm);have c6:=hR6.cell 5;have f6:=hR6.frozen 5))
    obtain⟨hbl,hko⟩:=below_grown4 hrow hbase hgrow
    have hwX:w.heap.size+1+1+1<X:=by assumption
    have hX1:X<W1.heap.size:=by omega
    have hpush:=OwnBs.push (fl:=W1.heap.size) (ns:=[((bk,bs,bc,bw),(.slice A1 bc.length C1:Value),(.slice A2 bw.length C2:Value))]) (hok.below (balloc (Below.refl _ _) (.cells #[.int .i64 bk,.int .i64 bs,.slice A1 bc.length C1,.slice A2 bw.length C2] 103))) haw
     (fun e he=>by obtain rfl:=List.mem_singleton.1 he;exact⟨ha1'.below (balloc (Below.refl _ _) _),ha2'.below (balloc (Below.refl _ _) _)⟩)
     (fun e he => by
      obtain rfl:=List.mem_singleton.1 he
      exact⟨fun g eg=>⟨.inr (hf1.ne (hne g eg)),.inr (hf2.ne (hne g eg))⟩,hf1.more (Nat.le_trans hWs B2.size),hf2.more (Nat.le_trans hWs B2.size)⟩) rfl hown' hgrow hat
    rw[hes] at hpush
    have hOB:=hpush.set (i:=5) hX1 hX1 (.slice A7 (es.length+1) C7)
    have hR7:=hR6.set_ 5 (.slice A7 (es.length+1) C7)
    have hK7:=((hK.below B4 hK.lt).below hbl (show w.heap.size<W1.heap.size by omega)).far (p:=⟨X,5,none⟩) (show w.heap.size≠X by omega) (.slice A7 (es.length+1) C7)
    have hL7:=((hL.below B4 hL.lt).below hbl (show w.heap.size+1<W1.heap.size by omega)).far (p:=⟨X,5,none⟩) (show w.heap.size+1≠X by omega) (.slice A7 (es.length+1) C7)
    have hS7:=((hS.below B4 hS.lt).below hbl (show w.heap.size+1+1<W1.heap.size by omega)).far (p:=⟨X,5,none⟩) (show w.heap.size+1+1≠X by omega) (.slice A7 (es.length+1) C7)
    have hE7:=((hE.below B4 hE.lt).below hbl (show w.heap.size+1+1+1<W1.heap.size by omega)).far (p:=⟨X,5,none⟩) (show w.heap.size+1+1+1≠X by omega) (.slice A7 (es.length+1) C7)
    refine ⟨?_,?_,?_⟩
    ·refine KeepsOthers.from (KeepsOthers.trans (KeepsOthers.trans ⟨B4.size,fun k o hk ho=>?_⟩ ⟨hbl.size,hko⟩) (KeepsOthers.setCell _ _ _)) _
     exact (B4.block k (Array.getElem?_eq_some_iff.1 hk).1).trans hk
    ·exact ((KR.of_below (B4.mono hWs) (by omega) (by omega)).trans (KR.of_below hbl (by omega) (by omega))).setAt (by omega) (.inl (by omega)) _
    ·refine ⟨⟨⟨_,by simpa using hR7,?_⟩,?_,hK7,hL7,hS7,hE7⟩,?_,?_⟩
     ·rw[HNEW.out,List.map_append]
      have e1:[xi].map (bkP k m o Z l)=[((bk,bs,bc,bw):Bk)]:=by simp[hofb.out]
      rw[e1];exact hOB
     ·rw[HNEW.out]
      intro i hi'
      rcases List.mem_append.1 hi' with h1 | h1
      ·exact HODD.out i h1
      ·rw[List.mem_singleton.1 h1];exact hofo.out
     ·exact ((hBel.trans (B4.mono hBel.size)).trans (hbl.mono (by omega))).setCell (p:=⟨X,5,none⟩) (by show w.heap.size≤X;omega) _
     ·simp[World.setCell];exact Nat.le_trans hbase hbl.size
   ·have hP:=fun w h=>hP1 w h ho
    have hofo:Hid (oddPi k m o Z l xi=true):=Lib.hid (by unfold oddPi;rw[←HPE.out,HKK'.out,ho])
    clear hP0 hP1 ho
    gi_wp2_with fail
    refine ⟨trivial,?_⟩
    refine (CallsIn.inRound lr (callsIn_wide.2 (hP _ hp2))).mono ?_
    rintro e w3 ⟨b,rfl,⟨a1,a2,rfl,ha1,ha2⟩,b3⟩
    obtain⟨A1,C1,rfl,_,_⟩:=id ha1.form
    obtain⟨A2,C2,rfl,_,_⟩:=id ha2.form
    have B3:=bstep B2 b3
    have B4:Below W.heap.size W (w3.alloc (.cells #[.int .i64 0,.int .i64 0,.slice A1 0 C1,.slice A2 0 C2] 103)):=balloc B3 _
    have hS4:=hS.below B4 hS.lt
    have hE4:=hE.below B4 hE.lt
    have s0:=hS4.cell 0
    have s1:=hS4.cell 1
    have s2:=hS4.cell 2
    have s3:=hS4.cell 3
    have s4:=hS4.cell 4
    have s5:=hS4.cell 5
    have f0:=hS4.frozen 0
    have f1:=hS4.frozen 1
    have f2:=hS4.frozen 2
    have f3:=hS4.frozen 3
    have f4:=hS4.frozen 4
    have f5:=hS4.frozen 5
    have t0:=hE4.cell 0
    have t1:=hE4.frozen 0
    gi_wp2
    have hS8:=((((((hS4.set_ 0 (.int .i64 0)).set_ 1 (.int .i64 0)).set_ 2 (.int .i64 0)).set_ 3 (.int .i64 0)).set_ 4 (.int .i64 0)).set_ 5 (.slice none 0 0)).far (p:=⟨w.heap.size+1+1+1,0,none⟩) (show w.heap.size+1+1≠w.heap.size+1+1+1 by omega) (.int .i64 1)
    have far:=fun (w9:World) (i:Nat) (u:Value) (h9:Blk w9 (w.heap.size+1+1+1) 42 #[.int .i64 0])=>h9.far (p:=⟨w.heap.size+1+1,i,none⟩) (show w.heap.size+1+1+1≠w.heap.size+1+1 by omega) u
    have hE8:=(far _ 5 (.slice none 0 0) (far _ 4 (.int .i64 0) (far _ 3 (.int .i64 0) (far _ 2 (.int .i64 0) (far _ 1 (.int .i64 0) (far _ 0 (.int .i64 0) hE4)))))).set_ 0 (.int .i64 1)
    refine ⟨?_,⟨rfl,⟨xi,?_,hofo.out⟩,by simpa using hS8,by simpa using hE8⟩,?_⟩
    ·refine KeepsOthers.from (KeepsOthers.trans (B:=w3.alloc (.cells #[.int .i64 0,.int .i64 0,.slice A1 0 C1,.slice A2 0 C2] 103)) ⟨B4.size,fun k o hk ho=>(B4.block k (Array.getElem?_eq_some_iff.1 hk).1).trans hk⟩ ?_) _
     exact (((((((KeepsOthers.setCell _ _ _).trans (KeepsOthers.setCell _ _ _)).trans (KeepsOthers.setCell _ _ _)).trans (KeepsOthers.setCell _ _ _)).trans (KeepsOthers.setCell _ _ _)).trans (KeepsOthers.setCell _ _ _)).trans (KeepsOthers.setCell _ _ _))
    ·rw[HNEW.out];simp
    ·exact bset (bset (bset (bset (bset (bset (bset (hBel.trans (B4.mono hBel.size)) (by omega) _) (by omega) _) (by omega) _) (by omega) _) (by omega) _) (by omega) _) (by omega) _
 case done=>
  rintro D ys W hD hys ⟨⟨⟨v,hR,hown⟩,hodd,hK,hL,hS,hE⟩,hBel,hWs⟩ hKD
  rw[hys] at hown hodd
  have hodd':oddTo k Z m o l (partN Z l.length)=false:=by
   unfold oddTo;rw[List.any_eq_false]
   intro i hi'
   have:=hodd i hi'
   unfold oddPi at this
   rw[Int.toNat_natCast,this];simp
  have he:ofE k Z m o l=0:=ofE_ok hmay hl (by rw[Int.toNat_natCast];exact hodd')
  have hbk:(List.range (partN Z l.length)).map (bkP k m o Z l)=bksTo k Z m o l (partN (Z:Int).toNat l.length):=by
   unfold bksTo;rw[Int.toNat_natCast];rfl
  rw[hbk] at hown
  have hofs:ofS k Z m o l=(k,(Z:Int),m,o,(l.length:Int),bksTo k Z m o l (partN (Z:Int).toNat l.length)):=if_pos he
  have hib:=hown.is
  obtain⟨A9,C9,rfl,_,_⟩:=id hib.len
  generalize bksTo k (Z:Int) m o l (partN (Z:Int).toNat l.length)=bs at *
  have r0:=hR.cell 0
  have r1:=hR.cell 1
  have r2:=hR.cell 2
  have r3:=hR.cell 3
  have r4:=hR.cell 4
  have r5:=hR.cell 5
  have s0:=hS.cell 0
  have s1:=hS.cell 1
  have s2:=hS.cell 2
  have s3:=hS.cell 3
  have s4:=hS.cell 4
  have s5:=hS.cell 5
  have f0:=hS.frozen 0
  have f1:=hS.frozen 1
  have f2:=hS.frozen 2
  have f3:=hS.frozen 3
  have f4:=hS.frozen 4
  have f5:=hS.frozen 5
  have t0:=hE.cell 0
  have t1:=hE.frozen 0
  have HHH:=Lib.hid (And.intro he (And.intro hys (And.intro hofs (And.intro hbk hodd))))
  clear he hys hofs hbk hodd hodd'
  gi_wp2
  have OB8:=((((((hown.set (X:=w.heap.size+1+1) (i:=0) (by omega) (by omega) (.int .i64 k)).set (X:=w.heap.size+1+1) (i:=1) (by omega) (by omega) (.int .i64 Z)).set (X:=w.heap.size+1+1) (i:=2) (by omega) (by omega) (.int .i64 m)).set (X:=w.heap.size+1+1) (i:=3) (by omega) (by omega) (.int .i64 o)).set (X:=w.heap.size+1+1) (i:=4) (by omega) (by omega) (.int .i64 l.length)).set (X:=w.heap.size+1+1) (i:=5) (by omega) (by omega) (.slice A9 bs.length C9)).set (X:=w.heap.size+1+1+1) (i:=0) (by omega) (by omega) (.int .i64 0)
  have hS8:=((((((hS.set_ 0 (.int .i64 k)).set_ 1 (.int .i64 Z)).set_ 2 (.int .i64 m)).set_ 3 (.int .i64 o)).set_ 4 (.int .i64 l.length)).set_ 5 (.slice A9 bs.length C9)).far (p:=⟨w.heap.size+1+1+1,0,none⟩) (show w.heap.size+1+1≠w.heap.size+1+1+1 by omega) (.int .i64 0)
  have far:=fun (w9:World) (i:Nat) (u:Value) (h9:Blk w9 (w.heap.size+1+1+1) 42 #[.int .i64 0])=>h9.far (p:=⟨w.heap.size+1+1,i,none⟩) (show w.heap.size+1+1+1≠w.heap.size+1+1 by omega) u
  have hE8:=(far _ 5 (.slice A9 bs.length C9) (far _ 4 (.int .i64 l.length) (far _ 3 (.int .i64 o) (far _ 2 (.int .i64 m) (far _ 1 (.int .i64 Z) (far _ 0 (.int .i64 k) hE)))))).set_ 0 (.int .i64 0)
  have hB8:=bset (bset (bset (bset (bset (bset (bset hBel (show w.heap.size≤w.heap.size+1+1 by omega) (i:=0) (.int .i64 k)) (show w.heap.size≤w.heap.size+1+1 by omega) (i:=1) (.int .i64 Z)) (show w.heap.size≤w.heap.size+1+1 by omega) (i:=2) (.int .i64 m)) (show w.heap.size≤w.heap.size+1+1 by omega) (i:=3) (.int .i64 o)) (show w.heap.size≤w.heap.size+1+1 by omega) (i:=4) (.int .i64 l.length)) (show w.heap.size≤w.heap.size+1+1 by omega) (i:=5) (.slice A9 bs.length C9)) (show w.heap.size≤w.heap.size+1+1+1 by omega) (i:=0) (.int .i64 0)
  have KO:KeepsOthers W _:=(((((((KeepsOthers.setCell W ⟨w.heap.size+1+1,0,none⟩ (.int .i64 k)).trans (KeepsOthers.setCell _ ⟨w.heap.size+1+1,1,none⟩ (.int .i64 Z))).trans (KeepsOthers.setCell _ ⟨w.heap.size+1+1,2,none⟩ (.int .i64 m))).trans (KeepsOthers.setCell _ ⟨w.heap.size+1+1,3,none⟩ (.int .i64 o))).trans (KeepsOthers.setCell _ ⟨w.heap.size+1+1,4,none⟩ (.int .i64 l.length))).trans (KeepsOthers.setCell _ ⟨w.heap.size+1+1,5,none⟩ (.slice A9 bs.length C9))).trans (KeepsOthers.setCell _ ⟨w.heap.size+1+1+1,0,none⟩ (.int .i64 0)))
  have hK':=KO.same D _ hKD rfl
  refine ⟨by simp,.inl ⟨_,_,rfl,run_takeDeferred hK',?_⟩⟩
  have hS9:=blk_own hS8 (grownBy_putObj' _ D (.deferred none)) (fun r e=>by cases e;exact⟨_,hK',rfl⟩)
  have hE9:=blk_own hE8 (grownBy_putObj' _ D (.deferred none)) (fun r e=>by cases e;exact⟨_,hK',rfl⟩)
  have OB9:=OB8.ownr (grownBy_putObj' _ D (.deferred none)) (fun r e=>by cases e;exact⟨_,hK',rfl⟩)
  have q0:=hS9.cell 0
  have q1:=hS9.cell 1
  have q2:=hS9.cell 2
  have q3:=hS9.cell 3
  have q4:=hS9.cell 4
  have q5:=hS9.cell 5
  have q6:=hE9.cell 0
  refine ⟨.tuple #[.agg #[.int .i64 k,.int .i64 Z,.int .i64 m,.int .i64 o,.int .i64 l.length,.slice A9 bs.length C9],.int .i64 0],?_,⟨_,by rw[HHH.out.1,HHH.out.2.2.1],?_,hB8.trans (belowK_b (w:=w) (Nat.le_refl _) _ D _ (.deferred none) (by omega) hK' rfl rfl)⟩⟩
  ·simp at q0 q1 q2 q3 q4 q5 q6
   simp[results,Tryz.f37,go_sem,q0,q1,q2,q3,q4,q5,q6]
  ·rw[HHH.out.2.2.1];exact OB9.lower (by omega) (by omega)
 case stop=>
  rintro D cd pre W hD hpre ⟨⟨rfl,⟨i,hi',hodd⟩,hS,hE⟩,hBel⟩ hKD
  obtain⟨q,hq,hpre⟩:=hpre
  have hodd':oddTo k Z m o l (partN Z l.length)=true:=by
   unfold oddTo
   rw[hpre] at hi'
   exact List.any_eq_true.2 ⟨i,List.mem_range.2 (by have:=List.mem_range.1 hi';omega),by rw[Int.toNat_natCast];exact hodd⟩
  have he:ofE k Z m o l=1:=by unfold ofE;rw[if_pos hmay,if_pos hl,Int.toNat_natCast,hodd'];rfl
  have hofs:ofS k Z m o l=(0,0,0,0,0,[]):=if_neg (by rw[he];decide)
  have s0:=hS.cell 0
  have s1:=hS.cell 1
  have s2:=hS.cell 2
  have s3:=hS.cell 3
  have s4:=hS.cell 4
  have s5:=hS.cell 5
  have t0:=hE.cell 0
  have HHH:=Lib.hid (And.intro he hofs)
  clear he hofs hodd hodd' hpre hi' hq
  gi_wp2
  refine ⟨by simp,.inl ⟨_,_,rfl,run_takeDeferred hKD,?_⟩⟩
  have hg9:=grownBy_putObj' W D (.deferred none)
  have hS9:=blk_own hS hg9 (fun r e=>by cases e;exact⟨_,hKD,rfl⟩)
  have hE9:=blk_own hE hg9 (fun r e=>by cases e;exact⟨_,hKD,rfl⟩)
  have q0:=hS9.cell 0
  have q1:=hS9.cell 1
  have q2:=hS9.cell 2
  have q3:=hS9.cell 3
  have q4:=hS9.cell 4
  have q5:=hS9.cell 5
  have q6:=hE9.cell 0
  refine ⟨.tuple #[.agg #[.int .i64 0,.int .i64 0,.int .i64 0,.int .i64 0,.int .i64 0,.slice none 0 0],.int .i64 1],?_,⟨_,by rw[HHH.out.1,HHH.out.2],?_,hBel.trans (belowK_b (w:=w) (Nat.le_refl _) W D _ (.deferred none) (by omega) hKD rfl rfl)⟩⟩
  ·simp at q0 q1 q2 q3 q4 q5 q6
   simp[results,Tryz.f37,go_sem,q0,q1,q2,q3,q4,q5,q6]
  ·rw[HHH.out.2];exact OwnBs.nil _ _ _
theorem of_wrong (k z m o:Int) (v:Value) (l:List Int) (w:World) (h:IsI w v l) (hmay:mayB k z m o=false):
 CallsIn Fence.wide 9 Tryz.prog 37 #[.agg #[.int .i64 k,.int .i64 z,.int .i64 m,.int .i64 o],v] w fun e w'=>∃x,e= .returned (.tuple #[.agg #[.int .i64 0,.int .i64 0,.int .i64 0,.int .i64 0,.int .i64 0,x],.int .i64 1])∧OwnBs w' w.heap.size w.heap.size x []∧Below w.heap.size w w':=by
 obtain⟨A,c,rfl,_,_⟩:=id h.form
 have hM:=fun n w=>(callsIn_wide (n:=n)).2 (tmay_any k z m o w)
 rw[hmay] at hM
 obtain⟨W0,hW,hK,hL,hS,hE,hB⟩:=box4t w 23 62 26 42 #[.int .i64 k,.int .i64 z,.int .i64 m,.int .i64 o] #[.slice A l.length c] #[.int .i64 0,.int .i64 0,.int .i64 0,.int .i64 0,.int .i64 0,.slice none 0 0] #[.int .i64 0]
 have hW':=Lib.hid hW
 clear hW
 have k0:=hK.cell 0
 have k1:=hK.cell 1
 have k2:=hK.cell 2
 have k3:=hK.cell 3
 refine callsIn_of_wp_marks Tryz.func37 rfl trivial ?_ rfl
 simp only[Tryz.ntmps37,List.size_toArray,List.length_cons,List.length_nil,Nat.reduceAdd,Nat.reduceSub,Array.replicate_succ,Array.replicate_zero,List.push_toArray,List.append_toArray,List.nil_append,List.cons_append]
 gi_wp2_with fail
 refine ⟨trivial,?_⟩
 rw[←hW'.out]
 refine (hM _ _).mono ?_
 rintro e w1 ⟨rfl,b1⟩
 have hS1:=hS.below b1 hS.lt
 have hE1:=hE.below b1 hE.lt
 have hL1:=hL.below b1 hL.lt
 have l0:=hL1.cell 0
 have s0:=hS1.cell 0
 have f0:=hS1.frozen 0
 have s1:=hS1.cell 1
 have f1:=hS1.frozen 1
 have s2:=hS1.cell 2
 have f2:=hS1.frozen 2
 have s3:=hS1.cell 3
 have f3:=hS1.frozen 3
 have s4:=hS1.cell 4
 have f4:=hS1.frozen 4
 have s5:=hS1.cell 5
 have f5:=hS1.frozen 5
 have t0:=hE1.cell 0
 have t1:=hE1.frozen 0
 gi_wp2
 have hS8:=((((((hS1.set_ 0 (.int .i64 0)).set_ 1 (.int .i64 0)).set_ 2 (.int .i64 0)).set_ 3 (.int .i64 0)).set_ 4 (.int .i64 0)).set_ 5 (.slice none 0 0)).far (p:=⟨w.heap.size+1+1+1,0,none⟩) (show w.heap.size+1+1≠w.heap.size+1+1+1 by omega) (.int .i64 1)
 have far:=fun (w9:World) (i:Nat) (u:Value) (h9:Blk w9 (w.heap.size+1+1+1) 42 #[.int .i64 0])=>h9.far (p:=⟨w.heap.size+1+1,i,none⟩) (show w.heap.size+1+1+1≠w.heap.size+1+1 by omega) u
 have hE8:=(far _ 5 (.slice none 0 0) (far _ 4 (.int .i64 0) (far _ 3 (.int .i64 0) (far _ 2 (.int .i64 0) (far _ 1 (.int .i64 0) (far _ 0 (.int .i64 0) hE1)))))).set_ 0 (.int .i64 1)
 have hB1:=hB.trans (b1.mono hB.size)
 have q0:=hS8.cell 0
 have q1:=hS8.cell 1
 have q2:=hS8.cell 2
 have q3:=hS8.cell 3
 have q4:=hS8.cell 4
 have q5:=hS8.cell 5
 have q6:=hE8.cell 0
 refine ⟨.tuple #[.agg #[.int .i64 0,.int .i64 0,.int .i64 0,.int .i64 0,.int .i64 0,.slice none 0 0],.int .i64 1],?_,⟨_,rfl,OwnBs.nil _ _ _,?_⟩⟩
 ·simp at q0 q1 q2 q3 q4 q5 q6
  simp[results,Tryz.f37,go_sem,q0,q1,q2,q3,q4,q5,q6]
 ·exact bset (bset (bset (bset (bset (bset (bset hB1 (by omega) _) (by omega) _) (by omega) _) (by omega) _) (by omega) _) (by omega) _) (by omega) _
theorem of_large (k z m o:Int) (v:Value) (l:List Int) (w:World) (h:IsI w v l) (hmay:mayB k z m o=true) (hl:¬l.length≤4096):
 CallsIn Fence.wide 9 Tryz.prog 37 #[.agg #[.int .i64 k,.int .i64 z,.int .i64 m,.int .i64 o],v] w fun e w'=>∃x,e= .returned (.tuple #[.agg #[.int .i64 0,.int .i64 0,.int .i64 0,.int .i64 0,.int .i64 0,x],.int .i64 6])∧OwnBs w' w.heap.size w.heap.size x []∧Below w.heap.size w w':=by
 obtain⟨A,c,rfl,_,_⟩:=id h.form
 have hM:=fun n w=>(callsIn_wide (n:=n)).2 (tmay_any k z m o w)
 rw[hmay] at hM
 have hl1:decide ((4096:Int)<(l.length:Int))=true:=decide_eq_true (by omega)
 have hl2:decide (4096<l.length)=true:=decide_eq_true (by omega)
 have hl3:(4096:Int)<(l.length:Int):=by omega
 obtain⟨W0,hW,hK,hL,hS,hE,hB⟩:=box4t w 23 62 26 42 #[.int .i64 k,.int .i64 z,.int .i64 m,.int .i64 o] #[.slice A l.length c] #[.int .i64 0,.int .i64 0,.int .i64 0,.int .i64 0,.int .i64 0,.slice none 0 0] #[.int .i64 0]
 have hW':=Lib.hid hW
 clear hW
 have k0:=hK.cell 0
 have k1:=hK.cell 1
 have k2:=hK.cell 2
 have k3:=hK.cell 3
 refine callsIn_of_wp_marks Tryz.func37 rfl trivial ?_ rfl
 simp only[Tryz.ntmps37,List.size_toArray,List.length_cons,List.length_nil,Nat.reduceAdd,Nat.reduceSub,Array.replicate_succ,Array.replicate_zero,List.push_toArray,List.append_toArray,List.nil_append,List.cons_append]
 gi_wp2_with fail
 refine ⟨trivial,?_⟩
 rw[←hW'.out]
 refine (hM _ _).mono ?_
 rintro e w1 ⟨rfl,b1⟩
 have hS1:=hS.below b1 hS.lt
 have hE1:=hE.below b1 hE.lt
 have hL1:=hL.below b1 hL.lt
 have l0:=hL1.cell 0
 have s0:=hS1.cell 0
 have f0:=hS1.frozen 0
 have s1:=hS1.cell 1
 have f1:=hS1.frozen 1
 have s2:=hS1.cell 2
 have f2:=hS1.frozen 2
 have s3:=hS1.cell 3
 have f3:=hS1.frozen 3
 have s4:=hS1.cell 4
 have f4:=hS1.frozen 4
 have s5:=hS1.cell 5
 have f5:=hS1.frozen 5
 have t0:=hE1.cell 0
 have t1:=hE1.frozen 0
 gi_wp2
 have hS8:=((((((hS1.set_ 0 (.int .i64 0)).set_ 1 (.int .i64 0)).set_ 2 (.int .i64 0)).set_ 3 (.int .i64 0)).set_ 4 (.int .i64 0)).set_ 5 (.slice none 0 0)).far (p:=⟨w.heap.size+1+1+1,0,none⟩) (show w.heap.size+1+1≠w.heap.size+1+1+1 by omega) (.int .i64 6)
 have far:=fun (w9:World) (i:Nat) (u:Value) (h9:Blk w9 (w.heap.size+1+1+1) 42 #[.int .i64 0])=>h9.far (p:=⟨w.heap.size+1+1,i,none⟩) (show w.heap.size+1+1+1≠w.heap.size+1+1 by omega) u
 have hE8:=(far _ 5 (.slice none 0 0) (far _ 4 (.int .i64 0) (far _ 3 (.int .i64 0) (far _ 2 (.int .i64 0) (far _ 1 (.int .i64 0) (far _ 0 (.int .i64 0) hE1)))))).set_ 0 (.int .i64 6)
 have hB1:=hB.trans (b1.mono hB.size)
 have q0:=hS8.cell 0
 have q1:=hS8.cell 1
 have q2:=hS8.cell 2
 have q3:=hS8.cell 3
 have q4:=hS8.cell 4
 have q5:=hS8.cell 5
 have q6:=hE8.cell 0
 refine ⟨.tuple #[.agg #[.int .i64 0,.int .i64 0,.int .i64 0,.int .i64 0,.int .i64 0,.slice none 0 0],.int .i64 6],?_,⟨_,rfl,OwnBs.nil _ _ _,?_⟩⟩
 ·simp at q0 q1 q2 q3 q4 q5 q6
  simp[results,Tryz.f37,go_sem,q0,q1,q2,q3,q4,q5,q6]
 ·exact bset (bset (bset (bset (bset (bset (bset hB1 (by omega) _) (by omega) _) (by omega) _) (by omega) _) (by omega) _) (by omega) _) (by omega) _
theorem tof_own (k z m o:Int) (v:Value) (l:List Int) (w:World) (h:IsI w v l) (hi:∀x∈l,I64 x):
 Calls Tryz.prog 37 #[.agg #[.int .i64 k,.int .i64 z,.int .i64 m,.int .i64 o],v] w fun e w'=>∃x,e= .returned (.tuple #[.agg #[.int .i64 (ofS k z m o l).1,.int .i64 (ofS k z m o l).2.1,.int .i64 (ofS k z m o l).2.2.1,.int .i64 (ofS k z m o l).2.2.2.1,.int .i64 (ofS k z m o l).2.2.2.2.1,x],.int .i64 (ofE k z m o l)])∧OwnBs w' w.heap.size w.heap.size x (ofS k z m o l).2.2.2.2.2∧Below w.heap.size w w':=by
 by_cases hmay:mayB k z m o=true
 ·by_cases hl:l.length≤4096
  ·obtain⟨Z,rfl,z1,z2⟩:=size_of hmay
   obtain⟨A,c,rfl,_,_⟩:=id h.form
   exact callsIn_wide.1 (of_main k m o Z A c l w h hmay z1 z2 hl hi)
  ·have e:ofE k z m o l=6:=by unfold ofE;rw[if_pos hmay,if_neg hl]
   have e2:ofS k z m o l=(0,0,0,0,0,[]):=if_neg (by rw[e];decide)
   rw[e,e2]
   exact callsIn_wide.1 (of_large k z m o v l w h hmay hl)
 ·have e:ofE k z m o l=1:=by unfold ofE;rw[if_neg hmay]
  have e2:ofS k z m o l=(0,0,0,0,0,[]):=if_neg (by rw[e];decide)
  rw[e,e2]
  exact callsIn_wide.1 (of_wrong k z m o v l w h (by simpa using hmay))
theorem tof_any (k z m o:Int) (v:Value) (l:List Int) (w:World) (h:IsI w v l) (hi:∀x∈l,I64 x):
 Calls Tryz.prog 37 #[.agg #[.int .i64 k,.int .i64 z,.int .i64 m,.int .i64 o],v] w fun e w'=>∃s,e= .returned (.tuple #[s,.int .i64 (ofE k z m o l)])∧IsSt w' s (ofS k z m o l)∧Below w.heap.size w w':=
 (tof_own k z m o v l w h hi).mono fun _ _ ⟨_,e,hx,hB⟩=>⟨_,e,⟨_,rfl,hx.is⟩,hB⟩
end Go.Proofs.YtdnjdglekifhpaaGreat
namespace Go.Proofs.YtdnjdglekifhpaaGreat
open Go.RowKit
attribute [local go_sem ↓] Go.wp_at_zero Go.wp_at_succ
theorem few_of {k z m o:Int} {l:List Int} (hi:∀x∈l,I64 x) (h:ofE k z m o l=0):FewB (bksTo k z m o l (partN z.toNat l.length))∧LongB (bksTo k z m o l (partN z.toNat l.length))∧(∀b∈bksTo k z m o l (partN z.toNat l.length),LoadB b):=by
 obtain⟨h1,h2,h3⟩:=ofE_zero h
 obtain⟨Z,rfl,z1,z2⟩:=size_of h1
 have hN:=partN_le (n:=l.length) z1
 have hm:=of_min h
 have key:∀b∈bksTo k (Z:Int) m o l (partN (Z:Int).toNat l.length),bkLen b≤4096∧LoadB b:=by
  intro b hb
  unfold bksTo at hb
  obtain⟨i,hi',rfl⟩:=List.mem_map.1 hb
  have hlt:=List.mem_range.1 hi'
  have ho:=odd_part h3 hlt
  rw[Int.toNat_natCast] at *
  have hpl:=partZ_len Z l i
  have hpi:∀x∈partZ Z l i,I64 x:=fun x hx=>hi x (partZ_mem hx)
  obtain⟨g1,g2,g3,g4,g5⟩:=bk_good h1 (n:=l.length) (p:=partZ Z l i) hpi (by omega) ho
  refine ⟨by rw[g2,hpl];omega,?_⟩
  have hgr:=great_in hpi (oddP_min ho)
  have hg0:=great_nonneg (partZ Z l i)
  obtain⟨k0,k3,_⟩:=mayB_iff.1 h1
  rcases kindOf_or (k:=k) (m:=m) (o:=o) l.length (partZ Z l i) with ⟨e,_⟩ | ⟨e,_⟩
  ·rw[e];exact .inl rfl
  ·rw[e]
   have hb:bkOf k (partZ Z l i)=(k,great (partZ Z l i),packC k (partZ Z l i),[]):=if_neg (by omega)
   rw[hb]
   exact .inr ⟨k0,k3,hg0,hgr⟩
 refine ⟨⟨?_,fun b hb=>by have:=(key b hb).1;omega⟩,fun b hb=>?_,fun b hb=>(key b hb).2⟩
 ·rw[bksTo_len,Int.toNat_natCast];omega
 ·have:=(key b hb).1
  unfold bkLen at this
  omega
end Go.Proofs.YtdnjdglekifhpaaGreat
namespace Go.Proofs.YtdnjdglekifhpaaGreat
def NearTo (l m:List Int) (q:List Rat):Prop:=m.length=l.length∧q.length=l.length∧∀(i:Nat) (x y:Int) (b:Rat),l[i]?=some x→m[i]?=some y→q[i]?=some b→0≤b∧((y:Rat) - x≤b∧(x:Rat) - y≤b)
theorem NearTo.nil:NearTo [] [] []:=⟨rfl,rfl,fun _ _ _ _ h=>by simp at h⟩
theorem NearTo.append {l l' m m':List Int} {q q':List Rat} (h:NearTo l m q) (h':NearTo l' m' q'):NearTo (l++l') (m++m') (q++q'):=by
 obtain⟨a1,a2,a3⟩:=h
 obtain⟨b1,b2,b3⟩:=h'
 refine ⟨by simp[a1,b1],by simp[a2,b2],fun i x y b h1 h2 h3=>?_⟩
 rcases Nat.lt_or_ge i l.length with hi | hi
 ·rw[List.getElem?_append_left hi] at h1
  rw[List.getElem?_append_left (by omega)] at h2 h3
  exact a3 i x y b h1 h2 h3
 ·rw[List.getElem?_append_right hi] at h1
  rw[List.getElem?_append_right (by omega)] at h2 h3
  rw[a1] at h2
  rw[a2] at h3
  exact b3 _ x y b h1 h2 h3
theorem mk_mul_nat (z:Int) {d:Nat} (hd:0<d):mkRat z d*((d:Nat):Rat)=(z:Rat):=by
 rw[Rat.mkRat_eq_div,Rat.div_mul_cancel]
 intro e
 have :(((d:Nat):Int):Rat)=((0:Int):Rat):=e
 rw[Rat.intCast_inj] at this
 omega
theorem near_bound {n:Nat} (hn:n<4) {l:List Int} (ho:l.any (oddB (sgn (n:Nat)))=false) {x:Int} (hx:x∈l):
 0≤boundQ (n:Nat) (great l)∧(((loadZ n (great l) (codeOf n x (max (great l) 1)):Int):Rat) - x≤boundQ (n:Nat) (great l)∧(x:Rat) - ((loadZ n (great l) (codeOf n x (max (great l) 1)):Int):Rat)≤boundQ (n:Nat) (great l)):=by
 have hk:=near_loaded hn ho hx
 have hd:=(den_in (k:=(n:Nat)) (by omega) (by omega)).1
 have hg0:=(gz_in (k:=(n:Nat)) (by omega) (by omega)).1
 have hgr:=great_nonneg l
 have e4:((n:Nat):Int)≠4:=by omega
 have eb:boundQ (n:Nat) (great l)*((2*den (n:Nat):Int):Rat)=((great l*gz (n:Nat)+den (n:Nat):Int):Rat):=by
  unfold boundQ
  rw[if_neg e4]
  have p1:=mk_mul_nat (gz (n:Nat)) (d:=(2*den (n:Nat)).natAbs) (by omega)
  have p2:=mk_mul_nat 1 (d:=2) (by omega)
  have p3:(((2*den (n:Nat)).natAbs:Nat):Rat)=((2*den (n:Nat):Int):Rat):=by
   have h:(((2*den (n:Nat)).natAbs:Nat):Int)=2*den (n:Nat):=by omega
   rw[←h];rfl
  rw[p3] at p1
  have p4:((2:Nat):Rat)=2:=rfl
  have p5:((2:Int):Rat)=2:=rfl
  have p6:((1:Int):Rat)=1:=rfl
  rw[p4,p6] at p2
  rw[Rat.intCast_mul,p5] at p1
  rw[Rat.intCast_add,Rat.intCast_mul,Rat.intCast_mul,p5]
  generalize mkRat (gz (n:Nat)) (2*den (n:Nat)).natAbs=u at *
  generalize mkRat 1 2=v at *
  generalize ((den (n:Nat):Int):Rat)=D at *
  generalize ((gz (n:Nat):Int):Rat)=G at *
  generalize ((great l:Int):Rat)=S at *
  grind
 generalize loadZ n (great l) (codeOf n x (max (great l) 1))=y at *
 generalize boundQ (n:Nat) (great l)=b at *
 generalize den (n:Nat)=D at *
 generalize gz (n:Nat)=G at *
 generalize great l=S at *
 have hD:(0:Rat)<((2*D:Int):Rat):=by
  have h:((0:Int):Rat)<((2*D:Int):Rat):=by rw[Rat.intCast_lt_intCast];omega
  exact h
 have key:∀u:Int,u*(2*D)≤S*G+D→(u:Rat)≤b:=by
  intro u hu
  refine Rat.le_of_mul_le_mul_right ?_ hD
  rw[eb,←Rat.intCast_mul,Rat.intCast_le_intCast]
  exact hu
 have hSG:0≤S*G:=Int.mul_nonneg hgr (by omega)
 have ha:∀u:Int,u≤(((x - y).natAbs:Nat):Int)→u*(2*D)≤S*G+D:=by
  intro u hu
  exact Int.le_trans (Int.mul_le_mul_of_nonneg_right hu (by omega)) hk
 refine ⟨?_,?_,?_⟩
 ·have:=key 0 (by omega)
  exact this
 ·have:=key (y - x) (ha _ (by omega))
  rw[Rat.intCast_sub] at this
  exact this
 ·have:=key (x - y) (ha _ (by omega))
  rw[Rat.intCast_sub] at this
  exact this
theorem near_block {k m o:Int} {n:Nat} {p:List Int} {kn:Nat} (hkn:k=kn) (hk4:kn<4) (ho:oddP (kindOf k m o n p) p=false):
 NearTo p (bkNums (bkOf (kindOf k m o n p) p)) (rowQ (bkOf (kindOf k m o n p) p)):=by
 subst hkn
 rcases kindOf_or (k:=(kn:Int)) (m:=m) (o:=o) n p with ⟨e,_⟩ | ⟨e,_⟩
 ·rw[e]
  have hb:bkOf 4 p=(4,0,[],p):=if_pos rfl
  rw[hb]
  have e1:bkNums (4,0,[],p)=p:=if_pos rfl
  have e2:rowQ (4,0,[],p)=List.replicate p.length (0:Rat):=by
   unfold rowQ bkLen
   simp only[List.length_nil,Nat.zero_add]
   rw[show boundQ 4 0=0 from if_pos rfl]
  rw[e1,e2]
  refine ⟨rfl,by simp,fun i x y b h1 h2 h3=>?_⟩
  rw[h1] at h2
  cases h2
  have hi:=(List.getElem?_eq_some_iff.1 h3).1
  rw[List.getElem?_replicate] at h3
  split at h3
  ·cases h3
   refine ⟨Rat.le_refl,?_,?_⟩<;>grind
  ·cases h3
 ·rw[e]
  have hb:bkOf (kn:Int) p=((kn:Int),great p,packC (kn:Int) p,[]):=if_neg (by omega)
  rw[hb]
  rw[e] at ho
  have ho':p.any (oddB (sgn (kn:Nat)))=false:=by
   unfold oddP at ho
   rw[show (((kn:Nat):Int) == 4)=false by simp;omega,Bool.false_or] at ho
   exact ho
  have e1:bkNums ((kn:Int),great p,packC (kn:Int) p,[])=loadC kn (great p) (packC (kn:Int) p):=by
   unfold bkNums
   simp only
   rw[if_neg (by omega),Int.toNat_natCast]
  have e2:rowQ ((kn:Int),great p,packC (kn:Int) p,[])=List.replicate p.length (boundQ (kn:Int) (great p)):=by
   unfold rowQ bkLen packC
   simp
  rw[e1,e2]
  refine ⟨by simp[loadC,packC],by simp,fun i x y b h1 h2 h3=>?_⟩
  rw[List.getElem?_replicate] at h3
  split at h3
  ·cases h3
   unfold loadC packC at h2
   rw[List.getElem?_map,List.getElem?_map,h1] at h2
   cases h2
   exact near_bound hk4 ho' (List.mem_of_getElem? h1)
  ·cases h3
theorem near_parts {k m o:Int} {l:List Int} {Z kn:Nat} (hkn:k=kn) (hk4:kn<4):∀N,(∀i,i<N→oddP (kindOf k m o l.length (partZ Z l i)) (partZ Z l i)=false)→
 NearTo (l.take (N*Z)) (loadS (bksTo k (Z:Int) m o l N)) (quantS (bksTo k (Z:Int) m o l N))
 | 0,_=>by simpa [bksTo,loadS,quantS] using NearTo.nil
 | N + 1, h => by
   have ih:=near_parts hkn hk4 N fun i hi=>h i (by omega)
   have hb:=near_block hkn hk4 (h N (by omega))
   rw[bksTo_succ,quantS_snoc]
   unfold loadS at *
   rw[List.flatMap_append,List.flatMap_cons,List.flatMap_nil,List.append_nil,Int.toNat_natCast]
   have e:l.take ((N+1)*Z)=l.take (N*Z)++partZ Z l N:=by
    unfold partZ
    rw[Nat.add_mul,Nat.one_mul,List.take_add]
   rw[e]
   exact ih.append hb
theorem near_all {k z m o:Int} {l:List Int} (h:ofE k z m o l=0):
 NearTo l (loadS (bksTo k z m o l (partN z.toNat l.length))) (quantS (bksTo k z m o l (partN z.toNat l.length))):=by
 obtain⟨h1,h2,h3⟩:=ofE_zero h
 obtain⟨Z,rfl,z1,z2⟩:=size_of h1
 obtain⟨kn,hkn,hk4⟩:=toNat_kind h1
 have hp:=fun i (hi:i<partN (Z:Int).toNat l.length)=>odd_part h3 hi
 simp only[Int.toNat_natCast] at *
 have:=near_parts hkn hk4 (partN Z l.length) hp
 rwa [List.take_of_length_le (partN_all z1)] at this
theorem sz_bound {b:Bk} (h:LoadB b):BQ (boundQ b.1 b.2.1) 20:=by
 obtain⟨k,s,cs,wd⟩:=b
 unfold LoadB at h
 simp only at *
 unfold boundQ
 split
 ·exact (BQ.int (n:=0) (by unfold W64;omega)).more (by omega)
 ·rename_i h4
  obtain⟨k0,k3,s0,s1⟩:=h.resolve_left h4
  have hd:=den_in k0 k3
  have hg:=gz_in k0 k3
  have b1:=BQ.int (n:=s) (by unfold W64;omega)
  have b2:BQ (mkRat (gz k) (2*den k).natAbs) 1:=BQ.mk (Sz.u64 (by unfold W64;omega)) (Sz.u64 (by unfold W64;omega)) (by omega)
  have b3:BQ (mkRat 1 2) 1:=BQ.mk Sz.one (Sz.u64 (by unfold W64;omega)) (by omega)
  exact ((b1.mul b2).add b3).more (by omega)
theorem sz_quant {bs:List Bk} (h:∀b∈bs,LoadB b) {q:Rat} (hq:q∈quantS bs):BQ q 20:=by
 unfold quantS at hq
 obtain⟨b,hb,hq⟩:=List.mem_flatMap.1 hq
 unfold rowQ at hq
 obtain⟨_,rfl⟩:=List.mem_replicate.1 hq
 exact sz_bound (h b hb)
theorem sz_steps {n:Int} {k m:Nat} {r:Rat} (hn:In64 n) (hk:k≤40) (sr:BQ r m):BQ (stepsQ n k r) (2*m+130):=by
 unfold stepsQ divQ
 have sn:=sz_man hn hk
 have h1:In64 1:=⟨by omega,by omega⟩
 have st:=sz_man h1 hk
 have sd:BQ (mkRat n (2^k) - r) (2*(41+m)+1):=by rw[Rat.sub_eq_add_neg];exact sn.add sr.neg
 have sd2:=sd.abs
 rw[decide_eq_false (by rw[num_neg_iff,Rat.not_lt];exact Rat.le_of_lt (stepP k).1)]
 have hs:sided false (mkRat 1 (2^k)).den=((mkRat 1 (2^k)).den:Int):=by simp[sided]
 rw[hs]
 exact BQ.mk ((sd2.1.imul (b:=((mkRat 1 (2^k)).den:Int)) (by simpa using st.2)).more (by omega)) ((sd2.2.mul st.1).more (by omega)) (by omega)
theorem load_in {k z m o:Int} {l:List Int} (hi:∀x∈l,I64 x) (h:ofE k z m o l=0) {x:Int} (hx:x∈loadS (ofS k z m o l).2.2.2.2.2):I64 x:=by
 have h1:=great_in hi (of_min h)
 have h2:=load_great_of hi h
 have h3:=great_mem hx
 unfold I64
 omega
open Go.RowKit
def qat (l:List Rat) (i:Nat):Rat:=l[i]?.getD 0
theorem qat_at {l:List Rat} {i:Nat} (h:i<l.length):l[i]=qat l i:=by unfold qat;rw[List.getElem?_eq_getElem h];rfl
theorem qat_set {l:List Rat} {i:Nat} (h:i<l.length) (r:Rat) (j:Nat):qat (l.set i r) j=if i=j then r else qat l j:=by
 unfold qat
 by_cases e:i=j
 ·subst e;rw[if_pos rfl,List.getElem?_set_self h];rfl
 ·rw[if_neg e,List.getElem?_set_ne e]
def Good (F j:Nat) (n:Int) (r b:Rat):Prop:=0≤b∧stepsQ n F r≤b∧BQ r (8*2^j - 7)∧BQ b (116*2^j - 115)
theorem Good.start (F:Nat):Good F 0 0 0 0:=by
 have b0:BQ (0:Rat) 1:=BQ.int (n:=0) (by unfold W64;omega)
 refine ⟨Rat.le_refl,?_,b0,b0⟩
 rw[steps_le]
 rw[show mkRat 0 (2^F)=0 from Rat.zero_mkRat _]
 constructor<;>grind
theorem sz_man1 {n:Int} {k:Nat} (hn:In64 n) (hk:k≤40):BQ (mkRat n (2^k)) 1:=BQ.mk (Sz.u64 (by have:=hn.1;have:=hn.2;unfold W64;omega)) ((Sz.two_pow k).more (by omega)) (by omega)
theorem half_sz (n:Int) (hn:In64 n):BQ (mkRat n 2) 1:=BQ.mk (Sz.u64 (by have:=hn.1;have:=hn.2;unfold W64;omega)) (Sz.u64 (by unfold W64;omega)) (by omega)
theorem next_sz {mu:Int} {k s q:Nat} {B Q:Rat} (hn:In64 mu) (hk:k≤40) (hB:BQ B s) (hQ:BQ Q q):BQ (nextQ mu k B Q) (2*(s+2+q)+25):=by
 have sh:=sz_man1 hn hk
 have se:=(sh.mul hB).add hQ
 exact BQ.mk ((sz_cel (k:=20) se).more (by omega)) ((Sz.two_pow 20).more (by omega)) (by omega)
theorem next_nonneg {mu:Int} {k:Nat} {B Q:Rat} (h0:0≤mu) (hB:0≤B) (hQ:0≤Q):0≤nextQ mu k B Q:=
 Rat.le_trans (Rat.add_nonneg (Rat.mul_nonneg (man_nonneg k h0) hB) hQ) (next_ge mu k B Q)
theorem half_pos (n:Int) (h:0≤n):0≤mkRat n 2:=by
 rw[←Rat.divInt_ofNat];exact Rat.divInt_nonneg h (Int.natCast_nonneg _)
def GoodAll (F j k:Nat) (vs Ms:List Int) (rs bs:List Rat):Prop:=∀i,i<2→if i<k then Good F (j+1) (iat vs i) (qat rs i) (qat bs i) else Good F j (iat Ms i) (qat rs i) (qat bs i)
theorem GoodAll.set {F j k:Nat} {vs Ms:List Int} {rs bs:List Rat} {r b:Rat} (h:GoodAll F j k vs Ms rs bs) (hk:k<2) (h1:rs.length=2) (h2:bs.length=2) (hg:Good F (j+1) (iat vs k) r b):GoodAll F j (k+1) vs Ms (rs.set k r) (bs.set k b):=by
 intro i hi
 rw[qat_set (by omega),qat_set (by omega)]
 have:=h i hi
 by_cases e:k=i
 ·subst e
  rw[if_pos (by omega),if_pos rfl,if_pos rfl];exact hg
 ·rw[if_neg e,if_neg e]
  by_cases hlt:i<k
  ·rw[if_pos hlt] at this;rw[if_pos (by omega)];exact this
  ·rw[if_neg hlt] at this;rw[if_neg (by omega)];exact this
theorem kept_at {l m:List Int} {q:List Rat} (h:NearTo l m q) {i:Nat} (hi:i<l.length):0≤qat q i∧Kept (iat m i) (iat l i) (qat q i):=by
 obtain⟨h1,h2,h3⟩:=h
 have e:∀(a:List Int),i<a.length→a[i]?=some (iat a i):=fun a ha=>by unfold iat;rw[List.getElem?_eq_getElem ha];rfl
 obtain⟨k1,k2⟩:=h3 i _ _ _ (e l hi) (e m (by omega)) (List.getElem?_eq_getElem (by omega))
 rw[qat_at (by omega)] at k1 k2
 exact⟨k1,k2⟩
attribute [local go_sem ↓] Go.wp_at_zero Go.wp_at_succ
theorem aone_any (k:Nat) (w:World) (hk:k≤40):Calls Tryz.prog 110 #[.int .i64 k] w fun e w'=>e= .returned (.int .i64 ((2^k:Nat):Int))∧w=w':=by
 have hP40:2^k≤2^40:=Nat.pow_le_pow_right (by omega) hk
 have hPi:((2^k:Nat):Int)=(2:Int)^k:=by simp
 obtain⟨P,hP⟩:∃P,P=2^k:=⟨_,rfl⟩
 rw[←hP] at hP40 hPi ⊢
 have w1:IntKind.i64.wrap ((2:Int)^k)=(P:Int):=by rw[←hPi,IntKind.wrap_i64];omega
 have w2:IntKind.i64.wrap (1*(2:Int)^k)=(P:Int):=by rw[Int.one_mul];exact w1
 clear hP hPi
 go_enter Tryz.func110,Tryz.ntmps110
 go_wp2
 go_ret
 exact⟨rfl,rfl⟩
theorem abeta_no (n:Int) (k X:Nat) (w:World) (hk:k≤40) (hX:Blk w X 3 #[.int .i64 k]) (hn:¬0≤n):
 Calls Tryz.prog 143 #[.int .i64 n,.pointer (some ⟨X,0,none⟩)] w fun e w'=>e= .returned (.bool false)∧w=w':=by
 have hO:=fun w=>aone_any k w hk
 have c0:=hX.cell 0
 have d0:decide (0≤n)=false:=decide_eq_false hn
 generalize 2^k=P at *
 clear hn
 go_enter Tryz.func143,Tryz.ntmps143
 go_wp2
 go_ret
 exact⟨rfl,rfl⟩
theorem abeta_yes (n:Int) (k X:Nat) (w:World) (hk:k≤40) (hX:Blk w X 3 #[.int .i64 k]) (hn:0≤n):
 Calls Tryz.prog 143 #[.int .i64 n,.pointer (some ⟨X,0,none⟩)] w fun e w'=>e= .returned (.bool (decide (n<((2^k:Nat):Int))))∧w=w':=by
 have hO:=fun w=>aone_any k w hk
 have c0:=hX.cell 0
 have d0:decide (0≤n)=true:=decide_eq_true hn
 generalize 2^k=P at *
 clear hn
 go_enter Tryz.func143,Tryz.ntmps143
 go_wp2_with fail
 refine (hO _).mono ?_
 rintro e w1 ⟨rfl,rfl⟩
 go_wp2
 go_ret
 exact⟨rfl,rfl⟩
theorem abeta_any (n:Int) (k X:Nat) (w:World) (hk:k≤40) (hX:Blk w X 3 #[.int .i64 k]):
 Calls Tryz.prog 143 #[.int .i64 n,.pointer (some ⟨X,0,none⟩)] w fun e w'=>e= .returned (.bool (decide (0≤n) && decide (n<((2^k:Nat):Int))))∧w=w':=by
 by_cases h:0≤n
 ·rw[decide_eq_true h,Bool.true_and];exact abeta_yes n k X w hk hX h
 ·rw[decide_eq_false h,Bool.false_and];exact abeta_no n k X w hk hX h
def rightA (lr b1 b2 eps wd f:Int):Bool:=decide (0≤f∧f≤40∧0≤lr∧0<eps∧(0≤b1∧b1<((2^f.toNat:Nat):Int))∧(0≤b2∧b2<((2^f.toNat:Nat):Int))∧0≤wd∧wd≤((2^f.toNat:Nat):Int))
theorem aright_f0 (lr b1 b2 eps wd f:Int) (apart:Bool) (w:World) (h:f<0):
 Calls Tryz.prog 82 #[.agg #[.int .i64 lr,.int .i64 b1,.int .i64 b2,.int .i64 eps,.int .i64 wd,.bool apart],.int .i64 f] w fun e w'=>e= .returned (.bool false)∧Below w.heap.size w w':=by
 have d0:decide (f<0)=true:=decide_eq_true h
 obtain⟨g,Y1,hA,hF,hB,hgw,EY⟩:=boxes2 w 61 #[.int .i64 lr,.int .i64 b1,.int .i64 b2,.int .i64 eps,.int .i64 wd,.bool apart] 3 #[.int .i64 f]
 obtain⟨c0,c1,c2,c3,c4,c5⟩:=hA.q6
 have c6:=hF.q1
 go_enter Tryz.func82,Tryz.ntmps82
 go_wp2_with fail
 rw[←EY.out.2,←EY.out.1]
 go_wp2
 go_ret
 exact⟨rfl,by rw[EY.out.1];exact hB⟩
theorem aright_f1 (lr b1 b2 eps wd f:Int) (apart:Bool) (w:World) (h0:¬f<0) (h:40<f):
 Calls Tryz.prog 82 #[.agg #[.int .i64 lr,.int .i64 b1,.int .i64 b2,.int .i64 eps,.int .i64 wd,.bool apart],.int .i64 f] w fun e w'=>e= .returned (.bool false)∧Below w.heap.size w w':=by
 have d0:decide (f<0)=false:=decide_eq_false h0
 have d1:decide (40<f)=true:=decide_eq_true h
 obtain⟨g,Y1,hA,hF,hB,hgw,EY⟩:=boxes2 w 61 #[.int .i64 lr,.int .i64 b1,.int .i64 b2,.int .i64 eps,.int .i64 wd,.bool apart] 3 #[.int .i64 f]
 obtain⟨c0,c1,c2,c3,c4,c5⟩:=hA.q6
 have c6:=hF.q1
 go_enter Tryz.func82,Tryz.ntmps82
 go_wp2_with fail
 rw[←EY.out.2,←EY.out.1]
 go_wp2
 go_ret
 exact⟨rfl,by rw[EY.out.1];exact hB⟩
theorem aright_in (lr b1 b2 eps wd f:Int) (apart:Bool) (w:World) (f0:0≤f) (f1:f≤40):
 Calls Tryz.prog 82 #[.agg #[.int .i64 lr,.int .i64 b1,.int .i64 b2,.int .i64 eps,.int .i64 wd,.bool apart],.int .i64 f] w fun e w'=>e= .returned (.bool (rightA lr b1 b2 eps wd f))∧Below w.heap.size w w':=by
 obtain⟨k,rfl⟩:∃k:Nat,f=(k:Int):=⟨f.toNat,by omega⟩
 have hk:k≤40:=by omega
 have d0:decide ((k:Int)<0)=false:=decide_eq_false (by omega)
 have d1:decide (40<(k:Int))=false:=decide_eq_false (by omega)
 have hO:=fun w=>aone_any k w hk
 have hb2:=fun X w hX=>abeta_any b1 k X w hk hX
 have hb3:=fun X w hX=>abeta_any b2 k X w hk hX
 obtain⟨v0,e0⟩:∃b,decide (0≤lr)=b:=⟨_,rfl⟩
 obtain⟨v1,e1⟩:∃b,decide (0<eps)=b:=⟨_,rfl⟩
 obtain⟨v2,e2⟩:∃b,(decide (0≤b1) && decide (b1<((2^k:Nat):Int)))=b:=⟨_,rfl⟩
 obtain⟨v3,e3⟩:∃b,(decide (0≤b2) && decide (b2<((2^k:Nat):Int)))=b:=⟨_,rfl⟩
 obtain⟨v4,e4⟩:∃b,decide (0≤wd)=b:=⟨_,rfl⟩
 obtain⟨v5,e5⟩:∃b,decide (wd≤((2^k:Nat):Int))=b:=⟨_,rfl⟩
 have hr:rightA lr b1 b2 eps wd (k:Int)=(v0 && (v1 && (v2 && (v3 && (v4 && v5))))):=by
  rw[←e0,←e1,←e2,←e3,←e4,←e5]
  unfold rightA
  rw[Int.toNat_natCast]
  simp only[Bool.decide_and]
  rw[decide_eq_true (show (0:Int)≤(k:Int) by omega),decide_eq_true (show (k:Int)≤40 by omega)]
  simp only[Bool.true_and]
 rw[hr]
 rw[e2] at hb2
 rw[e3] at hb3
 clear hr e2 e3
 generalize 2^k=P at *
 obtain⟨g,Y1,hA,hF,hB,hgw,EY⟩:=boxes2 w 61 #[.int .i64 lr,.int .i64 b1,.int .i64 b2,.int .i64 eps,.int .i64 wd,.bool apart] 3 #[.int .i64 k]
 obtain⟨c0,c1,c2,c3,c4,c5⟩:=hA.q6
 have c6:=hF.q1
 go_enter Tryz.func82,Tryz.ntmps82
 go_upto_region 4 with fail
 rw[←EY.out.2,←EY.out.1]
 replace hB:=hB.drew
 replace hA:=hA.drew
 replace hF:=hF.drew
 clear c0 c1 c2 c3 c4 c5 c6
 refine wp_region_noPanic ?_
 refine wp_region_held_drew (S:=fun w'=>w'.cell? ⟨g,0,none⟩=some (.int .i64 lr)∧w'.cell? ⟨g,1,none⟩=some (.int .i64 b1)∧w'.cell? ⟨g,2,none⟩=some (.int .i64 b2)∧w'.cell? ⟨g,3,none⟩=some (.int .i64 eps)∧w'.cell? ⟨g,4,none⟩=some (.int .i64 wd)∧w'.cell? ⟨g,5,none⟩=some (.bool apart)∧w'.cell? ⟨g+1,0,none⟩=some (.int .i64 k)) (by kernel_rfl) ?_ (fun hHeld=>?_)
 ·exact⟨hA.cell 0,hA.cell 1,hA.cell 2,hA.cell 3,hA.cell 4,hA.cell 5,hF.cell 0⟩
 obtain⟨wd4_1,hwd⟩:∃q,q=Y1.drew:=⟨_,rfl⟩
 rw[←hwd] at hB hA hF hHeld ⊢
 clear hwd
 refine tkA 0 rfl ?_
 refine tkA 1 rfl ?_
 refine tkA 2 rfl ?_
 refine tkA 3 rfl ?_
 cases v0
 ·refine tkS 4 rfl ?_
  refine tkS 5 rfl ?_
  refine tkS 6 rfl ?_
  refine tkA 7 rfl ?_
  refine tkA 8 rfl ?_
  refine tkS 9 rfl ?_
  refine tkS 10 rfl ?_
  refine tkS 11 rfl ?_
  refine tkS 12 rfl ?_
  refine tkA 13 rfl ?_
  refine tkA 14 rfl ?_
  refine tkS 15 rfl ?_
  refine tkS 16 rfl ?_
  refine tkS 17 rfl ?_
  refine tkS 18 rfl ?_
  refine tkA 19 rfl ?_
  refine tkA 20 rfl ?_
  refine tkS 21 rfl ?_
  refine tkS 22 rfl ?_
  refine tkS 23 rfl ?_
  refine tkA 24 rfl ?_
  refine tkA 25 rfl ?_
  refine tkS 26 rfl ?_
  refine tkS 27 rfl ?_
  refine tkS 28 rfl ?_
  refine tkS 29 rfl ?_
  refine tkS 30 rfl ?_
  refine tkA 31 rfl ?_
  refine tkA 32 rfl ?_
  try simp only[Act.put,lay]
  try dsimp only
  try simp only[Act.put,lay]
  refine wpAnyH_done (by kernel_rfl) ?_ _
  refine NoPanic.normal ?_
  skip
  obtain⟨c7,c8,c9,c10,c11,c12⟩:=hA.q6
  have c13:=hF.q1
  go_wp2
  go_ret
  exact⟨rfl,hB⟩
 refine tkA 4 rfl ?_
 refine tkA 5 rfl ?_
 refine tkA 6 rfl ?_
 refine tkA 7 rfl ?_
 refine tkA 8 rfl ?_
 cases v1
 ·refine tkS 9 rfl ?_
  refine tkS 10 rfl ?_
  refine tkS 11 rfl ?_
  refine tkS 12 rfl ?_
  refine tkA 13 rfl ?_
  refine tkA 14 rfl ?_
  refine tkS 15 rfl ?_
  refine tkS 16 rfl ?_
  refine tkS 17 rfl ?_
  refine tkS 18 rfl ?_
  refine tkA 19 rfl ?_
  refine tkA 20 rfl ?_
  refine tkS 21 rfl ?_
  refine tkS 22 rfl ?_
  refine tkS 23 rfl ?_
  refine tkA 24 rfl ?_
  refine tkA 25 rfl ?_
  refine tkS 26 rfl ?_
  refine tkS 27 rfl ?_
  refine tkS 28 rfl ?_
  refine tkS 29 rfl ?_
  refine tkS 30 rfl ?_
  refine tkA 31 rfl ?_
  refine tkA 32 rfl ?_
  try simp only[Act.put,lay]
  try dsimp only
  try simp only[Act.put,lay]
  refine wpAnyH_done (by kernel_rfl) ?_ _
  refine NoPanic.normal ?_
  skip
  obtain⟨c7,c8,c9,c10,c11,c12⟩:=hA.q6
  have c13:=hF.q1
  go_wp2
  go_ret
  exact⟨rfl,hB⟩
 refine tkA 9 rfl ?_
 refine tkA 10 rfl ?_
 refine tkA 11 rfl ?_
 try simp only[Act.put,lay]
 refine rd1 12 rfl fun K hK=>?_
 go_simp
 refine (hb2 _ _ hF).mono ?_
 rintro e u4_1 ⟨rfl,rfl⟩
 go_wp2_with fail
 refine hK.out _ _ ?_ fun hHeld=>?_
 ·exact⟨hA.cell 0,hA.cell 1,hA.cell 2,hA.cell 3,hA.cell 4,hA.cell 5,hF.cell 0⟩
 clear hK K
 refine tkA 13 rfl ?_
 refine tkA 14 rfl ?_
 cases v2
 ·refine tkS 15 rfl ?_
  refine tkS 16 rfl ?_
  refine tkS 17 rfl ?_
  refine tkS 18 rfl ?_
  refine tkA 19 rfl ?_
  refine tkA 20 rfl ?_
  refine tkS 21 rfl ?_
  refine tkS 22 rfl ?_
  refine tkS 23 rfl ?_
  refine tkA 24 rfl ?_
  refine tkA 25 rfl ?_
  refine tkS 26 rfl ?_
  refine tkS 27 rfl ?_
  refine tkS 28 rfl ?_
  refine tkS 29 rfl ?_
  refine tkS 30 rfl ?_
  refine tkA 31 rfl ?_
  refine tkA 32 rfl ?_
  try simp only[Act.put,lay]
  try dsimp only
  try simp only[Act.put,lay]
  refine wpAnyH_done (by kernel_rfl) ?_ _
  refine NoPanic.normal ?_
  skip
  obtain⟨c7,c8,c9,c10,c11,c12⟩:=hA.q6
  have c13:=hF.q1
  go_wp2
  go_ret
  exact⟨rfl,hB⟩
 refine tkA 15 rfl ?_
 refine tkA 16 rfl ?_
 refine tkA 17 rfl ?_
 try simp only[Act.put,lay]
 refine rd1 18 rfl fun K hK=>?_
 go_simp
 refine (hb3 _ _ hF).mono ?_
 rintro e u4_2 ⟨rfl,rfl⟩
 go_wp2_with fail
 refine hK.out _ _ ?_ fun hHeld=>?_
 ·exact⟨hA.cell 0,hA.cell 1,hA.cell 2,hA.cell 3,hA.cell 4,hA.cell 5,hF.cell 0⟩
 clear hK K
 refine tkA 19 rfl ?_
 refine tkA 20 rfl ?_
 cases v3
 ·refine tkS 21 rfl ?_
  refine tkS 22 rfl ?_
  refine tkS 23 rfl ?_
  refine tkA 24 rfl ?_
  refine tkA 25 rfl ?_
  refine tkS 26 rfl ?_
  refine tkS 27 rfl ?_
  refine tkS 28 rfl ?_
  refine tkS 29 rfl ?_
  refine tkS 30 rfl ?_
  refine tkA 31 rfl ?_
  refine tkA 32 rfl ?_
  try simp only[Act.put,lay]
  try dsimp only
  try simp only[Act.put,lay]
  refine wpAnyH_done (by kernel_rfl) ?_ _
  refine NoPanic.normal ?_
  skip
  obtain⟨c7,c8,c9,c10,c11,c12⟩:=hA.q6
  have c13:=hF.q1
  go_wp2
  go_ret
  exact⟨rfl,hB⟩
 refine tkA 21 rfl ?_
 refine tkA 22 rfl ?_
 refine tkA 23 rfl ?_
 refine tkA 24 rfl ?_
 refine tkA 25 rfl ?_
 cases v4
 ·refine tkS 26 rfl ?_
  refine tkS 27 rfl ?_
  refine tkS 28 rfl ?_
  refine tkS 29 rfl ?_
  refine tkS 30 rfl ?_
  refine tkA 31 rfl ?_
  refine tkA 32 rfl ?_
  try simp only[Act.put,lay]
  try dsimp only
  try simp only[Act.put,lay]
  refine wpAnyH_done (by kernel_rfl) ?_ _
  refine NoPanic.normal ?_
  skip
  obtain⟨c7,c8,c9,c10,c11,c12⟩:=hA.q6
  have c13:=hF.q1
  go_wp2
  go_ret
  exact⟨rfl,hB⟩
 refine tkA 26 rfl ?_
 refine tkA 27 rfl ?_
 refine tkA 28 rfl ?_
 try simp only[Act.put,lay]
 refine rd1 29 rfl fun K hK=>?_
 go_simp
 refine (hO _).mono ?_
 rintro e u4_3 ⟨rfl,rfl⟩
 go_wp2_with fail
 refine hK.out _ _ ?_ fun hHeld=>?_
 ·exact⟨hA.cell 0,hA.cell 1,hA.cell 2,hA.cell 3,hA.cell 4,hA.cell 5,hF.cell 0⟩
 clear hK K
 refine tkA 30 rfl ?_
 refine tkA 31 rfl ?_
 refine tkA 32 rfl ?_
 try simp only[Act.put,lay]
 try dsimp only
 try simp only[Act.put,lay]
 refine wpAnyH_done (by kernel_rfl) ?_ _
 refine NoPanic.normal ?_
 skip
 obtain⟨c7,c8,c9,c10,c11,c12⟩:=hA.q6
 have c13:=hF.q1
 go_wp2
 go_ret
 exact⟨rfl,hB⟩
theorem aright_any (lr b1 b2 eps wd f:Int) (apart:Bool) (w:World):
 Calls Tryz.prog 82 #[.agg #[.int .i64 lr,.int .i64 b1,.int .i64 b2,.int .i64 eps,.int .i64 wd,.bool apart],.int .i64 f] w fun e w'=>e= .returned (.bool (rightA lr b1 b2 eps wd f))∧Below w.heap.size w w':=by
 have no:¬(0≤f∧f≤40∧0≤lr∧0<eps∧(0≤b1∧b1<((2^f.toNat:Nat):Int))∧(0≤b2∧b2<((2^f.toNat:Nat):Int))∧0≤wd∧wd≤((2^f.toNat:Nat):Int))→rightA lr b1 b2 eps wd f=false:=fun h=>decide_eq_false h
 by_cases f0:f<0
 ·rw[no (by omega)];exact aright_f0 lr b1 b2 eps wd f apart w f0
 by_cases f1:40<f
 ·rw[no (by omega)];exact aright_f1 lr b1 b2 eps wd f apart w f0 f1
 exact aright_in lr b1 b2 eps wd f apart w (by omega) (by omega)
theorem IsL.uniq {w:World} {v:Value} {l l':List Nat} (h:IsL w v l) (h':IsL w v l'):l=l':=by
 obtain⟨A,c,rfl,_,_,_,h4⟩:=h
 obtain⟨A',c',e,_,_,_,k4⟩:=h'
 injection e with e1 e2 e3
 subst e1
 apply List.ext_getElem e2
 intro i hi hi'
 obtain⟨ad,u,e,_,hu,hc⟩:=h4.at_ hi
 obtain⟨ad',u',e',_,hu',hc'⟩:=k4.at_ hi'
 subst e
 injection e' with e'
 subst e'
 rw[hc] at hc'
 rw[us_at l i hi] at hu
 rw[us_at l' i hi'] at hu'
 obtain rfl:=Option.some.inj hu
 obtain rfl:=Option.some.inj hu'
 have e4:=Option.some.inj hc'
 injection e4 with _ e4
 rw[List.getElem?_eq_getElem hi,List.getElem?_eq_getElem hi'] at e4
 simp only[Option.getD_some] at e4
 exact Int.ofNat.inj e4
theorem IsN.uniq {w:World} {v:Value} {n m:Nat} (h:IsN w v n) (h':IsN w v m):n=m:=by
 have:=IsL.uniq h h'
 rw[←num_limbs n,this,num_limbs]
open Classical in
noncomputable def numAt (w:World) (v:Value):Nat:=if h:∃n,IsN w v n then h.choose else 0
theorem numAt_eq {w:World} {v:Value} {n:Nat} (h:IsN w v n):numAt w v=n:=by
 unfold numAt
 have hx:∃n,IsN w v n:=⟨n,h⟩
 rw[dif_pos hx]
 exact IsN.uniq hx.choose_spec h
theorem newton_up {a x:Nat} (hx:0<x):a<((x+a / x) / 2+1)*((x+a / x) / 2+1):=by
 have h1:a<x*(a / x+1):=by
  have:=Nat.div_add_mod a x
  have:=Nat.mod_lt a hx
  rw[Nat.mul_add,Nat.mul_one];omega
 generalize a / x=q at *
 have h2:x+q+1≤2*((x+q) / 2+1):=by omega
 generalize (x+q) / 2+1=m at *
 have h3:(x+(q+1))*(x+(q+1))≤(2*m)*(2*m):=Nat.mul_le_mul (by omega) (by omega)
 have h4:4*(x*(q+1))≤(x+(q+1))*(x+(q+1)):=by
  have h5:(x+(q+1))*(x+(q+1))=x*x+2*(x*(q+1))+(q+1)*(q+1):=by grind
  rw[h5]
  generalize q+1=p
  rcases Nat.le_total x p with h | h
  ·obtain⟨d,rfl⟩:=Nat.exists_eq_add_of_le h
   have :x*x+(x+d)*(x+d)=2*(x*(x+d))+d*d:=by grind
   omega
  ·obtain⟨d,rfl⟩:=Nat.exists_eq_add_of_le h
   have :(p+d)*(p+d)+p*p=2*((p+d)*p)+d*d:=by grind
   omega
 have h6:(2*m)*(2*m)=4*(m*m):=by grind
 omega
theorem newton_end {a x:Nat} (hx:0<x) (h:x≤(x+a / x) / 2):x*x≤a:=by
 have h1:x≤a / x:=by omega
 exact (Nat.le_div_iff_mul_le hx).1 h1
theorem newton_start (a:Nat):a<(2^(bl a / 2+1)+1)*(2^(bl a / 2+1)+1):=by
 have h1:=lt_bl a
 have h2:2^bl a≤2^(bl a / 2+1+(bl a / 2+1)):=Nat.pow_le_pow_right (by omega) (by omega)
 rw[Nat.pow_add] at h2
 generalize 2^(bl a / 2+1)=x at *
 have :x*x≤(x+1)*(x+1):=Nat.mul_le_mul (by omega) (by omega)
 omega
def IsRt (a r:Nat):Prop:=r*r≤a∧a<(r+1)*(r+1)
theorem IsRt.uniq {a r s:Nat} (h:IsRt a r) (h':IsRt a s):r=s:=by
 have key:∀{r s:Nat},r*r≤a→a<(s+1)*(s+1)→r≤s:=fun {r s} h1 h2=>by
  rcases Nat.lt_or_ge s r with h | h
  ·have:=Nat.mul_le_mul (show s+1≤r from h) (show s+1≤r from h)
   omega
  ·exact h
 exact Nat.le_antisymm (key h.1 h'.2) (key h'.1 h.2)
theorem rpow1_any (va:Value) (a:Nat) (w:World) (ha:IsN w va a) (hla:Sz a 100000):
 Calls Tryz.prog 205 #[va,.int .i64 1] w fun e w'=>∃v',e= .returned v'∧IsN w' v' (a)∧Below w.heap.size w w':=by
 have hO:=fun w=>of_any 1 (by unfold W64;omega) w
 rw[show ((1:Nat):Int)=1 from rfl] at hO
 have hM1:=fun u v w hu hv=>mul_any u v 1 a w hu hv (Sz.one.fin (by omega)) (hla.fin (by omega))
 rw[Nat.one_mul] at hM1
 go_enter Tryz.func205,Tryz.ntmps205
 go_wp2_with fail
 refine (hO _).mono ?_
 rintro e w1 ⟨v5,rfl,h5,b1⟩
 replace ha:=ha.b b1
 go_wp2_with fail
 go_loopw [0,1,5] (fun aV kV oV wr=>((kV= .int .i64 1∧IsN wr aV a∧IsN wr oV 1)∨(kV= .int .i64 0∧IsN wr oV a))∧Below w.heap.size w wr) (fun _ kV _ _=>(intOf kV).toNat)
 case atStart=>exact⟨.inl ⟨rfl,ha,h5⟩,b1⟩
 case round=>
  clear ha h5 b1 hla
  obtain⟨⟨rfl,ha,ho⟩ | ⟨rfl,ho⟩,hB⟩:=hrel
  ·go_wp2_with fail
   refine (hM1 _ _ _ ho ha).mono ?_
   rintro e w2 ⟨v6,rfl,h6,b2⟩
   replace hB:=bOn hB b2
   go_wp2
   exact⟨⟨.inr ⟨rfl,h6⟩,hB⟩,by simp[intOf]⟩
  ·go_wp2
   go_ret
   exact⟨_,rfl,ho,hB⟩
theorem rstep_any (vx:Value) (A:Option Addr) (L C x a X2 X3:Nat) (w:World) (hx:IsN w vx x) (ha:IsN w (.slice A L C) a) (h2:Blk w X2 28 #[.slice A L C]) (h3:Blk w X3 3 #[.int .i64 2]) (x0:0<x) (sx:Sz x 20000) (sa:Sz a 20000):
 Calls Tryz.prog 204 #[vx,.pointer (some ⟨X2,0,none⟩),.pointer (some ⟨X3,0,none⟩)] w fun e w'=>∃v',e= .returned v'∧IsN w' v' ((x+a / x) / 2)∧Below w.heap.size w w':=by
 have hP:=fun w h=>rpow1_any vx x w h (sx.more (by omega))
 have hD:=fun v w h h'=>dm_any (.slice A L C) v a x x0 w h h' (sa.fin (by omega))
 have hO1:=fun w=>of_any 1 (by unfold W64;omega) w
 rw[show ((1:Nat):Int)=1 from rfl] at hO1
 have hO2:=fun w=>of_any 2 (by unfold W64;omega) w
 rw[show ((2:Nat):Int)=2 from rfl] at hO2
 have hM:=fun u w h h'=>mul_any u vx 1 x w h h' (Sz.one.fin (by omega)) (sx.fin (by omega))
 rw[Nat.one_mul] at hM
 have sq:Sz (a / x) 20000:=sa.le (Nat.div_le_self a x)
 have hA:=fun u v w h h'=>add_any u v x (a / x) w h h' (sx.fin (by omega)) (sq.fin (by omega))
 have hD2:=fun u v w h h'=>dm_any u v (x+a / x) 2 (by omega) w h h' ((sx.add sq).fin (by omega))
 have hB:=Below.refl w.heap.size w
 have c0:=h2.q1
 have c1:=h3.q1
 go_enter Tryz.func204,Tryz.ntmps204
 go_upto_region 1 with fail
 replace hB:=hB.drew
 replace hx:=hx.b (bdrew _)
 replace ha:=ha.b (bdrew _)
 replace h2:=h2.drew
 replace h3:=h3.drew
 clear c0 c1
 refine wp_region_noPanic ?_
 refine wp_region_held_drew (S:=fun w'=>w'.cell? ⟨X2,0,none⟩=some (.slice A L C)∧w'.cell? ⟨X3,0,none⟩=some (.int .i64 2)) (by kernel_rfl) ?_ (fun hHeld=>?_)
 ·exact⟨h2.cell 0,h3.cell 0⟩
 obtain⟨wd1_1,hwd⟩:∃q,q=w.drew:=⟨_,rfl⟩
 rw[←hwd] at hB hx ha h2 h3 hHeld ⊢
 clear hwd
 refine tkA 0 rfl ?_
 refine tkA 1 rfl ?_
 refine tkA 2 rfl ?_
 refine tkA 3 rfl ?_
 try simp only[Act.put,lay]
 refine rd1 4 rfl fun K hK=>?_
 go_simp
 refine (hP _ hx).mono ?_
 rintro e u1_1 ⟨v1,rfl,h1,b1_1⟩
 replace hx:=hx.b b1_1
 replace ha:=ha.b b1_1
 replace h2:=h2.b b1_1
 replace h3:=h3.b b1_1
 replace hB:=bOn hB b1_1
 go_wp2_with fail
 refine hK.out _ _ ?_ fun hHeld=>?_
 ·exact⟨h2.cell 0,h3.cell 0⟩
 clear hK K
 try simp only[Act.put,lay]
 refine rd1 5 rfl fun K hK=>?_
 go_simp
 refine (hD _ _ ha h1).mono ?_
 rintro e u1_2 ⟨q1,r1,rfl,hq, -, -,b1_2⟩
 replace hx:=hx.b b1_2
 replace ha:=ha.b b1_2
 replace h2:=h2.b b1_2
 replace h3:=h3.b b1_2
 replace h1:=h1.b b1_2
 replace hB:=bOn hB b1_2
 go_wp2_with fail
 refine hK.out _ _ ?_ fun hHeld=>?_
 ·exact⟨h2.cell 0,h3.cell 0⟩
 clear hK K
 refine tkA 6 rfl ?_
 refine tkA 7 rfl ?_
 refine tkA 8 rfl ?_
 refine tkA 9 rfl ?_
 refine tkA 10 rfl ?_
 refine tkA 11 rfl ?_
 refine tkA 12 rfl ?_
 try simp only[Act.put,lay]
 try dsimp only
 try simp only[Act.put,lay]
 refine wpAnyH_done (by kernel_rfl) ?_ _
 refine NoPanic.normal ?_
 skip
 have c2:=h2.q1
 have c3:=h3.q1
 go_wp2_with fail
 refine (hO1 _).mono ?_
 rintro e w4 ⟨v4,rfl,h4,b4⟩
 replace hx:=hx.b b4
 replace ha:=ha.b b4
 replace h2:=h2.b b4
 replace h3:=h3.b b4
 replace hq:=hq.b b4
 replace hB:=bOn hB b4
 clear c2 c3
 have c4:=h2.q1
 have c5:=h3.q1
 go_wp2_with fail
 refine (hM _ _ h4 hx).mono ?_
 rintro e w6 ⟨v5,rfl,h5,b6⟩
 replace hx:=hx.b b6
 replace ha:=ha.b b6
 replace h2:=h2.b b6
 replace h3:=h3.b b6
 replace hq:=hq.b b6
 replace h4:=h4.b b6
 replace hB:=bOn hB b6
 clear c4 c5
 have c6:=h2.q1
 have c7:=h3.q1
 go_wp2_with fail
 refine (hA _ _ _ h5 hq).mono ?_
 rintro e w8 ⟨v6,rfl,h6,b8⟩
 replace hx:=hx.b b8
 replace ha:=ha.b b8
 replace h2:=h2.b b8
 replace h3:=h3.b b8
 replace hq:=hq.b b8
 replace h5:=h5.b b8
 replace hB:=bOn hB b8
 clear c6 c7
 have c8:=h2.q1
 have c9:=h3.q1
 go_wp2_with fail
 refine (hO2 _).mono ?_
 rintro e w10 ⟨v7,rfl,h7,b10⟩
 replace hx:=hx.b b10
 replace ha:=ha.b b10
 replace h2:=h2.b b10
 replace h3:=h3.b b10
 replace h6:=h6.b b10
 replace hB:=bOn hB b10
 clear c8 c9
 have c10:=h2.q1
 have c11:=h3.q1
 go_wp2_with fail
 refine (hD2 _ _ _ h6 h7).mono ?_
 rintro e w12 ⟨q8,r8,rfl,h8, -, -,b12⟩
 replace hx:=hx.b b12
 replace ha:=ha.b b12
 replace h2:=h2.b b12
 replace h3:=h3.b b12
 replace h6:=h6.b b12
 replace h7:=h7.b b12
 replace hB:=bOn hB b12
 clear c10 c11
 have c12:=h2.q1
 have c13:=h3.q1
 go_wp2
 go_ret
 exact⟨_,rfl,h8,hB⟩
theorem root_any (va:Value) (a:Nat) (w:World) (ha:IsN w va a) (sa:Sz a 600):
 Calls Tryz.prog 151 #[va,.int .i64 2] w fun e w'=>∃r v',e= .returned (.tuple #[v',.int .i64 0])∧IsN w' v' r∧IsRt a r∧Below w.heap.size w w':=by
 have hE:∀w:World,Calls Tryz.prog 203 #[.int .i64 2] w fun e w'=>e= .returned (.bool true)∧w=w':=fun w=>by
  go_enter Tryz.func203,Tryz.ntmps203
  go_wp2
  go_ret
  exact⟨rfl,rfl⟩
 obtain⟨A,L,C,rfl,ha⟩:=ha.opn
 obtain⟨L',hL⟩:∃n,n=(limbs a).length:=⟨_,rfl⟩
 have hLL:L=L':=by
  obtain⟨A',c,e,_⟩:=ha
  injection e with _ e2
  omega
 subst hLL
 rcases Nat.eq_zero_or_pos a with h0 | h0
 ·subst h0
  rw[limbs_zero] at hL
  have hL0:L=0:=hL
  have hl1:((L:Int) == 0)=true:=by simp[hL0]
  have hl2:decide ((L:Int)=0)=true:=decide_eq_true (by omega)
  clear hL hL0
  obtain⟨g,Y1,h2,h3,hB,hgw,EY⟩:=boxes2 w 28 #[.slice A L C] 3 #[.int .i64 2]
  replace ha:=ha.b hB
  have c0:=h2.q1
  have c1:=h3.q1
  go_enter Tryz.func151,Tryz.ntmps151
  go_wp2_with fail
  rw[←EY.out.2,←EY.out.1]
  refine (hE _).mono ?_
  rintro e w2 ⟨rfl,rfl⟩
  go_wp2
  exact bodyPost_ret (v:= .tuple #[.slice none 0 0,.int .i64 0]) (by simp[results,Tryz.results151,go_sem]) rfl ⟨0,_,rfl,IsN.zero _,⟨by omega,by omega⟩,hB⟩
 have hLp:L≠0:=fun e=>by
  rw[hL] at e
  have:=List.eq_nil_of_length_eq_zero e
  have h1:=num_limbs a
  rw[this] at h1
  simp[num] at h1;omega
 clear hL
 have hl1:((L:Int) == 0)=false:=by simpa using hLp
 have hl2:decide ((L:Int)=0)=false:=decide_eq_false (by omega)
 have hO:=fun w=>of_any 1 (by unfold W64;omega) w
 rw[show ((1:Nat):Int)=1 from rfl] at hO
 have hBi:=fun w h=>bits_any (.slice A L C) a w h (sa.fin (by omega))
 have hbl:=sa.bl
 have hn:=newton_start a
 obtain⟨n,en⟩:∃n,n=bl a / 2+1:=⟨_,rfl⟩
 rw[←en] at hn
 have hS:=fun v w h=>dshl_any v 1 n (by omega) w h (Sz.one.fin (by omega))
 rw[Nat.one_mul] at hS
 obtain⟨m,em⟩:∃m,m=n - 1:=⟨_,rfl⟩
 have q1:((bl a:Nat):Int) / 2=(m:Int):=by omega
 have q2:((bl a:Nat):Int).tdiv 2=(m:Int):=by rw[Int.tdiv_eq_ediv_of_nonneg (by omega)];exact q1
 have q8:IntKind.i64.wrap (m:Int)=(m:Int):=by rw[IntKind.wrap_i64];omega
 have q3:IntKind.i64.wrap (((bl a:Nat):Int).tdiv 2)=(m:Int):=by rw[q2,q8]
 have q5:IntKind.i64.wrap (((bl a:Nat):Int) / 2)=(m:Int):=by rw[q1,q8]
 have q6:(m:Int)+1=(n:Int):=by omega
 have q7:IntKind.i64.wrap ((m:Int)+1)=(n:Int):=by rw[q6,IntKind.wrap_i64];omega
 have sx0:Sz (2^n) 20000:=(Sz.two_pow n).more (by omega)
 have hRt:=fun (vx:Value) (x X2 X3:Nat) (w:World) (h1:IsN w vx x) (h2:IsN w (.slice A L C) a) (h3:Blk w X2 28 #[.slice A L C]) (h4:Blk w X3 3 #[.int .i64 2]) (h5:0<x) (h6:Sz x 20000)=>rstep_any vx A L C x a X2 X3 w h1 h2 h3 h4 h5 h6 (sa.more (by omega))
 have hCm:=fun u v x y w h h'=>cmp_any u v x y w h h'
 have hLn:=Lib.hid hLp
 clear hbl en em hLp q6
 obtain⟨g,Y1,h2,h3,hB,hgw,EY⟩:=boxes2 w 28 #[.slice A L C] 3 #[.int .i64 2]
 replace ha:=ha.b hB
 have c0:=h2.q1
 have c1:=h3.q1
 go_enter Tryz.func151,Tryz.ntmps151
 go_wp2_with fail
 rw[←EY.out.2,←EY.out.1]
 refine (hE _).mono ?_
 rintro e w2 ⟨rfl,rfl⟩
 go_upto_region 6 with fail
 replace hB:=hB.drew
 replace ha:=ha.b (bdrew _)
 replace h2:=h2.drew
 replace h3:=h3.drew
 clear c0 c1
 refine wp_region_noPanic ?_
 refine wp_region_held_drew (S:=fun w'=>w'.cell? ⟨g,0,none⟩=some (.slice A L C)∧w'.cell? ⟨g+1,0,none⟩=some (.int .i64 2)) (by kernel_rfl) ?_ (fun hHeld=>?_)
 ·exact⟨h2.cell 0,h3.cell 0⟩
 obtain⟨wd6_1,hwd⟩:∃q,q=Y1.drew:=⟨_,rfl⟩
 rw[←hwd] at hB ha h2 h3 hHeld ⊢
 clear hwd
 refine tkA 1 rfl ?_
 refine tkA 3 rfl ?_
 try simp only[Act.put,lay]
 refine rd1 0 rfl fun K hK=>?_
 go_simp
 refine (hO _).mono ?_
 rintro e u6_1 ⟨v7,rfl,h7,b6_1⟩
 replace ha:=ha.b b6_1
 replace h2:=h2.b b6_1
 replace h3:=h3.b b6_1
 replace hB:=bOn hB b6_1
 go_wp2_with fail
 refine hK.out _ _ ?_ fun hHeld=>?_
 ·exact⟨h2.cell 0,h3.cell 0⟩
 clear hK K
 try simp only[Act.put,lay]
 refine rd1 2 rfl fun K hK=>?_
 go_simp
 refine (hBi _ ha).mono ?_
 rintro e u6_2 ⟨rfl,rfl⟩
 go_wp2_with fail
 refine hK.out _ _ ?_ fun hHeld=>?_
 ·exact⟨h2.cell 0,h3.cell 0⟩
 clear hK K
 refine tkA 4 rfl ?_
 refine tkA 5 rfl ?_
 try simp only[Act.put,lay]
 refine rd1 6 rfl fun K hK=>?_
 go_simp
 refine (hS _ _ h7).mono ?_
 rintro e u6_3 ⟨v8,rfl,h8,b6_3⟩
 replace ha:=ha.b b6_3
 replace h2:=h2.b b6_3
 replace h3:=h3.b b6_3
 replace h7:=h7.b b6_3
 replace hB:=bOn hB b6_3
 go_wp2_with fail
 refine hK.out _ _ ?_ fun hHeld=>?_
 ·exact⟨h2.cell 0,h3.cell 0⟩
 clear hK K
 refine tkA 7 rfl ?_
 refine tkA 8 rfl ?_
 refine tkA 9 rfl ?_
 refine tkA 10 rfl ?_
 refine tkA 11 rfl ?_
 try simp only[Act.put,lay]
 try dsimp only
 try simp only[Act.put,lay]
 refine wpAnyH_done (by kernel_rfl) ?_ _
 refine NoPanic.normal ?_
 skip
 have c2:=h2.q1
 have c3:=h3.q1
 have p0:0<2^n:=Nat.pow_pos (by omega)
 go_wp2_with fail
 refine (hRt _ _ _ _ _ h8 ha h2 h3 p0 sx0).mono ?_
 rintro e w5 ⟨v9,rfl,h9,b5⟩
 replace ha:=ha.b b5
 replace h2:=h2.b b5
 replace h3:=h3.b b5
 replace h8:=h8.b b5
 replace hB:=bOn hB b5
 clear c2 c3
 have c4:=h2.q1
 have c5:=h3.q1
 go_wp2_with fail
 go_loopw [7,9] (fun xV yV wr=>∃x,IsN wr xV x∧IsN wr yV ((x+a / x) / 2)∧0<x∧Sz x 20000∧a<(x+1)*(x+1)∧IsN wr (.slice A L C) a∧Blk wr g 28 #[.slice A L C]∧Blk wr (g+1) 3 #[.int .i64 2]∧Below w.heap.size w wr) (fun xV _ wr=>numAt wr xV)
 case atStart=>exact⟨2^n,h8,h9,p0,sx0,hn,ha,h2,h3,hB⟩
 case round=>
  clear h8 h9 ha h2 h3 hB sx0 hn p0
  obtain⟨x,h8,h9,p0,sx,hn,ha,h2,h3,hB⟩:=hrel
  have hm:=numAt_eq h8
  have up:=newton_up (a:=a) p0
  have hle:=newton_end (a:=a) p0
  have hdl:=Nat.div_le_self a x
  generalize hy:(x+a / x) / 2=y at *
  have hC:=hCm _ _ y x wr h9 h8
  by_cases hlt:y<x
  ·have hc:cmpI y x= -1:=by unfold cmpI;rw[if_pos (by omega)]
   rw[hc] at hC
   go_wp2_with fail
   refine hC.mono ?_
   rintro e w5 ⟨rfl,b5⟩
   replace h9:=h9.b b5
   replace ha:=ha.b b5
   replace h2:=h2.b b5
   replace h3:=h3.b b5
   replace hB:=bOn hB b5
   have y0:0<y:=by
    rcases Nat.eq_zero_or_pos y with h | h
    ·subst h;simp at up;omega
    ·exact h
   have sy:Sz y 20000:=sx.le (by omega)
   go_wp2_with fail
   refine (hRt _ _ _ _ _ h9 ha h2 h3 y0 sy).mono ?_
   rintro e w6 ⟨v9,rfl,h10,b6⟩
   replace h9:=h9.b b6
   replace ha:=ha.b b6
   replace h2:=h2.b b6
   replace h3:=h3.b b6
   replace hB:=bOn hB b6
   have hm2:=numAt_eq h9
   go_wp2
   exact⟨⟨y,h9,h10,y0,sy,up,ha,h2,h3,hB⟩,by simp only[hm,hm2];simp[hlt]⟩
  ·have hc:0≤cmpI y x:=by unfold cmpI;(repeat' split)<;>omega
   have hr:=hle (by omega)
   generalize cmpI y x=cm at *
   have hc2:decide (cm<0)=false:=decide_eq_false (by omega)
   go_wp2_with fail
   refine hC.mono ?_
   rintro e w5 ⟨rfl,b5⟩
   replace h8:=h8.b b5
   replace hB:=bOn hB b5
   go_wp2
   exact bodyPost_ret (v:= .tuple #[u7,.int .i64 0]) (by simp[results,Tryz.results151,go_sem]) rfl ⟨x,_,rfl,h8,⟨hr,hn⟩,hB⟩
end Go.Proofs.YtdnjdglekifhpaaGreat
namespace Go.Proofs.YtdnjdglekifhpaaGreat
theorem rt_ex:∀a:Nat,∃r,IsRt a r
 | 0=>⟨0,by unfold IsRt;omega⟩
 | a + 1 => by
   obtain⟨r,h1,h2⟩:=rt_ex a
   by_cases h:(r+1)*(r+1)≤a+1
   ·refine ⟨r+1,h,?_⟩
    have :(r+1+1)*(r+1+1)=(r+1)*(r+1)+2*(r+1)+1:=by grind
    omega
   ·exact⟨r,by omega,by omega⟩
noncomputable def rootN (a:Nat):Nat:=(rt_ex a).choose
theorem rootN_is (a:Nat):IsRt a (rootN a):=(rt_ex a).choose_spec
open Go.RowKit
attribute [local go_sem ↓] Go.wp_at_zero Go.wp_at_succ
def divF (a b:Int) (f:Nat):Int:=sided (decide (a<0) != decide (b<0)) (rne (a.natAbs*2^f) b.natAbs)
noncomputable def sqrtF (a:Int) (f:Nat):Int:=(rootN (a.natAbs*2^f):Nat)
theorem sqrtF_in {a:Int} {f:Nat} (ha:a≤9223372036854775807) (h0:0≤a) (hf:f≤40):0≤sqrtF a f∧sqrtF a f≤4503599627370496:=by
 unfold sqrtF
 have h:=(rootN_is (a.natAbs*2^f)).1
 obtain⟨_,p2⟩:=pow_le40 f hf
 have h2:a.natAbs*2^f≤9223372036854775808*1099511627776:=Nat.mul_le_mul (by omega) p2
 generalize rootN (a.natAbs*2^f)=r at *
 refine ⟨by omega,?_⟩
 have :r≤4503599627370496:=by
  rcases Nat.lt_or_ge 4503599627370496 r with h3 | h3
  ·have:=Nat.mul_le_mul h3 h3;omega
  ·exact h3
 omega
theorem fdiv_tt (a b:Int) (f:Nat) (hf:f≤40) (hb:¬b=0) (h1:decide (a<0)=true) (h2:decide (b<0)=true) (ha0: -9223372036854775808≤a) (ha1:a≤9223372036854775807) (hb0: -9223372036854775808≤b) (hb1:b≤9223372036854775807) (w:World):
 Calls Tryz.prog 242 #[.int .i64 a,.int .i64 b,.int .i64 f] w fun e w'=>e= .returned (.tuple #[.int .i64 (fitV (divF a b f)),.int .i64 (fitE (divF a b f))])∧Below w.heap.size w w':=by
 have hF:=fun w=>isfrac_any f w
 rw[decide_eq_true (by omega)] at hF
 obtain⟨p1,p2⟩:=pow_le40 f hf
 have hSa:=fun w=>size_any a ha0 ha1 w
 have hSb:=fun w=>size_any b hb0 hb1 w
 have hxa:a.natAbs<W64:=by unfold W64;omega
 have hxb:b.natAbs<W64:=by unfold W64;omega
 have hxd:2^f<W64:=by unfold W64;omega
 have hM:=fun w=>mul64_any a.natAbs (2^f) hxa hxd w
 have hsum:a.natAbs*2^f / W64*W64+a.natAbs*2^f % W64=a.natAbs*2^f:=by rw[Nat.mul_comm];exact Nat.div_add_mod _ _
 have h0:a.natAbs*2^f / W64<W64:=by
  rw[Nat.div_lt_iff_lt_mul W64_pos]
  exact Nat.mul_lt_mul'' hxa hxd
 have hBy:=by_any (decide (a<0) != decide (b<0)) (a.natAbs*2^f / W64) (a.natAbs*2^f % W64) b.natAbs h0 (Nat.mod_lt _ W64_pos) hxb (by omega)
 rw[hsum] at hBy
 have hz:sided (decide (a<0) != decide (b<0)) (rne (a.natAbs*2^f) b.natAbs)=divF a b f:=rfl
 rw[hz] at hBy
 clear hz hsum h0 hxa hxb hxd
 generalize divF a b f=z at *
 have hsh:IntKind.u64.wrap (1*2^f)=((2^f:Nat):Int):=by
  rw[IntKind.wrap_u64,Int.one_mul,show (2:Int)^f=((2^f:Nat):Int) from by simp];omega
 have hsh2:IntKind.u64.wrap (2^f)=((2^f:Nat):Int):=by
  rw[IntKind.wrap_u64,show (2:Int)^f=((2^f:Nat):Int) from by simp];omega
 generalize a.natAbs*2^f / W64=hi at *
 generalize a.natAbs*2^f % W64=lo at *
 generalize 2^f=d at *
 generalize a.natAbs=x at *
 generalize b.natAbs=y at *
 have hbe:(b == 0)=false:=by simpa using hb
 have hs0:(0:Int)≤f:=by omega
 clear p1 p2 ha0 ha1 hb0 hb1
 have hBy:∀w,Calls Tryz.prog 171 #[.bool (decide (a<0) != decide (b<0)),.agg #[.int .u64 hi,.int .u64 lo],.int .u64 y] w fun e w'=>e= .returned (.tuple #[.int .i64 (fitV z),.int .i64 (fitE z)])∧Below w.heap.size w w':=hBy
 rw[h1,h2] at hBy
 have hB:=Below.refl w.heap.size w
 go_enter Tryz.func242,Tryz.ntmps242
 go_wp2_with fail
 refine (hF _).mono ?_
 rintro e w1 ⟨rfl,rfl⟩
 go_upto_region 5 with fail
 replace hB:=hB.drew
 refine wp_region_noPanic ?_
 refine wp_region_held_drew (S:=fun w'=>True) (by kernel_rfl) ?_ (fun hHeld=>?_)
 ·trivial
 obtain⟨wd5_1,hwd⟩:∃q,q=w.drew:=⟨_,rfl⟩
 rw[←hwd] at hB ⊢
 clear hwd
 refine tkA 0 rfl ?_
 refine tkA 2 rfl ?_
 refine tkA 3 rfl ?_
 try simp only[Act.put,lay]
 refine rd1 1 rfl fun K hK=>?_
 go_simp
 refine (hSa _).mono ?_
 rintro e u5_1 ⟨rfl,rfl⟩
 go_wp2_with fail
 refine hK.out _ _ ?_ fun hHeld=>?_
 ·trivial
 clear hK K
 try simp only[Act.put,lay]
 refine rd1 4 rfl fun K hK=>?_
 go_simp
 refine (hM _).mono ?_
 rintro e u5_2 ⟨rfl,rfl⟩
 go_wp2_with fail
 refine hK.out _ _ ?_ fun hHeld=>?_
 ·trivial
 clear hK K
 refine tkA 5 rfl ?_
 refine tkA 6 rfl ?_
 refine tkA 7 rfl ?_
 refine tkA 8 rfl ?_
 refine tkA 9 rfl ?_
 try simp only[Act.put,lay]
 try dsimp only
 try simp only[Act.put,lay]
 refine wpAnyH_done (by kernel_rfl) ?_ _
 refine NoPanic.normal ?_
 skip
 go_wp2_with fail
 refine (hSb _).mono ?_
 rintro e w4 ⟨rfl,rfl⟩
 go_wp2_with fail
 refine (hBy _).mono ?_
 rintro e w5 ⟨rfl,b5⟩
 replace hB:=bOn hB b5
 go_wp2
 go_ret2
 exact⟨rfl,hB⟩
theorem fdiv_tf (a b:Int) (f:Nat) (hf:f≤40) (hb:¬b=0) (h1:decide (a<0)=true) (h2:decide (b<0)=false) (ha0: -9223372036854775808≤a) (ha1:a≤9223372036854775807) (hb0: -9223372036854775808≤b) (hb1:b≤9223372036854775807) (w:World):
 Calls Tryz.prog 242 #[.int .i64 a,.int .i64 b,.int .i64 f] w fun e w'=>e= .returned (.tuple #[.int .i64 (fitV (divF a b f)),.int .i64 (fitE (divF a b f))])∧Below w.heap.size w w':=by
 have hF:=fun w=>isfrac_any f w
 rw[decide_eq_true (by omega)] at hF
 obtain⟨p1,p2⟩:=pow_le40 f hf
 have hSa:=fun w=>size_any a ha0 ha1 w
 have hSb:=fun w=>size_any b hb0 hb1 w
 have hxa:a.natAbs<W64:=by unfold W64;omega
 have hxb:b.natAbs<W64:=by unfold W64;omega
 have hxd:2^f<W64:=by unfold W64;omega
 have hM:=fun w=>mul64_any a.natAbs (2^f) hxa hxd w
 have hsum:a.natAbs*2^f / W64*W64+a.natAbs*2^f % W64=a.natAbs*2^f:=by rw[Nat.mul_comm];exact Nat.div_add_mod _ _
 have h0:a.natAbs*2^f / W64<W64:=by
  rw[Nat.div_lt_iff_lt_mul W64_pos]
  exact Nat.mul_lt_mul'' hxa hxd
 have hBy:=by_any (decide (a<0) != decide (b<0)) (a.natAbs*2^f / W64) (a.natAbs*2^f % W64) b.natAbs h0 (Nat.mod_lt _ W64_pos) hxb (by omega)
 rw[hsum] at hBy
 have hz:sided (decide (a<0) != decide (b<0)) (rne (a.natAbs*2^f) b.natAbs)=divF a b f:=rfl
 rw[hz] at hBy
 clear hz hsum h0 hxa hxb hxd
 generalize divF a b f=z at *
 have hsh:IntKind.u64.wrap (1*2^f)=((2^f:Nat):Int):=by
  rw[IntKind.wrap_u64,Int.one_mul,show (2:Int)^f=((2^f:Nat):Int) from by simp];omega
 have hsh2:IntKind.u64.wrap (2^f)=((2^f:Nat):Int):=by
  rw[IntKind.wrap_u64,show (2:Int)^f=((2^f:Nat):Int) from by simp];omega
 generalize a.natAbs*2^f / W64=hi at *
 generalize a.natAbs*2^f % W64=lo at *
 generalize 2^f=d at *
 generalize a.natAbs=x at *
 generalize b.natAbs=y at *
 have hbe:(b == 0)=false:=by simpa using hb
 have hs0:(0:Int)≤f:=by omega
 clear p1 p2 ha0 ha1 hb0 hb1
 have hBy:∀w,Calls Tryz.prog 171 #[.bool (decide (a<0) != decide (b<0)),.agg #[.int .u64 hi,.int .u64 lo],.int .u64 y] w fun e w'=>e= .returned (.tuple #[.int .i64 (fitV z),.int .i64 (fitE z)])∧Below w.heap.size w w':=hBy
 rw[h1,h2] at hBy
 have hB:=Below.refl w.heap.size w
 go_enter Tryz.func242,Tryz.ntmps242
 go_wp2_with fail
 refine (hF _).mono ?_
 rintro e w1 ⟨rfl,rfl⟩
 go_upto_region 5 with fail
 replace hB:=hB.drew
 refine wp_region_noPanic ?_
 refine wp_region_held_drew (S:=fun w'=>True) (by kernel_rfl) ?_ (fun hHeld=>?_)
 ·trivial
 obtain⟨wd5_1,hwd⟩:∃q,q=w.drew:=⟨_,rfl⟩
 rw[←hwd] at hB ⊢
 clear hwd
 refine tkA 0 rfl ?_
 refine tkA 2 rfl ?_
 refine tkA 3 rfl ?_
 try simp only[Act.put,lay]
 refine rd1 1 rfl fun K hK=>?_
 go_simp
 refine (hSa _).mono ?_
 rintro e u5_1 ⟨rfl,rfl⟩
 go_wp2_with fail
 refine hK.out _ _ ?_ fun hHeld=>?_
 ·trivial
 clear hK K
 try simp only[Act.put,lay]
 refine rd1 4 rfl fun K hK=>?_
 go_simp
 refine (hM _).mono ?_
 rintro e u5_2 ⟨rfl,rfl⟩
 go_wp2_with fail
 refine hK.out _ _ ?_ fun hHeld=>?_
 ·trivial
 clear hK K
 refine tkA 5 rfl ?_
 refine tkA 6 rfl ?_
 refine tkA 7 rfl ?_
 refine tkA 8 rfl ?_
 refine tkA 9 rfl ?_
 try simp only[Act.put,lay]
 try dsimp only
 try simp only[Act.put,lay]
 refine wpAnyH_done (by kernel_rfl) ?_ _
 refine NoPanic.normal ?_
 skip
 go_wp2_with fail
 refine (hSb _).mono ?_
 rintro e w4 ⟨rfl,rfl⟩
 go_wp2_with fail
 refine (hBy _).mono ?_
 rintro e w5 ⟨rfl,b5⟩
 replace hB:=bOn hB b5
 go_wp2
 go_ret2
 exact⟨rfl,hB⟩
theorem fdiv_ft (a b:Int) (f:Nat) (hf:f≤40) (hb:¬b=0) (h1:decide (a<0)=false) (h2:decide (b<0)=true) (ha0: -9223372036854775808≤a) (ha1:a≤9223372036854775807) (hb0: -9223372036854775808≤b) (hb1:b≤9223372036854775807) (w:World):
 Calls Tryz.prog 242 #[.int .i64 a,.int .i64 b,.int .i64 f] w fun e w'=>e= .returned (.tuple #[.int .i64 (fitV (divF a b f)),.int .i64 (fitE (divF a b f))])∧Below w.heap.size w w':=by
 have hF:=fun w=>isfrac_any f w
 rw[decide_eq_true (by omega)] at hF
 obtain⟨p1,p2⟩:=pow_le40 f hf
 have hSa:=fun w=>size_any a ha0 ha1 w
 have hSb:=fun w=>size_any b hb0 hb1 w
 have hxa:a.natAbs<W64:=by unfold W64;omega
 have hxb:b.natAbs<W64:=by unfold W64;omega
 have hxd:2^f<W64:=by unfold W64;omega
 have hM:=fun w=>mul64_any a.natAbs (2^f) hxa hxd w
 have hsum:a.natAbs*2^f / W64*W64+a.natAbs*2^f % W64=a.natAbs*2^f:=by rw[Nat.mul_comm];exact Nat.div_add_mod _ _
 have h0:a.natAbs*2^f / W64<W64:=by
  rw[Nat.div_lt_iff_lt_mul W64_pos]
  exact Nat.mul_lt_mul'' hxa hxd
 have hBy:=by_any (decide (a<0) != decide (b<0)) (a.natAbs*2^f / W64) (a.natAbs*2^f % W64) b.natAbs h0 (Nat.mod_lt _ W64_pos) hxb (by omega)
 rw[hsum] at hBy
 have hz:sided (decide (a<0) != decide (b<0)) (rne (a.natAbs*2^f) b.natAbs)=divF a b f:=rfl
 rw[hz] at hBy
 clear hz hsum h0 hxa hxb hxd
 generalize divF a b f=z at *
 have hsh:IntKind.u64.wrap (1*2^f)=((2^f:Nat):Int):=by
  rw[IntKind.wrap_u64,Int.one_mul,show (2:Int)^f=((2^f:Nat):Int) from by simp];omega
 have hsh2:IntKind.u64.wrap (2^f)=((2^f:Nat):Int):=by
  rw[IntKind.wrap_u64,show (2:Int)^f=((2^f:Nat):Int) from by simp];omega
 generalize a.natAbs*2^f / W64=hi at *
 generalize a.natAbs*2^f % W64=lo at *
 generalize 2^f=d at *
 generalize a.natAbs=x at *
 generalize b.natAbs=y at *
 have hbe:(b == 0)=false:=by simpa using hb
 have hs0:(0:Int)≤f:=by omega
 clear p1 p2 ha0 ha1 hb0 hb1
 have hBy:∀w,Calls Tryz.prog 171 #[.bool (decide (a<0) != decide (b<0)),.agg #[.int .u64 hi,.int .u64 lo],.int .u64 y] w fun e w'=>e= .returned (.tuple #[.int .i64 (fitV z),.int .i64 (fitE z)])∧Below w.heap.size w w':=hBy
 rw[h1,h2] at hBy
 have hB:=Below.refl w.heap.size w
 go_enter Tryz.func242,Tryz.ntmps242
 go_wp2_with fail
 refine (hF _).mono ?_
 rintro e w1 ⟨rfl,rfl⟩
 go_upto_region 5 with fail
 replace hB:=hB.drew
 refine wp_region_noPanic ?_
 refine wp_region_held_drew (S:=fun w'=>True) (by kernel_rfl) ?_ (fun hHeld=>?_)
 ·trivial
 obtain⟨wd5_1,hwd⟩:∃q,q=w.drew:=⟨_,rfl⟩
 rw[←hwd] at hB ⊢
 clear hwd
 refine tkA 0 rfl ?_
 refine tkA 2 rfl ?_
 refine tkA 3 rfl ?_
 try simp only[Act.put,lay]
 refine rd1 1 rfl fun K hK=>?_
 go_simp
 refine (hSa _).mono ?_
 rintro e u5_1 ⟨rfl,rfl⟩
 go_wp2_with fail
 refine hK.out _ _ ?_ fun hHeld=>?_
 ·trivial
 clear hK K
 try simp only[Act.put,lay]
 refine rd1 4 rfl fun K hK=>?_
 go_simp
 refine (hM _).mono ?_
 rintro e u5_2 ⟨rfl,rfl⟩
 go_wp2_with fail
 refine hK.out _ _ ?_ fun hHeld=>?_
 ·trivial
 clear hK K
 refine tkA 5 rfl ?_
 refine tkA 6 rfl ?_
 refine tkA 7 rfl ?_
 refine tkA 8 rfl ?_
 refine tkA 9 rfl ?_
 try simp only[Act.put,lay]
 try dsimp only
 try simp only[Act.put,lay]
 refine wpAnyH_done (by kernel_rfl) ?_ _
 refine NoPanic.normal ?_
 skip
 go_wp2_with fail
 refine (hSb _).mono ?_
 rintro e w4 ⟨rfl,rfl⟩
 go_wp2_with fail
 refine (hBy _).mono ?_
 rintro e w5 ⟨rfl,b5⟩
 replace hB:=bOn hB b5
 go_wp2
 go_ret2
 exact⟨rfl,hB⟩
theorem fdiv_ff (a b:Int) (f:Nat) (hf:f≤40) (hb:¬b=0) (h1:decide (a<0)=false) (h2:decide (b<0)=false) (ha0: -9223372036854775808≤a) (ha1:a≤9223372036854775807) (hb0: -9223372036854775808≤b) (hb1:b≤9223372036854775807) (w:World):
 Calls Tryz.prog 242 #[.int .i64 a,.int .i64 b,.int .i64 f] w fun e w'=>e= .returned (.tuple #[.int .i64 (fitV (divF a b f)),.int .i64 (fitE (divF a b f))])∧Below w.heap.size w w':=by
 have hF:=fun w=>isfrac_any f w
 rw[decide_eq_true (by omega)] at hF
 obtain⟨p1,p2⟩:=pow_le40 f hf
 have hSa:=fun w=>size_any a ha0 ha1 w
 have hSb:=fun w=>size_any b hb0 hb1 w
 have hxa:a.natAbs<W64:=by unfold W64;omega
 have hxb:b.natAbs<W64:=by unfold W64;omega
 have hxd:2^f<W64:=by unfold W64;omega
 have hM:=fun w=>mul64_any a.natAbs (2^f) hxa hxd w
 have hsum:a.natAbs*2^f / W64*W64+a.natAbs*2^f % W64=a.natAbs*2^f:=by rw[Nat.mul_comm];exact Nat.div_add_mod _ _
 have h0:a.natAbs*2^f / W64<W64:=by
  rw[Nat.div_lt_iff_lt_mul W64_pos]
  exact Nat.mul_lt_mul'' hxa hxd
 have hBy:=by_any (decide (a<0) != decide (b<0)) (a.natAbs*2^f / W64) (a.natAbs*2^f % W64) b.natAbs h0 (Nat.mod_lt _ W64_pos) hxb (by omega)
 rw[hsum] at hBy
 have hz:sided (decide (a<0) != decide (b<0)) (rne (a.natAbs*2^f) b.natAbs)=divF a b f:=rfl
 rw[hz] at hBy
 clear hz hsum h0 hxa hxb hxd
 generalize divF a b f=z at *
 have hsh:IntKind.u64.wrap (1*2^f)=((2^f:Nat):Int):=by
  rw[IntKind.wrap_u64,Int.one_mul,show (2:Int)^f=((2^f:Nat):Int) from by simp];omega
 have hsh2:IntKind.u64.wrap (2^f)=((2^f:Nat):Int):=by
  rw[IntKind.wrap_u64,show (2:Int)^f=((2^f:Nat):Int) from by simp];omega
 generalize a.natAbs*2^f / W64=hi at *
 generalize a.natAbs*2^f % W64=lo at *
 generalize 2^f=d at *
 generalize a.natAbs=x at *
 generalize b.natAbs=y at *
 have hbe:(b == 0)=false:=by simpa using hb
 have hs0:(0:Int)≤f:=by omega
 clear p1 p2 ha0 ha1 hb0 hb1
 have hBy:∀w,Calls Tryz.prog 171 #[.bool (decide (a<0) != decide (b<0)),.agg #[.int .u64 hi,.int .u64 lo],.int .u64 y] w fun e w'=>e= .returned (.tuple #[.int .i64 (fitV z),.int .i64 (fitE z)])∧Below w.heap.size w w':=hBy
 rw[h1,h2] at hBy
 have hB:=Below.refl w.heap.size w
 go_enter Tryz.func242,Tryz.ntmps242
 go_wp2_with fail
 refine (hF _).mono ?_
 rintro e w1 ⟨rfl,rfl⟩
 go_upto_region 5 with fail
 replace hB:=hB.drew
 refine wp_region_noPanic ?_
 refine wp_region_held_drew (S:=fun w'=>True) (by kernel_rfl) ?_ (fun hHeld=>?_)
 ·trivial
 obtain⟨wd5_1,hwd⟩:∃q,q=w.drew:=⟨_,rfl⟩
 rw[←hwd] at hB ⊢
 clear hwd
 refine tkA 0 rfl ?_
 refine tkA 2 rfl ?_
 refine tkA 3 rfl ?_
 try simp only[Act.put,lay]
 refine rd1 1 rfl fun K hK=>?_
 go_simp
 refine (hSa _).mono ?_
 rintro e u5_1 ⟨rfl,rfl⟩
 go_wp2_with fail
 refine hK.out _ _ ?_ fun hHeld=>?_
 ·trivial
 clear hK K
 try simp only[Act.put,lay]
 refine rd1 4 rfl fun K hK=>?_
 go_simp
 refine (hM _).mono ?_
 rintro e u5_2 ⟨rfl,rfl⟩
 go_wp2_with fail
 refine hK.out _ _ ?_ fun hHeld=>?_
 ·trivial
 clear hK K
 refine tkA 5 rfl ?_
 refine tkA 6 rfl ?_
 refine tkA 7 rfl ?_
 refine tkA 8 rfl ?_
 refine tkA 9 rfl ?_
 try simp only[Act.put,lay]
 try dsimp only
 try simp only[Act.put,lay]
 refine wpAnyH_done (by kernel_rfl) ?_ _
 refine NoPanic.normal ?_
 skip
 go_wp2_with fail
 refine (hSb _).mono ?_
 rintro e w4 ⟨rfl,rfl⟩
 go_wp2_with fail
 refine (hBy _).mono ?_
 rintro e w5 ⟨rfl,b5⟩
 replace hB:=bOn hB b5
 go_wp2
 go_ret2
 exact⟨rfl,hB⟩
theorem fdiv_any (a b:Int) (f:Nat) (hf:f≤40) (hb:¬b=0) (ha0: -9223372036854775808≤a) (ha1:a≤9223372036854775807) (hb0: -9223372036854775808≤b) (hb1:b≤9223372036854775807) (w:World):
 Calls Tryz.prog 242 #[.int .i64 a,.int .i64 b,.int .i64 f] w fun e w'=>e= .returned (.tuple #[.int .i64 (fitV (divF a b f)),.int .i64 (fitE (divF a b f))])∧Below w.heap.size w w':=by
 cases h1:decide (a<0)<;>cases h2:decide (b<0)
 ·exact fdiv_ff a b f hf hb h1 h2 ha0 ha1 hb0 hb1 w
 ·exact fdiv_ft a b f hf hb h1 h2 ha0 ha1 hb0 hb1 w
 ·exact fdiv_tf a b f hf hb h1 h2 ha0 ha1 hb0 hb1 w
 ·exact fdiv_tt a b f hf hb h1 h2 ha0 ha1 hb0 hb1 w
theorem fsqrt_any (a:Int) (f:Nat) (hf:f≤40) (h0:¬a<0) (ha1:a≤9223372036854775807) (w:World):
 Calls Tryz.prog 243 #[.int .i64 a,.int .i64 f] w fun e w'=>e= .returned (.tuple #[.int .i64 (sqrtF a f),.int .i64 0])∧Below w.heap.size w w':=by
 have hF:=fun w=>isfrac_any f w
 rw[decide_eq_true (by omega)] at hF
 obtain⟨s0,s1⟩:=sqrtF_in ha1 (by omega) hf
 obtain⟨n,rfl⟩:∃n:Nat,a=(n:Int):=⟨a.toNat,by omega⟩
 have hn:n<W64:=by unfold W64;omega
 have hO:=fun w=>of_any n hn w
 have sn:Sz n 1:=Sz.u64 hn
 have hS:=fun v w h=>dshl_any v n f (by omega) w h (sn.fin (by omega))
 have hR:∀v w,IsN w v (n*2^f)→Calls Tryz.prog 151 #[v,.int .i64 2] w fun e w'=>∃v',e= .returned (.tuple #[v',.int .i64 0])∧IsZ w' (.agg #[.bool false,v']) (sqrtF n f)∧Below w.heap.size w w':=fun v w h=>
  (root_any v (n * 2 ^ f) w h ((sn.mul (Sz.two_pow f)).more (by omega))).mono fun e w' ⟨r, v', e1, e2, e3, e4⟩ => ⟨v', e1, by
   have :sqrtF n f=((r:Nat):Int):=by unfold sqrtF;rw[Int.natAbs_natCast,e3.uniq (rootN_is _)]
   rw[this];exact⟨v',by rw[decide_eq_false (by omega)],by simpa using e2⟩,e4⟩
 have hI:=fun v w h=>pzint_any v (sqrtF n f) w h
 rw[show fitV (sqrtF n f)=sqrtF n f from if_pos ⟨by omega,by omega⟩] at hI
 have hw:IntKind.u64.wrap (n:Int)=(n:Int):=by rw[IntKind.wrap_u64];omega
 have hd:decide ((n:Int)<0)=false:=decide_eq_false (by omega)
 generalize sqrtF n f=z at *
 generalize n*2^f=q at *
 clear sn s0 s1 hn h0 ha1
 have hB:=Below.refl w.heap.size w
 go_enter Tryz.func243,Tryz.ntmps243
 go_wp2_with fail
 refine (hF _).mono ?_
 rintro e w1 ⟨rfl,rfl⟩
 go_wp2_with fail
 refine (hO _).mono ?_
 rintro e w2 ⟨v1,rfl,z1,b2⟩
 replace hB:=bOn hB b2
 go_wp2_with fail
 refine (hS _ _ z1).mono ?_
 rintro e w4 ⟨v2,rfl,z2,b4⟩
 replace z1:=z1.b b4
 replace hB:=bOn hB b4
 go_wp2_with fail
 refine (hR _ _ z2).mono ?_
 rintro e w6 ⟨v3,rfl,z3,b6⟩
 obtain⟨A3,L3,C3,rfl⟩:∃A L C,v3= .slice A L C:=by
  obtain⟨A,c,e,_⟩:=(IsZ.parts z3).2
  exact⟨_,_,_,e⟩
 replace z2:=z2.b b6
 replace hB:=bOn hB b6
 go_wp2_with fail
 refine (hI _ _ z3).mono ?_
 rintro e w8 ⟨rfl,b8⟩
 replace z3:=z3.b b8
 replace hB:=bOn hB b8
 go_wp2
 go_ret2
 exact⟨rfl,hB⟩
def fitO (z:Int):Option Int:=if -9223372036854775808≤z∧z≤9223372036854775807 then some z else none
def mulO (a b:Int) (f:Nat):Option Int:=fitO (mulZ a b f)
def addO (a b:Int):Option Int:=fitO (a+b)
def subO (a b:Int):Option Int:=fitO (a - b)
def divO (a b:Int) (f:Nat):Option Int:=if b=0 then none else fitO (divF a b f)
noncomputable def rootO (a:Int) (f:Nat):Option Int:=if a<0 then none else some (sqrtF a f)
def mixO (beta a b:Int) (f:Nat):Option Int:=(mulO beta a f).bind fun x=>(mulO ((2^f:Nat) - beta) b f).bind fun y=>addO x y
theorem fitO_in {z r:Int} (h:fitO z=some r):In64 r:=by
 unfold fitO at h
 split at h
 ·cases h;assumption
 ·cases h
theorem rootO_in {a r:Int} {f:Nat} (hf:f≤40) (ha:In64 a) (h:rootO a f=some r):In64 r:=by
 unfold rootO at h
 split at h
 ·cases h
 ·cases h
  have:=sqrtF_in ha.2 (by omega) hf
  unfold In64;omega
theorem divO_in {a b r:Int} {f:Nat} (h:divO a b f=some r):In64 r:=by
 unfold divO at h
 split at h
 ·cases h
 ·exact fitO_in h
theorem mixO_in {t a b r:Int} {f:Nat} (h:mixO t a b f=some r):In64 r:=by
 unfold mixO at h
 cases e1:mulO t a f with
 | none=>rw[e1] at h;cases h
 | some x =>
   cases e2:mulO ((2^f:Nat) - t) b f with
   | none=>rw[e1,e2] at h;cases h
   | some y=>rw[e1,e2] at h;exact fitO_in h
def OutO (r:Option Int) (x:Ending):Prop:=(∃z,r=some z∧x= .returned (.int .i64 z))∨(r=none∧∃n:Int,n≠0∧x= .panicked [{ v:= .iface 196 (.int .i64 n),recovered:=false }])
theorem held_ok (n:Int) (w:World):Calls Tryz.prog 241 #[.int .i64 n,.int .i64 0] w fun x w'=>x= .returned (.int .i64 n)∧w=w':=by
 go_enter Tryz.func241,Tryz.ntmps241
 go_wp2
 go_ret
 exact⟨rfl,rfl⟩
theorem held_no (n e:Int) (he:e≠0) (w:World):Calls Tryz.prog 241 #[.int .i64 n,.int .i64 e] w fun x w'=>x= .panicked [{ v:= .iface 196 (.int .i64 e),recovered:=false }]∧w=w':=by
 have hd:(e != 0)=true:=by simpa using he
 have He:=Lib.hid he
 clear he
 go_enter Tryz.func241,Tryz.ntmps241
 go_wp2
 exact⟨rfl,rfl,rfl⟩
theorem held_fit (z:Int) (w:World):Calls Tryz.prog 241 #[.int .i64 (fitV z),.int .i64 (fitE z)] w fun x w'=>OutO (fitO z) x∧w=w':=by
 by_cases h:In64 z
 ·rw[show fitV z=z from if_pos h,show fitE z=0 from if_pos h]
  refine (held_ok z w).mono ?_
  rintro x w' ⟨rfl,rfl⟩
  exact⟨.inl ⟨z,if_pos h,rfl⟩,rfl⟩
 ·rw[show fitV z=0 from if_neg h,show fitE z=2 from if_neg h]
  refine (held_no 0 2 (by omega) w).mono ?_
  rintro x w' ⟨rfl,rfl⟩
  exact⟨.inr ⟨if_neg h,2,by omega,rfl⟩,rfl⟩
theorem amul_any (f:Nat) (a b:Int) (ha:In64 a) (hb:In64 b) (w:World) (hf:f≤40):
 Calls Tryz.prog 218 #[.agg #[.int .i64 f],.int .i64 a,.int .i64 b] w fun x w'=>OutO (mulO a b f) x∧Below w.heap.size w w':=by
 have hM:=fun w=>fmul_any a b f hf ha.1 ha.2 hb.1 hb.2 w
 unfold mulO
 generalize mulZ a b f=y at *
 clear ha hb
 obtain⟨g,Y0,hr,hB,hgw,EY⟩:=boxes1 w 148 #[.int .i64 f]
 have c0:=hr.q1
 go_enter Tryz.func218,Tryz.ntmps218
 go_wp2_with fail
 rw[←EY.out.2,←EY.out.1]
 refine (hM _).mono ?_
 rintro e w2 ⟨rfl,b2⟩
 replace hr:=hr.b b2
 replace hB:=bOn hB b2
 clear c0
 have c1:=hr.q1
 go_wp2_with fail
 refine (held_fit y _).mono ?_
 rintro e w9 ⟨h9,rfl⟩
 rcases h9 with ⟨z,hz,rfl⟩ | ⟨hz,n,hn,rfl⟩
 ·go_wp2
  go_ret
  exact⟨.inl ⟨z,hz,rfl⟩,hB⟩
 ·exact⟨rfl,.inr ⟨hz,n,hn,rfl⟩,hB⟩
theorem aadd_any (f:Nat) (a b:Int) (ha:In64 a) (hb:In64 b) (w:World) (_hf:f≤40):
 Calls Tryz.prog 217 #[.agg #[.int .i64 f],.int .i64 a,.int .i64 b] w fun x w'=>OutO (addO a b) x∧Below w.heap.size w w':=by
 have hM:=fun w=>fadd_any a b ha.1 ha.2 hb.1 hb.2 w
 unfold addO
 generalize a+b=y at *
 clear ha hb _hf
 obtain⟨g,Y0,hr,hB,hgw,EY⟩:=boxes1 w 148 #[.int .i64 f]
 have c0:=hr.q1
 go_enter Tryz.func217,Tryz.ntmps217
 go_wp2_with fail
 rw[←EY.out.2,←EY.out.1]
 refine (hM _).mono ?_
 rintro e w2 ⟨rfl,rfl⟩
 go_wp2_with fail
 refine (held_fit y _).mono ?_
 rintro e w9 ⟨h9,rfl⟩
 rcases h9 with ⟨z,hz,rfl⟩ | ⟨hz,n,hn,rfl⟩
 ·go_wp2
  go_ret
  exact⟨.inl ⟨z,hz,rfl⟩,hB⟩
 ·exact⟨rfl,.inr ⟨hz,n,hn,rfl⟩,hB⟩
theorem asub_any (f:Nat) (a b:Int) (ha:In64 a) (hb:In64 b) (w:World) (_hf:f≤40):
 Calls Tryz.prog 222 #[.agg #[.int .i64 f],.int .i64 a,.int .i64 b] w fun x w'=>OutO (subO a b) x∧Below w.heap.size w w':=by
 have hM:=fun w=>fsub_any a b ha.1 ha.2 hb.1 hb.2 w
 unfold subO
 generalize a - b=y at *
 clear ha hb _hf
 obtain⟨g,Y0,hr,hB,hgw,EY⟩:=boxes1 w 148 #[.int .i64 f]
 have c0:=hr.q1
 go_enter Tryz.func222,Tryz.ntmps222
 go_wp2_with fail
 rw[←EY.out.2,←EY.out.1]
 refine (hM _).mono ?_
 rintro e w2 ⟨rfl,rfl⟩
 go_wp2_with fail
 refine (held_fit y _).mono ?_
 rintro e w9 ⟨h9,rfl⟩
 rcases h9 with ⟨z,hz,rfl⟩ | ⟨hz,n,hn,rfl⟩
 ·go_wp2
  go_ret
  exact⟨.inl ⟨z,hz,rfl⟩,hB⟩
 ·exact⟨rfl,.inr ⟨hz,n,hn,rfl⟩,hB⟩
theorem fdiv_zero (a:Int) (f:Nat) (hf:f≤40) (w:World):
 Calls Tryz.prog 242 #[.int .i64 a,.int .i64 0,.int .i64 f] w fun e w'=>e= .returned (.tuple #[.int .i64 0,.int .i64 4])∧w=w':=by
 have hF:=fun w=>isfrac_any f w
 rw[decide_eq_true (by omega)] at hF
 go_enter Tryz.func242,Tryz.ntmps242
 go_wp2_with fail
 refine (hF _).mono ?_
 rintro e w' ⟨rfl,rfl⟩
 go_wp2
 go_ret2
 exact⟨rfl,rfl⟩
theorem fdiv_held (a b:Int) (f:Nat) (hf:f≤40) (ha:In64 a) (hb:In64 b) (w:World):
 Calls Tryz.prog 242 #[.int .i64 a,.int .i64 b,.int .i64 f] w fun e w'=>∃n k,e= .returned (.tuple #[.int .i64 n,.int .i64 k])∧(∀w,Calls Tryz.prog 241 #[.int .i64 n,.int .i64 k] w fun x w'=>OutO (divO a b f) x∧w=w')∧Below w.heap.size w w':=by
 unfold divO
 by_cases h:b=0
 ·subst h
  rw[if_pos rfl]
  refine (fdiv_zero a f hf w).mono ?_
  rintro e w' ⟨rfl,rfl⟩
  refine ⟨_,_,rfl,fun w=>(held_no 0 4 (by omega) w).mono ?_,Below.refl _ _⟩
  rintro x w' ⟨rfl,rfl⟩
  exact⟨.inr ⟨rfl,4,by omega,rfl⟩,rfl⟩
 ·rw[if_neg h]
  refine (fdiv_any a b f hf h ha.1 ha.2 hb.1 hb.2 w).mono ?_
  rintro e w' ⟨rfl,b⟩
  exact⟨_,_,rfl,fun w=>held_fit _ w,b⟩
theorem fsqrt_neg (a:Int) (f:Nat) (hf:f≤40) (h0:a<0) (w:World):
 Calls Tryz.prog 243 #[.int .i64 a,.int .i64 f] w fun e w'=>e= .returned (.tuple #[.int .i64 0,.int .i64 1])∧w=w':=by
 have hF:=fun w=>isfrac_any f w
 rw[decide_eq_true (by omega)] at hF
 have hd:decide (a<0)=true:=decide_eq_true h0
 go_enter Tryz.func243,Tryz.ntmps243
 go_wp2_with fail
 refine (hF _).mono ?_
 rintro e w' ⟨rfl,rfl⟩
 go_wp2
 go_ret2
 exact⟨rfl,rfl⟩
theorem fsqrt_held (a:Int) (f:Nat) (hf:f≤40) (ha:In64 a) (w:World):
 Calls Tryz.prog 243 #[.int .i64 a,.int .i64 f] w fun e w'=>∃n k,e= .returned (.tuple #[.int .i64 n,.int .i64 k])∧(∀w,Calls Tryz.prog 241 #[.int .i64 n,.int .i64 k] w fun x w'=>OutO (rootO a f) x∧w=w')∧Below w.heap.size w w':=by
 unfold rootO
 by_cases h:a<0
 ·rw[if_pos h]
  refine (fsqrt_neg a f hf h w).mono ?_
  rintro e w' ⟨rfl,rfl⟩
  refine ⟨_,_,rfl,fun w=>(held_no 0 1 (by omega) w).mono ?_,Below.refl _ _⟩
  rintro x w' ⟨rfl,rfl⟩
  exact⟨.inr ⟨rfl,1,by omega,rfl⟩,rfl⟩
 ·rw[if_neg h]
  refine (fsqrt_any a f hf h ha.2 w).mono ?_
  rintro e w' ⟨rfl,b⟩
  refine ⟨_,_,rfl,fun w=>(held_ok _ w).mono ?_,b⟩
  rintro x w' ⟨rfl,rfl⟩
  exact⟨.inl ⟨_,rfl,rfl⟩,rfl⟩
theorem adiv_any (f:Nat) (a b:Int) (ha:In64 a) (hb:In64 b) (w:World) (hf:f≤40):
 Calls Tryz.prog 220 #[.agg #[.int .i64 f],.int .i64 a,.int .i64 b] w fun x w'=>OutO (divO a b f) x∧Below w.heap.size w w':=by
 have hM:=fun w=>fdiv_held a b f hf ha hb w
 generalize divO a b f=y at *
 clear ha hb
 obtain⟨g,Y0,hr,hB,hgw,EY⟩:=boxes1 w 148 #[.int .i64 f]
 have c0:=hr.q1
 go_enter Tryz.func220,Tryz.ntmps220
 go_wp2_with fail
 rw[←EY.out.2,←EY.out.1]
 refine (hM _).mono ?_
 rintro e w2 ⟨n1,k1,rfl,hH,b2⟩
 replace hr:=hr.b b2
 replace hB:=bOn hB b2
 clear c0
 have c1:=hr.q1
 go_wp2_with fail
 refine (hH _).mono ?_
 rintro e w9 ⟨h9,rfl⟩
 rcases h9 with ⟨z,hz,rfl⟩ | ⟨hz,n,hn,rfl⟩
 ·go_wp2
  go_ret
  exact⟨.inl ⟨z,hz,rfl⟩,hB⟩
 ·exact⟨rfl,.inr ⟨hz,n,hn,rfl⟩,hB⟩
theorem aroot_any (f:Nat) (a:Int) (ha:In64 a) (w:World) (hf:f≤40):
 Calls Tryz.prog 221 #[.agg #[.int .i64 f],.int .i64 a] w fun x w'=>OutO (rootO a f) x∧Below w.heap.size w w':=by
 have hM:=fun w=>fsqrt_held a f hf ha w
 generalize rootO a f=y at *
 clear ha
 obtain⟨g,Y0,hr,hB,hgw,EY⟩:=boxes1 w 148 #[.int .i64 f]
 have c0:=hr.q1
 go_enter Tryz.func221,Tryz.ntmps221
 go_wp2_with fail
 rw[←EY.out.2,←EY.out.1]
 refine (hM _).mono ?_
 rintro e w2 ⟨n1,k1,rfl,hH,b2⟩
 replace hr:=hr.b b2
 replace hB:=bOn hB b2
 clear c0
 have c1:=hr.q1
 go_wp2_with fail
 refine (hH _).mono ?_
 rintro e w9 ⟨h9,rfl⟩
 rcases h9 with ⟨z,hz,rfl⟩ | ⟨hz,n,hn,rfl⟩
 ·go_wp2
  go_ret
  exact⟨.inl ⟨z,hz,rfl⟩,hB⟩
 ·exact⟨rfl,.inr ⟨hz,n,hn,rfl⟩,hB⟩
theorem amix_any (f:Nat) (beta a b:Int) (hb:In64 beta) (ha:In64 a) (ib:In64 b) (h0:0≤beta) (w:World) (hf:f≤40):
 Calls Tryz.prog 219 #[.agg #[.int .i64 f],.int .i64 beta,.int .i64 a,.int .i64 b] w fun x w'=>OutO (mixO beta a b f) x∧Below w.heap.size w w':=by
 obtain⟨p1,p2⟩:=pow_le40 f hf
 obtain⟨P,hP⟩:∃P:Int,P=((2^f:Nat):Int):=⟨_,rfl⟩
 have hOne:=fun w=>aone_any f w hf
 rw[←hP] at hOne
 obtain⟨s,hs⟩:∃s,s=P - beta:=⟨_,rfl⟩
 have is:In64 s:=by have:=hb.2;unfold In64;omega
 have wsub:IntKind.i64.wrap (P - beta)=s:=by rw[IntKind.wrap_i64,hs];have:=hb.2;omega
 have HS:=Lib.hid (show ((2^f:Nat):Int) - beta=s by rw[hs,hP])
 clear hP hs p1 p2
 obtain⟨g,Y0,hr,hB,hgw,EY⟩:=boxes1 w 148 #[.int .i64 f]
 have c0:=hr.q1
 go_enter Tryz.func219,Tryz.ntmps219
 go_upto_region 1 with fail
 rw[←EY.out.2,←EY.out.1]
 replace hB:=hB.drew
 replace hr:=hr.drew
 clear c0
 refine wp_region_held_drew (S:=fun w'=>w'.cell? ⟨g,0,none⟩=some (.int .i64 f)) (by kernel_rfl) ?_ (fun hHeld=>?_)
 ·exact hr.cell 0
 obtain⟨wd1_1,hwd⟩:∃q,q=Y0.drew:=⟨_,rfl⟩
 rw[←hwd] at hB hr hHeld ⊢
 clear hwd
 refine tkA 0 rfl ?_
 refine tkA 1 rfl ?_
 refine tkA 2 rfl ?_
 refine tkA 3 rfl ?_
 refine tkA 5 rfl ?_
 refine tkA 6 rfl ?_
 refine tkA 7 rfl ?_
 refine tkA 9 rfl ?_
 refine tkA 11 rfl ?_
 try simp only[Act.put,lay]
 refine rd1 4 rfl fun K hK=>?_
 go_simp
 refine (amul_any f beta a hb ha _ hf).mono ?_
 rintro e u1_1 ⟨hz | ⟨hz,n,hn,rfl⟩,b1_1⟩
 rotate_left
 ·exact⟨rfl,.inr ⟨by simp only[mixO,HS.out,hz,Option.bind_none],n,hn,rfl⟩,hB.trans (b1_1.mono hB.size)⟩
 obtain⟨z1,hz,rfl⟩:=hz
 have iz1:=fitO_in hz
 have E1:=Lib.hid hz
 clear hz
 replace hr:=hr.b b1_1
 replace hB:=bOn hB b1_1
 go_wp2_with fail
 refine hK.out _ _ ?_ fun hHeld=>?_
 ·exact hr.cell 0
 clear hK K
 try simp only[Act.put,lay]
 refine rd1 8 rfl fun K hK=>?_
 go_simp
 refine (hOne _).mono ?_
 rintro e u1_2 ⟨rfl,rfl⟩
 go_wp2_with fail
 refine hK.out _ _ ?_ fun hHeld=>?_
 ·exact hr.cell 0
 clear hK K
 refine tkA 10 rfl ?_
 try simp only[Act.put,lay]
 refine rd1 12 rfl fun K hK=>?_
 go_simp
 refine (amul_any f s b is ib _ hf).mono ?_
 rintro e u1_3 ⟨hz | ⟨hz,n,hn,rfl⟩,b1_3⟩
 rotate_left
 ·exact⟨rfl,.inr ⟨by simp only[mixO,HS.out,E1.out,hz,Option.bind_some,Option.bind_none],n,hn,rfl⟩,hB.trans (b1_3.mono hB.size)⟩
 obtain⟨z2,hz,rfl⟩:=hz
 have iz2:=fitO_in hz
 have E2:=Lib.hid hz
 clear hz
 replace hr:=hr.b b1_3
 replace hB:=bOn hB b1_3
 go_wp2_with fail
 refine hK.out _ _ ?_ fun hHeld=>?_
 ·exact hr.cell 0
 clear hK K
 try simp only[Act.put,lay]
 refine rd1 13 rfl fun K hK=>?_
 go_simp
 refine (aadd_any f z1 z2 iz1 iz2 _ hf).mono ?_
 rintro e u1_4 ⟨hz | ⟨hz,n,hn,rfl⟩,b1_4⟩
 rotate_left
 ·exact⟨rfl,.inr ⟨by simp only[mixO,HS.out,E1.out,E2.out,hz,Option.bind_some],n,hn,rfl⟩,hB.trans (b1_4.mono hB.size)⟩
 obtain⟨z3,hz,rfl⟩:=hz
 have iz3:=fitO_in hz
 have E3:=Lib.hid hz
 clear hz
 replace hr:=hr.b b1_4
 replace hB:=bOn hB b1_4
 go_wp2_with fail
 refine hK.out _ _ ?_ fun hHeld=>?_
 ·exact hr.cell 0
 clear hK K
 refine tkA 14 rfl ?_
 try simp only[Act.put,lay]
 try dsimp only
 try simp only[Act.put,lay]
 refine wpAnyH_done (by kernel_rfl) ?_ _
 skip
 have c1:=hr.q1
 go_wp2
 go_ret
 exact⟨.inl ⟨z3,by simp only[mixO,HS.out,E1.out,E2.out,E3.out,Option.bind_some],rfl⟩,hB⟩
noncomputable def placeA (lr b1 b2 eps wd:Int) (apart:Bool) (p0 p1:Int) (f:Nat) (w m v g:Int):Option (Int×Int×Int):=
 (bif apart then some g else (mulO wd w f).bind fun x=>addO g x).bind fun d=>
 (mixO b1 m d f).bind fun m'=>(mulO d d f).bind fun q=>(mixO b2 v q f).bind fun v'=>
 (divO m' ((2^f:Nat) - p0) f).bind fun x=>(divO v' ((2^f:Nat) - p1) f).bind fun y=>(rootO y f).bind fun r=>(addO r eps).bind fun s=>(divO x s f).bind fun u=>
 (mulO lr u f).bind fun t=>(subO w t).bind fun n=>
 (bif apart then (mulO lr wd f).bind fun a=>(mulO a w f).bind fun b=>subO n b else some n).bind fun n'=>some (n',m',v')
def OutP (r:Option (Int×Int×Int)) (x:Ending):Prop:=(∃a b c,r=some (a,b,c)∧In64 a∧In64 b∧In64 c∧x= .returned (.tuple #[.int .i64 a,.int .i64 b,.int .i64 c]))∨(r=none∧∃n:Int,n≠0∧x= .panicked [{ v:= .iface 196 (.int .i64 n),recovered:=false }])
theorem aplace_true (lr b1 b2 eps wd p0 p1:Int) (f:Nat) (x m v gr:Int) (w:World) (hf:f≤40) (ilr:In64 lr) (ib1:In64 b1) (ib2:In64 b2) (ieps:In64 eps) (iwd:In64 wd) (h1:0≤b1) (h2:0≤b2) (h3:0≤p0) (h4:0≤p1) (ip0:In64 p0) (ip1:In64 p1) (ix:In64 x) (im:In64 m) (iv:In64 v) (ig:In64 gr):
 Calls Tryz.prog 174 #[.agg #[.int .i64 f],.agg #[.int .i64 lr,.int .i64 b1,.int .i64 b2,.int .i64 eps,.int .i64 wd,.bool true],.agg #[.int .i64 p0,.int .i64 p1],.int .i64 x,.int .i64 m,.int .i64 v,.int .i64 gr] w fun e w'=>OutP (placeA lr b1 b2 eps wd true p0 p1 f x m v gr) e∧Below w.heap.size w w':=by
 obtain⟨l1,l2⟩:=pow_le40 f hf
 obtain⟨P,hP⟩:∃P:Int,P=((2^f:Nat):Int):=⟨_,rfl⟩
 have hOne:=fun w=>aone_any f w hf
 rw[←hP] at hOne
 obtain⟨c0,hc0⟩:∃s,s=P - p0:=⟨_,rfl⟩
 obtain⟨c1,hc1⟩:∃s,s=P - p1:=⟨_,rfl⟩
 have ic0:In64 c0:=by have:=ip0.2;unfold In64;omega
 have ic1:In64 c1:=by have:=ip1.2;unfold In64;omega
 have ws0:IntKind.i64.wrap (P - p0)=c0:=by rw[IntKind.wrap_i64,hc0];have:=ip0.2;omega
 have ws1:IntKind.i64.wrap (P - p1)=c1:=by rw[IntKind.wrap_i64,hc1];have:=ip1.2;omega
 have H0:=Lib.hid (show ((2^f:Nat):Int) - p0=c0 by rw[hc0,hP])
 have H1:=Lib.hid (show ((2^f:Nat):Int) - p1=c1 by rw[hc1,hP])
 clear hP hc0 hc1 l1 l2
 obtain⟨g,Y2,hr,hA,hP,hB,hgw,EY⟩:=boxes3 w 148 #[.int .i64 f] 61 #[.int .i64 lr,.int .i64 b1,.int .i64 b2,.int .i64 eps,.int .i64 wd,.bool true] 34 #[.int .i64 p0,.int .i64 p1]
 have c0:=hr.q1
 obtain⟨c1,c2,c3,c4,c5,c6⟩:=hA.q6
 obtain⟨c7,c8⟩:=hP.q2
 go_enter Tryz.func174,Tryz.ntmps174
 go_wp2_with fail
 rw[←EY.out.2,←EY.out.1]
 refine (amix_any f b1 m gr ib1 im ig h1 _ hf).mono ?_
 rintro e w22 ⟨hz | ⟨hz,n,hn,rfl⟩,b22⟩
 rotate_left
 ·exact⟨rfl,.inr ⟨by simp only[placeA,cond_true,H0.out,H1.out,hz,Option.bind_some,Option.bind_none],n,hn,rfl⟩,hB.trans (b22.mono hB.size)⟩
 obtain⟨m1,hz,rfl⟩:=hz
 have im1:=mixO_in hz
 have E1:=Lib.hid hz
 clear hz
 replace hr:=hr.b b22
 replace hA:=hA.b b22
 replace hP:=hP.b b22
 replace hB:=bOn hB b22
 clear c0 c1 c2 c3 c4 c5 c6 c7 c8
 have c9:=hr.q1
 obtain⟨c10,c11,c12,c13,c14,c15⟩:=hA.q6
 obtain⟨c16,c17⟩:=hP.q2
 go_upto_region 5 with fail
 replace hB:=hB.drew
 replace hr:=hr.drew
 replace hA:=hA.drew
 replace hP:=hP.drew
 clear c9 c10 c11 c12 c13 c14 c15 c16 c17
 refine wp_region_held_drew (S:=fun w'=>w'.cell? ⟨g,0,none⟩=some (.int .i64 f)∧w'.cell? ⟨g+1,0,none⟩=some (.int .i64 lr)∧w'.cell? ⟨g+1,1,none⟩=some (.int .i64 b1)∧w'.cell? ⟨g+1,2,none⟩=some (.int .i64 b2)∧w'.cell? ⟨g+1,3,none⟩=some (.int .i64 eps)∧w'.cell? ⟨g+1,4,none⟩=some (.int .i64 wd)∧w'.cell? ⟨g+1,5,none⟩=some (.bool true)) (by kernel_rfl) ?_ (fun hHeld=>?_)
 ·exact⟨hr.cell 0,hA.cell 0,hA.cell 1,hA.cell 2,hA.cell 3,hA.cell 4,hA.cell 5⟩
 obtain⟨wd5_1,hwd⟩:∃q,q=w22.drew:=⟨_,rfl⟩
 rw[←hwd] at hB hr hA hP hHeld ⊢
 clear hwd
 refine tkA 0 rfl ?_
 refine tkA 1 rfl ?_
 refine tkA 2 rfl ?_
 refine tkA 3 rfl ?_
 refine tkA 4 rfl ?_
 refine tkA 5 rfl ?_
 refine tkA 6 rfl ?_
 try simp only[Act.put,lay]
 refine rd1 7 rfl fun K hK=>?_
 go_simp
 refine (amul_any f gr gr ig ig _ hf).mono ?_
 rintro e u5_1 ⟨hz | ⟨hz,n,hn,rfl⟩,b5_1⟩
 rotate_left
 ·exact⟨rfl,.inr ⟨by simp only[placeA,cond_true,H0.out,H1.out,E1.out,hz,Option.bind_some,Option.bind_none],n,hn,rfl⟩,hB.trans (b5_1.mono hB.size)⟩
 obtain⟨q2,hz,rfl⟩:=hz
 have iq2:=fitO_in hz
 have E2:=Lib.hid hz
 clear hz
 replace hr:=hr.b b5_1
 replace hA:=hA.b b5_1
 replace hP:=hP.b b5_1
 replace hB:=bOn hB b5_1
 go_wp2_with fail
 refine hK.out _ _ ?_ fun hHeld=>?_
 ·exact⟨hr.cell 0,hA.cell 0,hA.cell 1,hA.cell 2,hA.cell 3,hA.cell 4,hA.cell 5⟩
 clear hK K
 try simp only[Act.put,lay]
 refine rd1 8 rfl fun K hK=>?_
 go_simp
 refine (amix_any f b2 v q2 ib2 iv iq2 h2 _ hf).mono ?_
 rintro e u5_2 ⟨hz | ⟨hz,n,hn,rfl⟩,b5_2⟩
 rotate_left
 ·exact⟨rfl,.inr ⟨by simp only[placeA,cond_true,H0.out,H1.out,E1.out,E2.out,hz,Option.bind_some,Option.bind_none],n,hn,rfl⟩,hB.trans (b5_2.mono hB.size)⟩
 obtain⟨v1,hz,rfl⟩:=hz
 have iv1:=mixO_in hz
 have E3:=Lib.hid hz
 clear hz
 replace hr:=hr.b b5_2
 replace hA:=hA.b b5_2
 replace hP:=hP.b b5_2
 replace hB:=bOn hB b5_2
 go_wp2_with fail
 refine hK.out _ _ ?_ fun hHeld=>?_
 ·exact⟨hr.cell 0,hA.cell 0,hA.cell 1,hA.cell 2,hA.cell 3,hA.cell 4,hA.cell 5⟩
 clear hK K
 refine tkA 9 rfl ?_
 try simp only[Act.put,lay]
 try dsimp only
 try simp only[Act.put,lay]
 refine wpAnyH_done (by kernel_rfl) ?_ _
 skip
 have c18:=hr.q1
 obtain⟨c19,c20,c21,c22,c23,c24⟩:=hA.q6
 obtain⟨c25,c26⟩:=hP.q2
 go_upto_region 6 with fail
 replace hB:=hB.drew
 replace hr:=hr.drew
 replace hA:=hA.drew
 replace hP:=hP.drew
 clear c18 c19 c20 c21 c22 c23 c24 c25 c26
 refine wp_region_held_drew (S:=fun w'=>w'.cell? ⟨g,0,none⟩=some (.int .i64 f)∧w'.cell? ⟨g+1+1,0,none⟩=some (.int .i64 p0)∧w'.cell? ⟨g+1+1,1,none⟩=some (.int .i64 p1)) (by kernel_rfl) ?_ (fun hHeld=>?_)
 ·exact⟨hr.cell 0,hP.cell 0,hP.cell 1⟩
 obtain⟨wd6_2,hwd⟩:∃q,q=u5_2.drew:=⟨_,rfl⟩
 rw[←hwd] at hB hr hA hP hHeld ⊢
 clear hwd
 refine tkA 0 rfl ?_
 refine tkA 1 rfl ?_
 refine tkA 2 rfl ?_
 refine tkA 3 rfl ?_
 refine tkA 5 rfl ?_
 refine tkA 6 rfl ?_
 try simp only[Act.put,lay]
 refine rd1 4 rfl fun K hK=>?_
 go_simp
 refine (hOne _).mono ?_
 rintro e u6_1 ⟨rfl,rfl⟩
 go_wp2_with fail
 refine hK.out _ _ ?_ fun hHeld=>?_
 ·exact⟨hr.cell 0,hP.cell 0,hP.cell 1⟩
 clear hK K
 refine tkA 7 rfl ?_
 try simp only[Act.put,lay]
 refine rd1 8 rfl fun K hK=>?_
 go_simp
 refine (adiv_any f m1 c0 im1 ic0 _ hf).mono ?_
 rintro e u6_2 ⟨hz | ⟨hz,n,hn,rfl⟩,b6_2⟩
 rotate_left
 ·exact⟨rfl,.inr ⟨by simp only[placeA,cond_true,H0.out,H1.out,E1.out,E2.out,E3.out,hz,Option.bind_some,Option.bind_none],n,hn,rfl⟩,hB.trans (b6_2.mono hB.size)⟩
 obtain⟨x1,hz,rfl⟩:=hz
 have ix1:=divO_in hz
 have E4:=Lib.hid hz
 clear hz
 replace hr:=hr.b b6_2
 replace hA:=hA.b b6_2
 replace hP:=hP.b b6_2
 replace hB:=bOn hB b6_2
 go_wp2_with fail
 refine hK.out _ _ ?_ fun hHeld=>?_
 ·exact⟨hr.cell 0,hP.cell 0,hP.cell 1⟩
 clear hK K
 refine tkA 9 rfl ?_
 try simp only[Act.put,lay]
 try dsimp only
 try simp only[Act.put,lay]
 refine wpAnyH_done (by kernel_rfl) ?_ _
 skip
 have c27:=hr.q1
 obtain⟨c28,c29,c30,c31,c32,c33⟩:=hA.q6
 obtain⟨c34,c35⟩:=hP.q2
 go_upto_region 7 with fail
 replace hB:=hB.drew
 replace hr:=hr.drew
 replace hA:=hA.drew
 replace hP:=hP.drew
 clear c27 c28 c29 c30 c31 c32 c33 c34 c35
 refine wp_region_held_drew (S:=fun w'=>w'.cell? ⟨g,0,none⟩=some (.int .i64 f)∧w'.cell? ⟨g+1+1,0,none⟩=some (.int .i64 p0)∧w'.cell? ⟨g+1+1,1,none⟩=some (.int .i64 p1)) (by kernel_rfl) ?_ (fun hHeld=>?_)
 ·exact⟨hr.cell 0,hP.cell 0,hP.cell 1⟩
 obtain⟨wd7_3,hwd⟩:∃q,q=u6_2.drew:=⟨_,rfl⟩
 rw[←hwd] at hB hr hA hP hHeld ⊢
 clear hwd
 refine tkA 0 rfl ?_
 refine tkA 1 rfl ?_
 refine tkA 2 rfl ?_
 refine tkA 3 rfl ?_
 refine tkA 5 rfl ?_
 refine tkA 6 rfl ?_
 try simp only[Act.put,lay]
 refine rd1 4 rfl fun K hK=>?_
 go_simp
 refine (hOne _).mono ?_
 rintro e u7_1 ⟨rfl,rfl⟩
 go_wp2_with fail
 refine hK.out _ _ ?_ fun hHeld=>?_
 ·exact⟨hr.cell 0,hP.cell 0,hP.cell 1⟩
 clear hK K
 refine tkA 7 rfl ?_
 try simp only[Act.put,lay]
 refine rd1 8 rfl fun K hK=>?_
 go_simp
 refine (adiv_any f v1 c1 iv1 ic1 _ hf).mono ?_
 rintro e u7_2 ⟨hz | ⟨hz,n,hn,rfl⟩,b7_2⟩
 rotate_left
 ·exact⟨rfl,.inr ⟨by simp only[placeA,cond_true,H0.out,H1.out,E1.out,E2.out,E3.out,E4.out,hz,Option.bind_some,Option.bind_none],n,hn,rfl⟩,hB.trans (b7_2.mono hB.size)⟩
 obtain⟨y1,hz,rfl⟩:=hz
 have iy1:=divO_in hz
 have E5:=Lib.hid hz
 clear hz
 replace hr:=hr.b b7_2
 replace hA:=hA.b b7_2
 replace hP:=hP.b b7_2
 replace hB:=bOn hB b7_2
 go_wp2_with fail
 refine hK.out _ _ ?_ fun hHeld=>?_
 ·exact⟨hr.cell 0,hP.cell 0,hP.cell 1⟩
 clear hK K
 refine tkA 9 rfl ?_
 try simp only[Act.put,lay]
 try dsimp only
 try simp only[Act.put,lay]
 refine wpAnyH_done (by kernel_rfl) ?_ _
 skip
 have c36:=hr.q1
 obtain⟨c37,c38,c39,c40,c41,c42⟩:=hA.q6
 obtain⟨c43,c44⟩:=hP.q2
 go_upto_region 8 with fail
 replace hB:=hB.drew
 replace hr:=hr.drew
 replace hA:=hA.drew
 replace hP:=hP.drew
 clear c36 c37 c38 c39 c40 c41 c42 c43 c44
 refine wp_region_held_drew (S:=fun w'=>w'.cell? ⟨g,0,none⟩=some (.int .i64 f)∧w'.cell? ⟨g+1,0,none⟩=some (.int .i64 lr)∧w'.cell? ⟨g+1,1,none⟩=some (.int .i64 b1)∧w'.cell? ⟨g+1,2,none⟩=some (.int .i64 b2)∧w'.cell? ⟨g+1,3,none⟩=some (.int .i64 eps)∧w'.cell? ⟨g+1,4,none⟩=some (.int .i64 wd)∧w'.cell? ⟨g+1,5,none⟩=some (.bool true)) (by kernel_rfl) ?_ (fun hHeld=>?_)
 ·exact⟨hr.cell 0,hA.cell 0,hA.cell 1,hA.cell 2,hA.cell 3,hA.cell 4,hA.cell 5⟩
 obtain⟨wd8_4,hwd⟩:∃q,q=u7_2.drew:=⟨_,rfl⟩
 rw[←hwd] at hB hr hA hP hHeld ⊢
 clear hwd
 refine tkA 0 rfl ?_
 refine tkA 1 rfl ?_
 refine tkA 2 rfl ?_
 refine tkA 3 rfl ?_
 refine tkA 4 rfl ?_
 refine tkA 6 rfl ?_
 refine tkA 7 rfl ?_
 try simp only[Act.put,lay]
 refine rd1 5 rfl fun K hK=>?_
 go_simp
 refine (aroot_any f y1 iy1 _ hf).mono ?_
 rintro e u8_1 ⟨hz | ⟨hz,n,hn,rfl⟩,b8_1⟩
 rotate_left
 ·exact⟨rfl,.inr ⟨by simp only[placeA,cond_true,H0.out,H1.out,E1.out,E2.out,E3.out,E4.out,E5.out,hz,Option.bind_some,Option.bind_none],n,hn,rfl⟩,hB.trans (b8_1.mono hB.size)⟩
 obtain⟨r1,hz,rfl⟩:=hz
 have ir1:=rootO_in hf iy1 hz
 have E6:=Lib.hid hz
 clear hz
 replace hr:=hr.b b8_1
 replace hA:=hA.b b8_1
 replace hP:=hP.b b8_1
 replace hB:=bOn hB b8_1
 go_wp2_with fail
 refine hK.out _ _ ?_ fun hHeld=>?_
 ·exact⟨hr.cell 0,hA.cell 0,hA.cell 1,hA.cell 2,hA.cell 3,hA.cell 4,hA.cell 5⟩
 clear hK K
 try simp only[Act.put,lay]
 refine rd1 8 rfl fun K hK=>?_
 go_simp
 refine (aadd_any f r1 eps ir1 ieps _ hf).mono ?_
 rintro e u8_2 ⟨hz | ⟨hz,n,hn,rfl⟩,b8_2⟩
 rotate_left
 ·exact⟨rfl,.inr ⟨by simp only[placeA,cond_true,H0.out,H1.out,E1.out,E2.out,E3.out,E4.out,E5.out,E6.out,hz,Option.bind_some,Option.bind_none],n,hn,rfl⟩,hB.trans (b8_2.mono hB.size)⟩
 obtain⟨s1,hz,rfl⟩:=hz
 have is1:=fitO_in hz
 have E7:=Lib.hid hz
 clear hz
 replace hr:=hr.b b8_2
 replace hA:=hA.b b8_2
 replace hP:=hP.b b8_2
 replace hB:=bOn hB b8_2
 go_wp2_with fail
 refine hK.out _ _ ?_ fun hHeld=>?_
 ·exact⟨hr.cell 0,hA.cell 0,hA.cell 1,hA.cell 2,hA.cell 3,hA.cell 4,hA.cell 5⟩
 clear hK K
 try simp only[Act.put,lay]
 refine rd1 9 rfl fun K hK=>?_
 go_simp
 refine (adiv_any f x1 s1 ix1 is1 _ hf).mono ?_
 rintro e u8_3 ⟨hz | ⟨hz,n,hn,rfl⟩,b8_3⟩
 rotate_left
 ·exact⟨rfl,.inr ⟨by simp only[placeA,cond_true,H0.out,H1.out,E1.out,E2.out,E3.out,E4.out,E5.out,E6.out,E7.out,hz,Option.bind_some,Option.bind_none],n,hn,rfl⟩,hB.trans (b8_3.mono hB.size)⟩
 obtain⟨u1,hz,rfl⟩:=hz
 have iu1:=divO_in hz
 have E8:=Lib.hid hz
 clear hz
 replace hr:=hr.b b8_3
 replace hA:=hA.b b8_3
 replace hP:=hP.b b8_3
 replace hB:=bOn hB b8_3
 go_wp2_with fail
 refine hK.out _ _ ?_ fun hHeld=>?_
 ·exact⟨hr.cell 0,hA.cell 0,hA.cell 1,hA.cell 2,hA.cell 3,hA.cell 4,hA.cell 5⟩
 clear hK K
 refine tkA 10 rfl ?_
 try simp only[Act.put,lay]
 try dsimp only
 try simp only[Act.put,lay]
 refine wpAnyH_done (by kernel_rfl) ?_ _
 skip
 have c45:=hr.q1
 obtain⟨c46,c47,c48,c49,c50,c51⟩:=hA.q6
 obtain⟨c52,c53⟩:=hP.q2
 go_upto_region 9 with fail
 replace hB:=hB.drew
 replace hr:=hr.drew
 replace hA:=hA.drew
 replace hP:=hP.drew
 clear c45 c46 c47 c48 c49 c50 c51 c52 c53
 refine wp_region_held_drew (S:=fun w'=>w'.cell? ⟨g,0,none⟩=some (.int .i64 f)∧w'.cell? ⟨g+1,0,none⟩=some (.int .i64 lr)∧w'.cell? ⟨g+1,1,none⟩=some (.int .i64 b1)∧w'.cell? ⟨g+1,2,none⟩=some (.int .i64 b2)∧w'.cell? ⟨g+1,3,none⟩=some (.int .i64 eps)∧w'.cell? ⟨g+1,4,none⟩=some (.int .i64 wd)∧w'.cell? ⟨g+1,5,none⟩=some (.bool true)) (by kernel_rfl) ?_ (fun hHeld=>?_)
 ·exact⟨hr.cell 0,hA.cell 0,hA.cell 1,hA.cell 2,hA.cell 3,hA.cell 4,hA.cell 5⟩
 obtain⟨wd9_5,hwd⟩:∃q,q=u8_3.drew:=⟨_,rfl⟩
 rw[←hwd] at hB hr hA hP hHeld ⊢
 clear hwd
 refine tkA 0 rfl ?_
 refine tkA 1 rfl ?_
 refine tkA 2 rfl ?_
 refine tkA 3 rfl ?_
 refine tkA 4 rfl ?_
 refine tkA 5 rfl ?_
 try simp only[Act.put,lay]
 refine rd1 6 rfl fun K hK=>?_
 go_simp
 refine (amul_any f lr u1 ilr iu1 _ hf).mono ?_
 rintro e u9_1 ⟨hz | ⟨hz,n,hn,rfl⟩,b9_1⟩
 rotate_left
 ·exact⟨rfl,.inr ⟨by simp only[placeA,cond_true,H0.out,H1.out,E1.out,E2.out,E3.out,E4.out,E5.out,E6.out,E7.out,E8.out,hz,Option.bind_some,Option.bind_none],n,hn,rfl⟩,hB.trans (b9_1.mono hB.size)⟩
 obtain⟨t1,hz,rfl⟩:=hz
 have it1:=fitO_in hz
 have E9:=Lib.hid hz
 clear hz
 replace hr:=hr.b b9_1
 replace hA:=hA.b b9_1
 replace hP:=hP.b b9_1
 replace hB:=bOn hB b9_1
 go_wp2_with fail
 refine hK.out _ _ ?_ fun hHeld=>?_
 ·exact⟨hr.cell 0,hA.cell 0,hA.cell 1,hA.cell 2,hA.cell 3,hA.cell 4,hA.cell 5⟩
 clear hK K
 try simp only[Act.put,lay]
 refine rd1 7 rfl fun K hK=>?_
 go_simp
 refine (asub_any f x t1 ix it1 _ hf).mono ?_
 rintro e u9_2 ⟨hz | ⟨hz,n,hn,rfl⟩,b9_2⟩
 rotate_left
 ·exact⟨rfl,.inr ⟨by simp only[placeA,cond_true,H0.out,H1.out,E1.out,E2.out,E3.out,E4.out,E5.out,E6.out,E7.out,E8.out,E9.out,hz,Option.bind_some,Option.bind_none],n,hn,rfl⟩,hB.trans (b9_2.mono hB.size)⟩
 obtain⟨n1,hz,rfl⟩:=hz
 have in1:=fitO_in hz
 have E10:=Lib.hid hz
 clear hz
 replace hr:=hr.b b9_2
 replace hA:=hA.b b9_2
 replace hP:=hP.b b9_2
 replace hB:=bOn hB b9_2
 go_wp2_with fail
 refine hK.out _ _ ?_ fun hHeld=>?_
 ·exact⟨hr.cell 0,hA.cell 0,hA.cell 1,hA.cell 2,hA.cell 3,hA.cell 4,hA.cell 5⟩
 clear hK K
 refine tkA 8 rfl ?_
 try simp only[Act.put,lay]
 try dsimp only
 try simp only[Act.put,lay]
 refine wpAnyH_done (by kernel_rfl) ?_ _
 skip
 have c54:=hr.q1
 obtain⟨c55,c56,c57,c58,c59,c60⟩:=hA.q6
 obtain⟨c61,c62⟩:=hP.q2
 go_upto_region 11 with fail
 replace hB:=hB.drew
 replace hr:=hr.drew
 replace hA:=hA.drew
 replace hP:=hP.drew
 clear c54 c55 c56 c57 c58 c59 c60 c61 c62
 refine wp_region_held_drew (S:=fun w'=>w'.cell? ⟨g,0,none⟩=some (.int .i64 f)∧w'.cell? ⟨g+1,0,none⟩=some (.int .i64 lr)∧w'.cell? ⟨g+1,1,none⟩=some (.int .i64 b1)∧w'.cell? ⟨g+1,2,none⟩=some (.int .i64 b2)∧w'.cell? ⟨g+1,3,none⟩=some (.int .i64 eps)∧w'.cell? ⟨g+1,4,none⟩=some (.int .i64 wd)∧w'.cell? ⟨g+1,5,none⟩=some (.bool true)) (by kernel_rfl) ?_ (fun hHeld=>?_)
 ·exact⟨hr.cell 0,hA.cell 0,hA.cell 1,hA.cell 2,hA.cell 3,hA.cell 4,hA.cell 5⟩
 obtain⟨wd11_6,hwd⟩:∃q,q=u9_2.drew:=⟨_,rfl⟩
 rw[←hwd] at hB hr hA hP hHeld ⊢
 clear hwd
 refine tkA 0 rfl ?_
 refine tkA 1 rfl ?_
 refine tkA 2 rfl ?_
 refine tkA 3 rfl ?_
 refine tkA 4 rfl ?_
 refine tkA 5 rfl ?_
 refine tkA 6 rfl ?_
 refine tkA 7 rfl ?_
 refine tkA 9 rfl ?_
 try simp only[Act.put,lay]
 refine rd1 8 rfl fun K hK=>?_
 go_simp
 refine (amul_any f lr wd ilr iwd _ hf).mono ?_
 rintro e u11_1 ⟨hz | ⟨hz,n,hn,rfl⟩,b11_1⟩
 rotate_left
 ·exact⟨rfl,.inr ⟨by simp only[placeA,cond_true,H0.out,H1.out,E1.out,E2.out,E3.out,E4.out,E5.out,E6.out,E7.out,E8.out,E9.out,E10.out,hz,Option.bind_some,Option.bind_none],n,hn,rfl⟩,hB.trans (b11_1.mono hB.size)⟩
 obtain⟨a1,hz,rfl⟩:=hz
 have ia1:=fitO_in hz
 have E11:=Lib.hid hz
 clear hz
 replace hr:=hr.b b11_1
 replace hA:=hA.b b11_1
 replace hP:=hP.b b11_1
 replace hB:=bOn hB b11_1
 go_wp2_with fail
 refine hK.out _ _ ?_ fun hHeld=>?_
 ·exact⟨hr.cell 0,hA.cell 0,hA.cell 1,hA.cell 2,hA.cell 3,hA.cell 4,hA.cell 5⟩
 clear hK K
 try simp only[Act.put,lay]
 refine rd1 10 rfl fun K hK=>?_
 go_simp
 refine (amul_any f a1 x ia1 ix _ hf).mono ?_
 rintro e u11_2 ⟨hz | ⟨hz,n,hn,rfl⟩,b11_2⟩
 rotate_left
 ·exact⟨rfl,.inr ⟨by simp only[placeA,cond_true,H0.out,H1.out,E1.out,E2.out,E3.out,E4.out,E5.out,E6.out,E7.out,E8.out,E9.out,E10.out,E11.out,hz,Option.bind_some,Option.bind_none],n,hn,rfl⟩,hB.trans (b11_2.mono hB.size)⟩
 obtain⟨a2,hz,rfl⟩:=hz
 have ia2:=fitO_in hz
 have E12:=Lib.hid hz
 clear hz
 replace hr:=hr.b b11_2
 replace hA:=hA.b b11_2
 replace hP:=hP.b b11_2
 replace hB:=bOn hB b11_2
 go_wp2_with fail
 refine hK.out _ _ ?_ fun hHeld=>?_
 ·exact⟨hr.cell 0,hA.cell 0,hA.cell 1,hA.cell 2,hA.cell 3,hA.cell 4,hA.cell 5⟩
 clear hK K
 try simp only[Act.put,lay]
 refine rd1 11 rfl fun K hK=>?_
 go_simp
 refine (asub_any f n1 a2 in1 ia2 _ hf).mono ?_
 rintro e u11_3 ⟨hz | ⟨hz,n,hn,rfl⟩,b11_3⟩
 rotate_left
 ·exact⟨rfl,.inr ⟨by simp only[placeA,cond_true,H0.out,H1.out,E1.out,E2.out,E3.out,E4.out,E5.out,E6.out,E7.out,E8.out,E9.out,E10.out,E11.out,E12.out,hz,Option.bind_some,Option.bind_none],n,hn,rfl⟩,hB.trans (b11_3.mono hB.size)⟩
 obtain⟨n2,hz,rfl⟩:=hz
 have in2:=fitO_in hz
 have E13:=Lib.hid hz
 clear hz
 replace hr:=hr.b b11_3
 replace hA:=hA.b b11_3
 replace hP:=hP.b b11_3
 replace hB:=bOn hB b11_3
 go_wp2_with fail
 refine hK.out _ _ ?_ fun hHeld=>?_
 ·exact⟨hr.cell 0,hA.cell 0,hA.cell 1,hA.cell 2,hA.cell 3,hA.cell 4,hA.cell 5⟩
 clear hK K
 refine tkA 12 rfl ?_
 try simp only[Act.put,lay]
 try dsimp only
 try simp only[Act.put,lay]
 refine wpAnyH_done (by kernel_rfl) ?_ _
 skip
 have c63:=hr.q1
 obtain⟨c64,c65,c66,c67,c68,c69⟩:=hA.q6
 obtain⟨c70,c71⟩:=hP.q2
 go_wp2
 exact bodyPost_ret (v:= .tuple #[.int .i64 n2,.int .i64 m1,.int .i64 v1]) (by simp[results,Tryz.results174,go_sem]) rfl ⟨.inl ⟨n2,m1,v1,by simp only[placeA,cond_true,H0.out,H1.out,E1.out,E2.out,E3.out,E4.out,E5.out,E6.out,E7.out,E8.out,E9.out,E10.out,E11.out,E12.out,E13.out,Option.bind_some],in2,im1,iv1,rfl⟩,hB⟩
end Go.Proofs.YtdnjdglekifhpaaGreat
namespace Go.Proofs.YtdnjdglekifhpaaGreat
open Go.RowKit
def KeepQ (P0:List PanicEntry→World→Prop) (i j:Nat) (x y:Value) (ds:List Deferred) (Q:Exit→Act→World→Prop):Exit→Act→World→Prop
 | .panic c,a,w=>P0 c w∧a.tmps[i]?=some x∧a.tmps[j]?=some y∧a.defers=ds
 | e,a,w=>Q e a w
section
variable {P:Program} {P0:List PanicEntry→World→Prop} {i j:Nat} {x y:Value} {ds:List Deferred} {Q:Exit→Act→World→Prop} {a:Act} {w:World}
theorem wp_keepQ {c:Code} (P0:List PanicEntry→World→Prop) (i j:Nat) (x y:Value) (ds:List Deferred) (h:∀c a w,P0 c w→a.tmps[i]?=some x→a.tmps[j]?=some y→a.defers=ds→Q (.panic c) a w)
 (hw:c.wp P (KeepQ P0 i j x y ds Q) a w):c.wp P Q a w:=
 Code.wp_mono (fun e a w hq=>by
  cases e
  case panic c=>exact h _ _ _ hq.1 hq.2.1 hq.2.2.1 hq.2.2.2
  all_goals exact hq) hw
theorem KeepQ.normal (h:Q .normal a w):KeepQ P0 i j x y ds Q .normal a w:=h
theorem KeepQ.put {d:Option Nat} {v:Value} {c:List PanicEntry} (hd:(d != some i && d != some j)=true) (h:KeepQ P0 i j x y ds Q (.panic c) (a.put d v) w):KeepQ P0 i j x y ds Q (.panic c) a w:=by
 obtain⟨h0,h1,h2,h3⟩:=h
 simp only[Bool.and_eq_true,bne_iff_ne,ne_eq] at hd
 cases d with
 | none=>exact⟨h0,h1,h2,h3⟩
 | some k =>
   refine ⟨h0,?_,?_,h3⟩
   ·rw[←h1]
    have :k≠i:=fun e=>hd.1 (by rw[e])
    simp[Act.put,Array.getElem?_setIfInBounds_ne this]
   ·rw[←h2]
    have :k≠j:=fun e=>hd.2 (by rw[e])
    simp[Act.put,Array.getElem?_setIfInBounds_ne this]
theorem tkK {ops:Array Oper} {md:Region.Mode} {S:World→Prop} (n:Nat) {oi:Oper} (hi:ops[n]?=some oi) {v:Value} {fuel:Nat} {listed:Array Bool}
 (hy:∀w,S w→(execOp a.eval oi).run P w= .ok (.value v) w) (h:wpAnyH P md ops (KeepQ P0 i j x y ds Q) S fuel (listed.setIfInBounds n true) (a.put oi.dst v) w)
 (hs:Region.noSelect ops=true:=by kernel_rfl) (hf:Region.free md ops listed n=true:=by kernel_rfl) (hr:(Region.ready md ops listed).contains n=true:=by kernel_rfl)
 (hd:(oi.dst != some i && oi.dst != some j)=true:=by kernel_rfl) (hw:Region.wanted oi (yielded ops a.tmps)=true:=by kernel_rfl) (hS:S w:=by assumption):wpAnyH P md ops (KeepQ P0 i j x y ds Q) S (fuel+1) listed a w:=
 wpAnyH_take hi hs hf hr (fun _ _ _ h=>KeepQ.put hd h) (.inl ⟨hw,hy⟩) hS h
end
theorem fillAt {w:World} {g k:Nat} {l:List Int} (h:IArr w g l) (x:Int):∃W,W=w.setCell ⟨g,k,none⟩ (.int .i64 x)∧IArr W g (l.set k x)∧(∀g' t cs,Blk w g' t cs→g'≠g→Blk W g' t cs)∧
 (∀g' l',IArr w g' l'→g'≠g→IArr W g' l')∧(∀ad v,w.cell? ad=some v→ad.block≠g→W.cell? ad=some v)∧(∀(B:Nat) (w0:World),B≤g→Below B w0 w→Below B w0 W):=
 ⟨_,rfl,h.set k x,fun _g' _t _cs hb hne=>hb.far (p:=⟨g,k,none⟩) hne _,fun _g' _l' hb hne=>hb.far (p:=⟨g,k,none⟩) hne _,fun ad _v hc hne=>(World.cell?_setCell_far w ⟨g,k,none⟩ ad _ (Ne.symm hne)).trans hc,fun _B _w0 hBg hB=>hB.setCell (p:=⟨g,k,none⟩) hBg _⟩
theorem fill4 {w:World} {R:Nat} {t:TypeId} {a b c d:Value} (hR:Blk w R t #[a,b,c,d]) (x y z u:Value) (hcs:(#[a,b,c,d]:Array Value).all noU=true):∃W,W=(((w.setCell ⟨R,0,none⟩ x).setCell ⟨R,1,none⟩ y).setCell ⟨R,2,none⟩ z).setCell ⟨R,3,none⟩ u∧Filled w W R t #[x,y,z,u]:=
 ⟨_,rfl,by simpa using (((hR.set_ 0 x).set_ 1 y).set_ 2 z).set_ 3 u,fun v l h=>h.keepBlk hR hcs (fun k hk=>(Below.heap_setCell _ ⟨R,3,none⟩ u k hk).trans ((Below.heap_setCell _ ⟨R,2,none⟩ z k hk).trans ((Below.heap_setCell _ ⟨R,1,none⟩ y k hk).trans (Below.heap_setCell w ⟨R,0,none⟩ x k hk)))) (by simp[World.setCell]),fun g t' cs h hne=>(((h.far (p:=⟨R,0,none⟩) hne x).far (p:=⟨R,1,none⟩) hne y).far (p:=⟨R,2,none⟩) hne z).far (p:=⟨R,3,none⟩) hne u,fun B w0 hBR hB=>(((hB.setCell (p:=⟨R,0,none⟩) hBR x).setCell (p:=⟨R,1,none⟩) hBR y).setCell (p:=⟨R,2,none⟩) hBR z).setCell (p:=⟨R,3,none⟩) hBR u⟩
attribute [local go_sem ↓] Go.wp_at_zero Go.wp_at_succ
theorem acatch_pan (R E:Nat) (n:Int) (hn:n≠0) (a b c d:Value) (w:World) (hR:Blk w R 64 #[a,b,c,d]) (hE:Blk w E 42 #[.int .i64 0]) (hne:R≠E) (hcs:(#[a,b,c,d]:Array Value).all noU=true):
 CallsD Tryz.prog 173 #[.pointer (some ⟨R,0,none⟩),.pointer (some ⟨E,0,none⟩)] (.panicking [{ v:= .iface 196 (.int .i64 n),recovered:=false }]) w fun e u' w'=>
  e= .returned (.tuple #[])∧u'= .panicking [{ v:= .iface 196 (.int .i64 n),recovered:=true }]∧Blk w' R 64 #[.slice none 0 0,.slice none 0 0,.slice none 0 0,.slice none 0 0]∧Blk w' E 42 #[.int .i64 2]∧∀(B:Nat) (w0:World),B≤R→B≤E→Below B w0 w→Below B w0 w':=by
 have hd:(n != 0)=true:=by simpa using hn
 obtain⟨W1,e1,r1,r2,r3,r4⟩:=fill4 hR (.slice none 0 0) (.slice none 0 0) (.slice none 0 0) (.slice none 0 0) hcs
 have hE1:=r3 _ _ _ hE (Ne.symm hne)
 obtain⟨W2,e2,s1,s2,s3,s4⟩:=fill1 hE1 (.int .i64 2) (by simp[noU])
 have q0:World.cell? w ⟨R,0,none⟩=some a:=hR.cell 0
 have q1:World.cell? w ⟨R,1,none⟩=some b:=hR.cell 1
 have q2:World.cell? w ⟨R,2,none⟩=some c:=hR.cell 2
 have q3:World.cell? w ⟨R,3,none⟩=some d:=hR.cell 3
 have q4:World.cell? ((((w.setCell ⟨R,0,none⟩ (.slice none 0 0)).setCell ⟨R,1,none⟩ (.slice none 0 0)).setCell ⟨R,2,none⟩ (.slice none 0 0)).setCell ⟨R,3,none⟩ (.slice none 0 0)) ⟨E,0,none⟩=some (.int .i64 0):=by rw[←e1];exact hE1.cell 0
 have z0:=hR.frozen
 have z1:World.frozen? ((((w.setCell ⟨R,0,none⟩ (.slice none 0 0)).setCell ⟨R,1,none⟩ (.slice none 0 0)).setCell ⟨R,2,none⟩ (.slice none 0 0)).setCell ⟨R,3,none⟩ (.slice none 0 0)) ⟨E,0,none⟩=false:=by rw[←e1];exact hE1.frozen 0
 have hta:∀w,(Instr.typeAssert (.iface 196 (.int .i64 n)) 20 196 false).run Tryz.prog w= .ok (.int .i64 n) w:=fun _=>by kernel_rfl
 have HE:=Lib.hid (And.intro e1 e2)
 clear e1 e2
 refine callsD_of_wpS Tryz.func173 rfl fun c₀ cs hu=>?_
 simp only[Tryz.ntmps173,List.size_toArray,List.length_cons,List.length_nil,Nat.reduceAdd,Nat.reduceSub,Array.replicate_succ,Array.replicate_zero,List.push_toArray,List.append_toArray,List.nil_append,List.cons_append]
 apply wpS_seq
 apply wpS_region
 simp[wpOpsS,go_sem,recoverD,hu,Exit.thenS]
 refine wpS_of_wp ?_
 go_wp2_with fail
 rw[←HE.out.1,←HE.out.2]
 simp_all [bodyPostS,results,Tryz.results173]
theorem acatch_idle (R E:Nat) (w:World):
 CallsD Tryz.prog 173 #[.pointer (some ⟨R,0,none⟩),.pointer (some ⟨E,0,none⟩)] .returning w fun e u' w'=>e= .returned (.tuple #[])∧u'= .returning∧w'=w:=by
 refine callsD_of_wpS Tryz.func173 rfl fun c₀ cs hu=>?_
 simp only[Tryz.ntmps173,List.size_toArray,List.length_cons,List.length_nil,Nat.reduceAdd,Nat.reduceSub,Array.replicate_succ,Array.replicate_zero,List.push_toArray,List.append_toArray,List.nil_append,List.cons_append]
 apply wpS_seq
 apply wpS_region
 simp[wpOpsS,go_sem,recoverD,hu,Exit.thenS]
 refine wpS_of_wp ?_
 go_wp2_with fail
 cases c₀
 simp_all [bodyPostS,results,Tryz.results173]
end Go.Proofs.YtdnjdglekifhpaaGreat
