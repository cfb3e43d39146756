/- A part of the proof of: The live question of layer 20. Printed by gen_alive20.py. -/
import Derived.Laws.Shifts
import Derived.Deep.DeepMust
import Derived.Below
import Derived.RangeFuncWrites
import Derived.RangeFuncBox
import Derived.RangeFuncFrom
import Derived.StillTail
import Derived.StillTactics
import Derived.StillTailTactics
import Derived.OrdersIn
import Derived.TacticsIn
import Derived.CallsIn
import Derived.Outline
import Derived.Laws.EntriesVeiled
import Derived.Maps.AppendAt
import Derived.RangeFuncCalls
import Derived.Deep.RegionHeld
import Derived.Deep.RegionHeld3
import Derived.Test.YtdnjdglekifhpaaGreatTyb
set_option maxRecDepth 100000
set_option maxHeartbeats 8000000
namespace Go.Proofs.YtdnjdglekifhpaaGreat
open Go.RowKit
theorem dbare_take (A:Option Addr) (c:Nat) (l:List Nat) (w:World) (h:IsL w (.slice A l.length c) l):
 Calls Tryz.prog 185 #[.slice A l.length c] w fun e w'=>(∃k,k≤l.length∧e= .returned (.slice A k c)∧limbs (num l)=l.take k)∧w=w':=by
 obtain⟨A',c',e,hlc,hc,hbd,hr⟩:=h
 obtain⟨rfl,_,rfl⟩:=Value.slice.inj e
 clear e
 go_enter Tryz.func185,Tryz.ntmps185
 go_wp2
 go_loop [0] (fun a=>∃k:Nat,k≤l.length∧a= .slice A k c∧Hid (num (l.take k)=num l)) (fun a=>match a with | .slice _ k _=>k | _=>0)
 case atStart=>exact⟨l.length,Nat.le_refl _,rfl,by rw[List.take_length];exact Lib.hid rfl⟩
 case round=>
  obtain⟨k,hk,rfl,hn⟩:=hrel
  have hcell:0<k→∃ad,A=some ad∧w.cell? (ad.add (k - 1))=some (.int .u64 ((lat l (k - 1):Nat):Int)):=fun h=>by
   obtain⟨ad,e,_,hx⟩:=us_cell hr (k:=k - 1) (by omega)
   exact⟨ad,e,hx⟩
  by_cases h0:0<k
  ·obtain⟨ad,rfl,hx⟩:=hcell h0
   clear hcell
   by_cases hz:lat l (k - 1)=0
   ·rw[hz] at hx
    go_wp2
    refine ⟨⟨k - 1,by omega,rfl,?_⟩,by dsimp only;omega⟩
    rw[Hid] at hn
    exact Lib.hid ((num_take_pred h0 hz).trans hn)
   ·have hz':(((lat l (k - 1):Nat):Int) == 0)=false:=by simp;omega
    go_wp2
    go_ret
    exact⟨⟨k,hk,rfl,limbs_of_take hbd hn hk (.inr hz)⟩,rfl⟩
  ·obtain rfl:k=0:=by omega
   go_wp2
   go_ret
   have e:num l=0:=by rw[←hn];rfl
   exact⟨⟨0,Nat.zero_le _,rfl,by rw[e];rfl⟩,rfl⟩
theorem ownsRow_shorter {w:World} {B:Nat} {e:TypeId} {A:Option Addr} {n c k:Nat} {xs:List Value} (h:w.ownsRow B e 1 (.slice A n c) n xs) (hk:k≤n):w.ownsRow B e 1 (.slice A k c) k (xs.take k):=by
 obtain⟨h0,h1⟩:=h
 rw[Nat.mul_one] at h0
 refine ⟨by rw[List.length_take];omega,?_⟩
 rcases h1 with ⟨h1,h2⟩ | ⟨g,cap,cur,h1,h2,h3,h4,h5,h6,h7⟩
 ·obtain⟨rfl,_,rfl⟩:=Value.slice.inj h1
  exact .inl ⟨by rw[show k=0 by omega],by omega⟩
 ·obtain⟨rfl,_,rfl⟩:=Value.slice.inj h1
  refine .inr ⟨g,_,cur,rfl,h2,h3,by omega,h5,h6,?_⟩
  rw[←h7,List.take_take,Nat.mul_one,Nat.mul_one,Nat.min_eq_left hk]
theorem us_take (l:List Nat) (k:Nat):us (l.take k)=(us l).take k:=by simp[us,List.map_take]
theorem dbare_own (v:Value) (B:Nat) (l:List Nat) (w:World) (h:w.ownsRow B 141 1 v l.length (us l)) (hb:Bd l):
 Calls Tryz.prog 185 #[v] w fun e w'=>(∃v',e= .returned v'∧w'.ownsRow B 141 1 v' (limbs (num l)).length (us (limbs (num l))))∧w=w':=by
 obtain⟨A,c,rfl,_,_,_⟩:=own_form h
 refine (dbare_take A c l w (IsL.of_own h hb)).mono ?_
 rintro e w' ⟨⟨k,hk,rfl,hl⟩,rfl⟩
 refine ⟨⟨_,rfl,?_⟩,rfl⟩
 have:=ownsRow_shorter h hk
 rw[hl,us_take,List.length_take,Nat.min_eq_left hk]
 exact this
theorem run_make_u64c (t:TypeId) (ht:Tryz.prog.underlying t=some (.slice 141)) (n c:Nat) (k m:Int) (hk:k=n) (hm:m=c) (hnc:n≤c) (hn:c≤10000000) (W:World):
 ∃v W',(Instr.makeSlice t (.int .i64 k) (.int .i64 m)).run Tryz.prog W= .ok v W'∧W'.ownsRow W.heap.size 141 1 v n (us (zeros n))∧Below W.heap.size W W':=by
 obtain⟨i0,hi,hz0,hz1,hz2⟩:=info_parts info_u64
 subst hk hm
 refine ⟨_,_,run_make W t 141 i0 (.int .u64 0) ht hi hz0 .i64 .i64 n c (by omega) (by omega) (by rw[hz2];omega) (by omega),?_,(Below.refl _ _).alloc (Nat.le_refl _) _⟩
 simp only[Int.toNat_natCast,hz1,Nat.mul_one,madeCells_us]
 refine ⟨by rw[us_len,zeros_len];omega,.inr ⟨W.heap.size,c,(us (zeros c)).toArray,rfl,Nat.le_refl _,heap_alloc_new W _,hnc,by unfold maxLen;omega,by simp[us_len,zeros_len],?_⟩⟩
 rw[Nat.mul_one]
 simp[us,zeros,hnc]
theorem dshl_own (va:Value) (a:Nat) (n:Nat) (hn:n≤20000) (w:World) (ha:IsN w va a) (hla:(limbs a).length≤1000000):
 Calls Tryz.prog 130 #[va,.int .i64 n] w fun e w'=>∃v',e= .returned (.tuple #[v',.int .i64 0])∧w'.ownsRow w.heap.size 141 1 v' (limbs (a*2^n)).length (us (limbs (a*2^n)))∧Below w.heap.size w w':=by
 obtain⟨A,c,rfl,hlc,hc,hbd,hr⟩:=ha
 have HALL:=Lib.hid (shl_all hbd n)
 rw[num_limbs] at HALL
 obtain⟨l,hl⟩:∃l,l=limbs a:=⟨_,rfl⟩
 rw[←hl] at HALL hbd hr hla hlc ⊢
 clear hl
 obtain⟨s,hs⟩:∃s,s=n % 64:=⟨_,rfl⟩
 obtain⟨m,hm⟩:∃m,m=n / 64:=⟨_,rfl⟩
 have hs64:s<64:=by omega
 have hm3:m≤400:=by omega
 have q1:(n:Int) % 64=(s:Int):=by omega
 have q2:(n:Int) / 64=(m:Int):=by omega
 rw[←hs,←hm] at HALL
 clear hs hm
 have hd0:decide ((n:Int)<0)=false:=decide_eq_false (by omega)
 have hd1:¬(20000:Int)<(n:Int):=by omega
 obtain⟨v0,W0,hmk,hown0,hB0⟩:=run_make_u64c 28 Tryz.underlying28 m (m+l.length+1) (m:Int) ((m:Int)+(l.length:Int)+1) rfl (by omega) (by omega) (by omega) w
 have hl1:(l.length:Int)≤1000000:=by omega
 have hm1:(m:Int)≤400:=by omega
 go_enter Tryz.func130,Tryz.ntmps130
 go_wp2_with fail
 go_loopw [6,8,30] (fun o cV iV wr=>∃(i:Nat),i≤l.length∧iV= .int .i64 i∧cV= .int .u64 ((shlS s m (l.take i)).2:Nat)∧wr.ownsRow w.heap.size 141 1 o (shlS s m (l.take i)).1.length (us (shlS s m (l.take i)).1)∧Below w.heap.size w wr) (fun _ _ i _=>l.length - (RowKit.intOf i).toNat)
 case atStart=>exact⟨0,Nat.zero_le _,rfl,rfl,by simpa [shlS,zeros_len] using hown0,hB0⟩
 case round=>
  obtain⟨i,hi,rfl,rfl,hown,hB⟩:=hrel
  obtain⟨p,hp⟩:∃p,p=shlS s m (l.take i):=⟨_,rfl⟩
  obtain⟨k1,k2,k3,_⟩:=shlS_ok (s:=s) (m:=m) (by omega) (l.take i) (fun x hx=>hbd x (List.mem_of_mem_take hx))
  rw[←hp] at hown k1 k2 k3 ⊢
  rw[List.length_take,Nat.min_eq_left hi] at k1
  by_cases hlt:i<l.length
  ·obtain⟨ad,rfl,_,hxc⟩:=us_cell (hr.below hB) hlt
   have hx64:=hbd.lat i
   have hsn:shlS s m (l.take (i+1))=shlF s p (lat l i):=by rw[take_more hlt,shlS_snoc,←hp]
   obtain⟨x,hx⟩:∃x,x=lat l i:=⟨_,rfl⟩
   rw[←hx] at hsn hxc hx64
   unfold shlF at hsn
   obtain⟨_,_,⟨z,hz⟩,d4⟩:=shl_digit (s:=s) (by omega) hx64
   have d5:=d4 _ k2
   have w1:=u64_shl_mod x s
   have w2:=int_div_pow x (64 - s)
   have w3:=u64_or_nat (x*2^s % W64) p.2 (by have:=Nat.mod_lt (x*2^s) W64_pos;unfold W64 at *;omega) (by unfold W64 at *;omega)
   rw[show (x*2^s % W64) ||| p.2=x*2^s % W64+p.2 by rw[hz];exact or_add z p.2 s k2] at w3
   obtain⟨d,hd⟩:∃d,d=x*2^s % W64+p.2:=⟨_,rfl⟩
   obtain⟨c2,hc2⟩:∃c2,c2=x / 2^(64 - s):=⟨_,rfl⟩
   rw[←hd] at w3 hsn
   rw[←hc2] at w2 hsn
   obtain⟨y,hy⟩:∃y,y=x*2^s % W64:=⟨_,rfl⟩
   rw[←hy] at w1 w3
   obtain⟨o1,c1⟩:=p
   simp only at hown k1 k2 k3 w3 hsn
   have HSN:=Lib.hid hsn
   have ho1:o1.length≤1000500:=by omega
   clear hp hsn hx hz d4 d5 hd hc2 hy k1 k3 k2
   have g1:((64:Int) - (s:Int)).toNat=64 - s:=by omega
   have g2:(0:Int)≤(64:Int) - (s:Int):=by omega
   have j1:(i:Int)<(l.length:Int):=by omega
   have j0:(0:Int)≤(i:Int):=by omega
   go_wp2_with (at_builtin;go_must (refine wpList_app1 _ rfl _ _ 28 141 (.int .u64 0) 8 rfl Tryz.underlying28 info_u64 rfl w.heap.size (.int .u64 ((d:Nat):Int)) rfl _ o1.length (us o1) rfl (hown.alloc _) ⟨wr.heap.size,0,none⟩ rfl (by exact new_cell _ _ _) (by omega) (by omega) (by simp;exact Nat.le_succ_of_le hB.size) ?_;intro v' w1 hown' hgrow))
   refine ⟨⟨i+1,by omega,congrArg (Value.int .i64) (by omega),by rw[HSN.out],?_,(hB.alloc hB.size _).grown hgrow (by simp;exact Nat.le_succ_of_le hB.size) (fun j e=>(hown.lt j e).1)⟩,by simp[RowKit.intOf];omega⟩
   rw[HSN.out,us_snoc,List.length_append,List.length_singleton]
   exact hown'
  ·obtain rfl:i=l.length:=by omega
   rw[List.take_length] at hp
   rw[←hp] at HALL
   have hc64:p.2<W64:=Nat.lt_of_lt_of_le k2 (by rw[←two64 (s:=s) (by omega)];exact Nat.le_mul_of_pos_right _ (Nat.pow_pos (by omega)))
   obtain⟨o1,c1⟩:=p
   simp only at hown k1 k2 k3 HALL hc64
   have ho1:o1.length≤1000500:=by omega
   have K3:=Lib.hid (k3.snoc hc64)
   clear hp k1 k2 k3 hi hc64
   go_wp2_with (at_builtin;go_must (refine wpList_app1 _ rfl _ _ 28 141 (.int .u64 0) 8 rfl Tryz.underlying28 info_u64 rfl w.heap.size (.int .u64 ((c1:Nat):Int)) rfl _ o1.length (us o1) rfl (hown.alloc _) ⟨wr.heap.size,0,none⟩ rfl (by exact new_cell _ _ _) (by omega) (by omega) (by simp;exact Nat.le_succ_of_le hB.size) ?_;intro v' w1 hown' hgrow))
   have hB1:=(hB.alloc hB.size _).grown hgrow (by simp;exact Nat.le_succ_of_le hB.size) (fun j e=>(hown.lt j e).1)
   rw[show us o1++[Value.int .u64 (c1:Nat)]=us (o1++[c1]) from (us_snoc o1 c1).symm,show o1.length+1=(o1++[c1]).length by simp] at hown'
   refine (dbare_own v' _ _ w1 hown' K3.out).mono ?_
   rintro e w2 ⟨⟨r,rfl,hr2⟩,rfl⟩
   rw[HALL.out] at hr2
   go_wp2
   go_ret2
   exact⟨_,rfl,hr2,hB1⟩
theorem dshl_any (va:Value) (a:Nat) (n:Nat) (hn:n≤20000) (w:World) (ha:IsN w va a) (hla:(limbs a).length≤1000000):
 Calls Tryz.prog 130 #[va,.int .i64 n] w fun e w'=>∃v',e= .returned (.tuple #[v',.int .i64 0])∧IsN w' v' (a*2^n)∧Below w.heap.size w w':=
 (dshl_own va a n hn w ha hla).mono fun _ _ ⟨v',h1,h2,h3⟩=>⟨v',h1,IsN.of_own h2,h3⟩
structure KR (n₀ lo hi:Nat) (W W':World):Prop where
 low:Below n₀ W W'
 mid:∀i,lo≤i→i<hi→W'.heap[i]?=W.heap[i]?
theorem KR.refl (n₀ lo hi:Nat) (W:World):KR n₀ lo hi W W:=⟨Below.refl _ _,fun _ _ _=>rfl⟩
theorem KR.trans {n₀ lo hi:Nat} {A B C:World} (h:KR n₀ lo hi A B) (k:KR n₀ lo hi B C):KR n₀ lo hi A C:=⟨h.low.trans k.low,fun i h1 h2=>(k.mid i h1 h2).trans (h.mid i h1 h2)⟩
theorem KR.drew {n₀ lo hi:Nat} {A B:World} (h:KR n₀ lo hi A B):KR n₀ lo hi A B.drew:=⟨h.low.drew,h.mid⟩
theorem KR.put {n₀ lo hi:Nat} {w:World} (hn:n₀≤w.heap.size) (hh:hi≤w.heap.size) (W:World) (l:Nat) (o o':Obj) (hl:w.heap.size≤l) (h:W.heap[l]?=some o) (h1:o.isCells=false) (h2:o.isWalk=false):KR n₀ lo hi W (W.putObj l o'):=
 ⟨belowK_b hn W l o o' hl h h1 h2,fun i _ hi'=>(grownBy_putObj' W l o').block i (by have:=(Array.getElem?_eq_some_iff.1 h).1;omega) (fun e=>by cases e;omega)⟩
theorem KR.cell {n₀ lo hi:Nat} {A B:World} (h:KR n₀ lo hi A B) {b o:Nat} (h1:lo≤b) (h2:b<hi):B.cell? ⟨b,o,none⟩=A.cell? ⟨b,o,none⟩:=World.cell?_of_block (h.mid b h1 h2)
theorem grownBy_drew (w:World):w.grownBy w.drew none:=⟨rfl,rfl,rfl,Nat.le_refl _,fun _ _ _=>rfl⟩
theorem KR.of_below {n₀ lo hi b₁:Nat} {A B:World} (h:Below b₁ A B) (h1:n₀≤b₁) (h2:hi≤b₁):KR n₀ lo hi A B:=⟨h.mono h1,fun i _ hi=>h.block i (by omega)⟩
theorem KR.set {n₀ lo hi C:Nat} {A B:World} (h:KR n₀ lo hi A B) (h1:n₀≤C) (h2:C<lo∨hi≤C) (x:Value):KR n₀ lo hi A (B.setCell ⟨C,0,none⟩ x):=
 ⟨h.low.setCell (p:=⟨C,0,none⟩) h1 x,fun i hl hh=>(Below.heap_setCell B ⟨C,0,none⟩ x i (by show i≠C;omega)).trans (h.mid i hl hh)⟩
theorem KR.setAt {n₀ lo hi C i:Nat} {A B:World} (h:KR n₀ lo hi A B) (h1:n₀≤C) (h2:C<lo∨hi≤C) (x:Value):KR n₀ lo hi A (B.setCell ⟨C,i,none⟩ x):=
 ⟨h.low.setCell (p:=⟨C,i,none⟩) h1 x,fun k hl hh=>(Below.heap_setCell B ⟨C,i,none⟩ x k (by show k≠C;omega)).trans (h.mid k hl hh)⟩
end Go.Proofs.YtdnjdglekifhpaaGreat
namespace Go.Proofs.YtdnjdglekifhpaaGreat
open Go Go.RowKit Go.Shelf
attribute [local go_sem] Oper.semAt_some
section
variable {F:Fence} {n:Nat} {P:Program}
def SeqTells {α:Type} (F:Fence) (n:Nat) (P:Program) (g:Nat) (lb:Array Value) (encs:α→Array Value) (R:List α→α→World→Prop) (Kp:World→World→Prop) (S Sp:List α→Prop) (N:Nat) (w:World):Prop:=
 ∀(l:Nat) (J Jx:List α→World→Prop) (W:World),Below w.heap.size w W→AbidesFrom W.heap.size J→AbidesFrom W.heap.size Jx→
  (∀ pre x W1, J pre W1 → R pre x W1 → pre.length < N → YieldAt F (n - 1) P l (encs x) W1 fun e W' =>
   (e= .returned (.bool true)∧J (pre++[x]) W'∧Kp W1 W')∨(e= .returned (.bool false)∧Jx (pre++[x]) W'))→
  J [] W→
  CallsIn F n P g (#[.func (.yield l) #[] #[]]++lb) W fun e W'=>(∃v,e= .returned v)∧((∃xs,S xs∧J xs W')∨(∃pre,Sp pre∧Jx pre W'))
theorem wpIn_rangeFunc_tells {α:Type} {g:Operand} {ps:Array Tmp} {assign body:Code} {Q:Exit→Act→World→Prop} {a:Act} {w:World}
 (hro:F.round=none) (h1:1≤n) {gf:Nat} {lb:Array Value} (hg:a.eval g= .func (.func gf) #[] lb) (hFg:F.fn gf) (eg:∀args w,(callFunc gf args).run P w= .ok (.enter gf args) w)
 {encs:α→Array Value} {R:List α→α→World→Prop} {Kp:World→World→Prop} {S Sp:List α→Prop} {N:Nat} {w0:World} (hseq:SeqTells F (n - 1) P gf lb encs R Kp S Sp N w0)
 (hKt:∀{A B C:World},Kp A B→Kp B C→Kp A C) (hKb:∀(W:World) (l:Nat) (o o':Obj),w.heap.size≤l→W.heap[l]?=some o→o.isCells=false→o.isWalk=false→Kp W (W.putObj l o'))
 (hRb:∀(pre:List α) (x:α) (W:World) (l:Nat) (o o':Obj),w.heap.size≤l→W.heap[l]?=some o→o.isCells=false→R pre x W→R pre x (W.putObj l o')) (hb0:Below w0.heap.size w0 w) (hps:∀x,(encs x).size=ps.size)
 (I:List α→World→Prop) (Ix:Code→List α→World→Prop) (hI:OwnFrom w.heap.size I) (hIx:∀c,OwnFrom w.heap.size (Ix c)) (h0:I [] w) (a₁:α→Act)
 (hassign : ∀ (l : Nat) (x : α) (W : World) (K : Act → World → Prop), K (a₁ x) W →
  assign.wpIn (F.inRound l) (n - 1 - 1) P (Exit.then K (fun _ _ _=>False)) { tmps:=(ps.zip (encs x)).foldl (fun t (p,v)=>t.setIfInBounds p v) a.tmps,defers:=[] } W)
 (hbody:∀(l:Nat) (pre:List α) (x:α) (W:World),I pre W→R pre x W→pre.length<N→body.wpIn (F.inRound l) (n - 1 - 1) P (ownPostG w.heap.size Kp I Ix (pre++[x]) W) (a₁ x) W)
 (hdone:∀(D:Nat) (xs:List α) (W:World),w.heap.size≤D→S xs→I xs W→W.heap[D]?=some (.deferred (some []))→Q .normal { a with defers:={ target:= .collected D,args:= #[] }::a.defers } W)
 (hstop:∀(D:Nat) (c:Code) (pre:List α) (W:World),w.heap.size≤D→Sp pre→Ix c pre W→W.heap[D]?=some (.deferred (some []))→c.wpIn F n P Q { a with defers:={ target:= .collected D,args:= #[] }::a.defers } W):
 (Code.rangeFunc g ps assign body).wpIn F n P Q a w:=by
 refine wpIn_rangeFunc ?_
 intro fn hfn
 rw[hro]
 obtain⟨rc,hrc⟩:∃rc:LoopState→Option Code→Loop,rc=fun st pe=>{ state:=st,pending:=pe,fn,tmps:=a.tmps,params:=ps,assign,body,defers:=w.heap.size }:=⟨_,rfl⟩
 obtain⟨V,hV⟩:∃V,(w.alloc (.deferred (some []))).alloc (.loop (rc .ready none))=V:=⟨_,rfl⟩
 have vL:V.heap[w.heap.size+1]?=some (.loop (rc .ready none)):=by
  have:=World.alloc_heap_new (w.alloc (.deferred (some []))) (.loop (rc .ready none))
  rw[World.size_alloc] at this;rwa [←hV]
 have vD:V.heap[w.heap.size]?=some (.deferred (some [])):=by
  rw[←hV];exact (Below.heap_alloc _ _ _ (by simp)).trans (World.alloc_heap_new w _)
 have vI:I [] V:=by rw[←hV];exact hI.alloc _ (hI.alloc _ h0)
 have vB:Below w0.heap.size w0 V:=by
  rw[←hV];exact hb0.trans ((((Below.refl _ w).alloc (Nat.le_refl _) _).alloc (by simp) _).mono hb0.size)
 refine ⟨w.heap.size+1,[{ target:= .collected w.heap.size,args:= #[] }],V,{ target:= .fn (.func gf) lb,args:= #[.func (.yield (w.heap.size+1)) #[] #[]] },V,gf,
  #[.func (.yield (w.heap.size+1)) #[] #[]]++lb,V,?_,?_,?_,?_,fun _=>h1,?_⟩
 ·rw[←hV,hrc];exact run_enterLoop_outer _ _ _ _ _
 ·simp only[resolve,hg]
  simp[go_sem]
 ·intro f' hf';simp[Target.leads] at hf';subst hf';exact hFg
 ·simp[invoke,go_sem,eg]
 have hnw:∀{A B:World} {row:Option Nat},(∀r,row=some r→V.heap.size≤r∧∃o:Obj,A.heap[r]?=some o∧o.isWalk=true)→(∀r,row=some r→w.heap.size≤r∧∃o:Obj,A.heap[r]?=some o∧o.isCells=false):=
  fun hr r e=>by obtain⟨hB,o,ho,hw⟩:=hr r e;exact⟨by rw[←hV] at hB;simp at hB;omega,o,ho,Obj.not_cells_of_walk hw⟩
 refine (hseq (w.heap.size+1)
  (fun pre W=>I pre W∧W.heap[w.heap.size+1]?=some (.loop (rc .ready none))∧W.heap[w.heap.size]?=some (.deferred (some [])))
  (fun pre W=>∃c,Ix c pre W∧W.heap[w.heap.size+1]?=some (.loop (rc .done (some c)))∧W.heap[w.heap.size]?=some (.deferred (some [])))
  V vB
  (fun s A B row hs hg' hr=>⟨hI s A B row hs.1 hg' (hnw (B:=B) hr),(grownBy_keeps hg' (fun r e=>(hr r e).2) hs.2.1 rfl).trans hs.2.1,(grownBy_keeps hg' (fun r e=>(hr r e).2) hs.2.2 rfl).trans hs.2.2⟩)
  (fun s A B row hs hg' hr => by
   obtain⟨c,hc,hl,hk⟩:=hs
   exact⟨c,hIx c s A B row hc hg' (hnw (B:=B) hr),(grownBy_keeps hg' (fun r e=>(hr r e).2) hl rfl).trans hl,(grownBy_keeps hg' (fun r e=>(hr r e).2) hk rfl).trans hk⟩)
  ?_ ⟨vI,vL,vD⟩).mono ?_
 ·rintro pre x W ⟨hi,hl,hk⟩ hR hlen
  have hlt:w.heap.size+1<W.heap.size:=(Array.getElem?_eq_some_iff.1 hl).1
  have hy:=run_yield (P:=P) (args:=encs x) hl (by rw[hrc];exact hps x)
  rw[hrc] at hy
  refine ⟨fn,_,assign,body,hy,roundIn_of_wpIn hfn (hassign _ x W _ ⟨_,run_beginRound hl (by rw[hrc]),?_⟩)⟩
  obtain⟨U,hU⟩:∃U,W.putObj (w.heap.size+1) (.loop { rc .ready none with state:= .busy })=U:=⟨_,rfl⟩
  have uL:U.heap[w.heap.size+1]?=some (.loop { rc .ready none with state:= .busy }):=by rw[←hU];exact World.putObj_heap_same hlt
  have uD:U.heap[w.heap.size]?=some (.deferred (some [])):=by rw[←hU];exact (World.putObj_heap_other (by omega)).trans hk
  have uK:Kp W U:=by rw[←hU];exact hKb _ _ _ _ (by omega) hl rfl rfl
  have uI:I pre U:=by rw[←hU];exact hI.putObj _ hi (by omega) hl rfl
  have uR:R pre x U:=by rw[←hU];exact hRb pre x _ _ _ _ (by omega) hl rfl hR
  have main:=hbody (w.heap.size+1) pre x U uI uR hlen
  rw[←hU] at main uL uD uK
  refine wpIn_mono main ?_
  have fin:∀(jump:Option Code) (Z:World),KeepsFrom w.heap.size (W.putObj (w.heap.size+1) (.loop { rc .ready none with state:= .busy })) Z→
   (Instr.endRound (w.heap.size+1) jump).run P Z= .ok (.bool jump.isNone) (Z.putObj (w.heap.size+1) (.loop (rc (if jump.isNone then .ready else .done) jump)))∧
   Z.heap[w.heap.size+1]?=some (.loop { rc .ready none with state:= .busy })∧
   (Z.putObj (w.heap.size+1) (.loop (rc (if jump.isNone then .ready else .done) jump))).heap[w.heap.size+1]?=some (.loop (rc (if jump.isNone then .ready else .done) jump))∧
   (Z.putObj (w.heap.size+1) (.loop (rc (if jump.isNone then .ready else .done) jump))).heap[w.heap.size]?=some (.deferred (some [])):=fun jump Z hz=>by
   have zL:=hz.same _ _ (by omega) uL rfl
   have:=run_endRound (P:=P) jump zL
   rw[hrc] at this ⊢
   exact⟨this,by rw[hrc] at zL;exact zL,World.putObj_heap_same (Array.getElem?_eq_some_iff.1 zL).1,(World.putObj_heap_other (by omega)).trans (hz.same _ _ (Nat.le_refl _) uD rfl)⟩
  have leaves:∀(c:Code) (Z:World),KeepsFrom w.heap.size (W.putObj (w.heap.size+1) (.loop { rc .ready none with state:= .busy })) Z∧Ix c (pre++[x]) Z→
   ∃v Z',(Instr.endRound (w.heap.size+1) (some c)).run P Z= .ok v Z'∧v= .bool false∧∃c',Ix c' (pre++[x]) Z'∧Z'.heap[w.heap.size+1]?=some (.loop (rc .done (some c')))∧Z'.heap[w.heap.size]?=some (.deferred (some [])):=fun c Z ⟨hz,hi3⟩=>by
   obtain⟨hr,h3,h4,h5⟩:=fin (some c) Z hz
   exact⟨_,_,hr,rfl,c,(hIx _).putObj _ hi3 (by omega) h3 rfl,h4,h5⟩
  rintro e a3 Z hp
  cases e with
  | normal =>
    obtain⟨hz,hkp,hi3⟩:=hp
    obtain⟨hr,h3,h4,h5⟩:=fin none Z hz
    exact⟨_,_,hr,.inl ⟨rfl,⟨hI.putObj _ hi3 (by omega) h3 rfl,h4,h5⟩,hKt (hKt uK hkp) (hKb _ _ _ _ (by omega) h3 rfl rfl)⟩⟩
  | ret =>
    obtain⟨v,Z',h1,h2,h3⟩:=leaves .ret Z hp
    exact⟨v,Z',h1,.inr ⟨by rw[h2],h3⟩⟩
  | exit id =>
    obtain⟨v,Z',h1,h2,h3⟩:=leaves (.exit id) Z hp
    exact⟨v,Z',h1,.inr ⟨by rw[h2],h3⟩⟩
  | goto t =>
    obtain⟨v,Z',h1,h2,h3⟩:=leaves (.goto t) Z hp
    exact⟨v,Z',h1,.inr ⟨by rw[h2],h3⟩⟩
  | panic ch=>exact hp.elim
  | outgrown=>exact hp.elim
 ·rintro e Z ⟨⟨v,rfl⟩,(⟨xs,hS,hi,hl,hk⟩ | ⟨pre,hSp,c,hi,hl,hk⟩)⟩
  ·exact⟨none,_,by have:=run_endLoop (P:=P) hl (by rw[hrc];simp);rw[hrc] at this;exact this,hdone _ xs _ (Nat.le_refl _) hS (hI.putObj _ hi (by omega) hl rfl) ((World.putObj_heap_other (by omega)).trans hk)⟩
  ·exact⟨some c,_,by have:=run_endLoop (P:=P) hl (by rw[hrc];simp);rw[hrc] at this;exact this,hstop _ c pre _ (Nat.le_refl _) hSp ((hIx c).putObj _ hi (by omega) hl rfl) ((World.putObj_heap_other (by omega)).trans hk)⟩
end
abbrev Liv (m:Nat):={ p:Nat×Nat // p.1<m∧p.2<W64 }
def LivR (g:Nat) {m:Nat} (pre:List (Liv m)) (x:Liv m) (W:World):Prop:=W.cell? ⟨g,x.1.1,none⟩=some (.int .u64 (x.1.2:Nat))∧x.1.1+1+pre.length=m∧pre.map (·.1.1)=back m pre.length
structure KL (n₀ lo hi g m:Nat) (W W':World):Prop where
 kr:KR n₀ lo hi W W'
 row:∀L,RowU W g L→L.length=m→Bd L→∃L',RowU W' g L'∧L'.length=m∧Bd L'
theorem KL.trans {n₀ lo hi g m:Nat} {A B C:World} (h:KL n₀ lo hi g m A B) (k:KL n₀ lo hi g m B C):KL n₀ lo hi g m A C:=
 ⟨h.kr.trans k.kr,fun L hL hm hb=>by obtain⟨L',a,b,c⟩:=h.row L hL hm hb;exact k.row L' a b c⟩
theorem KL.refl (n₀ lo hi g m:Nat) (W:World):KL n₀ lo hi g m W W:=⟨KR.refl _ _ _ _,fun L h1 h2 h3=>⟨L,h1,h2,h3⟩⟩
theorem KL.put {n₀ lo hi g m:Nat} {w:World} (hn:n₀≤w.heap.size) (hh:hi≤w.heap.size) (W:World) (l:Nat) (o o':Obj) (hl:w.heap.size≤l) (h:W.heap[l]?=some o) (h1:o.isCells=false) (h2:o.isWalk=false):KL n₀ lo hi g m W (W.putObj l o'):=
 ⟨KR.put hn hh W l o o' hl h h1 h2,fun L hL hm hb=>⟨L,hL.putObj h h1,hm,hb⟩⟩
theorem LivR.put {g m:Nat} {pre:List (Liv m)} {x:Liv m} {W:World} {l:Nat} {o o':Obj} (hl:W.heap[l]?=some o) (ho:o.isCells=false) (h:LivR g pre x W):LivR g pre x (W.putObj l o'):=by
 obtain⟨h,hh⟩:=h
 refine ⟨?_,hh⟩
 rw[←h]
 refine World.cell?_of_block ((grownBy_putObj' W l o').block g ?_ (fun e=>?_))
 ·exact World.block_lt_of_cell? W _ h
 ·cases e
  have h2:=h
  unfold World.cell? at h2
  simp only[hl] at h2
  cases o<;>first | (cases ho;done) | (simp at h2)
theorem live1_in (F:Fence) (n:Nat) (h7:F.fn 234) (hro:F.round=none) (hn:1≤n) (lr Bs n₀ c g m:Nat) (hm:m≤9223372036854775807) (J Jx:List (Liv m)→World→Prop)
 (hY : ∀ pre x W, J pre W → LivR g pre x W → pre.length < m → YieldAt F (n - 1) Tryz.prog lr #[.int .i64 (x.1.1 : Nat), .int .u64 (x.1.2 : Nat)] W fun e W' =>
  (e= .returned (.bool true)∧J (pre++[x]) W'∧KL n₀ Bs (Bs+1) g m W W')∨(e= .returned (.bool false)∧Jx (pre++[x]) W'))
 (W:World) (hBs:W.cell? ⟨Bs,0,none⟩=some (.slice (some ⟨g,0,none⟩) m c)) (hr:∃L,RowU W g L∧L.length=m∧Bd L) (h0:J [] W):
 CallsIn F n Tryz.prog 234 #[.func (.yield lr) #[] #[],.pointer (some ⟨Bs,0,none⟩)] W fun e W'=>(∃v,e= .returned v)∧
  ((∃ys:List (Liv m),ys.map (·.1.1)=back m m∧J ys W')∨(∃pre:List (Liv m),(∃k,k≤m∧pre.map (·.1.1)=back m k)∧Jx pre W')):=by
 obtain⟨L0,a0,l0,b0⟩:=hr
 refine callsIn_of_wp Tryz.func234 rfl h7 ?_ hro
 simp only[Tryz.ntmps234,List.size_toArray,List.length_cons,List.length_nil,Nat.reduceAdd,Nat.reduceSub,Array.replicate_succ,Array.replicate_zero,List.push_toArray,List.append_toArray,List.nil_append,List.cons_append]
 gi_wp2
 gi_loopw [3] (fun i wr=>∃(k:Nat) (pre:List (Liv m)),k≤m∧i= .int .i64 ((m:Int) - 1 - (k:Int))∧Hid (pre.map (·.1.1)=back m k)∧J pre wr∧KL n₀ Bs (Bs+1) g m W wr)
  (fun i _=>(intOf i+1).toNat)
 case atStart=>exact⟨0,[],Nat.zero_le _,by simp,Lib.hid rfl,h0,KL.refl _ _ _ _ _ _⟩
 case round=>
  obtain⟨k,pre,hk,rfl,hpre,hJs,hnx⟩:=hrel
  by_cases hlt:k<m
  ·have hpk:pre.length=k:=by have:=congrArg List.length hpre.out;rwa [List.length_map,back_length] at this
   have hpl:pre.length<m:=by omega
   obtain⟨L1,a1,l1,b1⟩:=hnx.row L0 a0 l0 b0
   have hlt':m - 1 - k<m:=by omega
   have hnew:∀h,(pre++[(⟨(m - 1 - k,lat L1 (m - 1 - k)),h⟩:Liv m)]).map (·.1.1)=back m (k+1):=fun h=>by
    rw[List.map_append,hpre.out,back_succ];rfl
   have hcx:=a1.cell (i:=m - 1 - k) (by omega)
   obtain⟨fn,tmps,assign,body,hy,hR⟩:=hY pre ⟨(m - 1 - k,lat L1 (m - 1 - k)),hlt',b1.lat _⟩ wr hJs ⟨hcx,by show m - 1 - k+1+pre.length=m;omega,by rw[hpk];exact hpre.out⟩ hpl
   dsimp only at hy
   rw[show ((m - 1 - k:Nat):Int)=(m:Int) - 1 - (k:Int) from by omega] at hy
   have hBs':=(hnx.kr.cell (b:=Bs) (o:=0) (Nat.le_refl _) (Nat.lt_succ_self _)).trans hBs
   have hnew':=Lib.hid (hnew ⟨hlt',b1.lat _⟩)
   clear hnew hpl l0 l1 hpk
   gi_wp2
   refine hR.mono ?_
   rintro e W3 (⟨rfl,hJ3,hk3⟩ | ⟨rfl,hJx3⟩)
   ·gi_wp2
    go_roundw
    case rel=>exact⟨k+1,_,by omega,by go_num,hnew',hJ3,KL.trans hnx hk3⟩
    case measure=>simp[intOf];omega
   ·gi_wp2
    refine bodyPost_ret (results_none rfl _ _ _) rfl ?_
    exact⟨⟨_,rfl⟩,.inr ⟨_,⟨k+1,by omega,hnew'.out⟩,hJx3⟩⟩
  ·obtain rfl:k=m:=by omega
   clear l0
   gi_wp2
   go_end0
   exact⟨⟨_,rfl⟩,.inl ⟨_,hpre.out,hJs⟩⟩
theorem live_tells (F:Fence) (n:Nat) (h7:F.fn 234) (hro:F.round=none) (hn:1≤n) (Bs n₀ c g m:Nat) (hm:m≤9223372036854775807) (w:World) (hBs:Bs<w.heap.size)
 (hc:w.cell? ⟨Bs,0,none⟩=some (.slice (some ⟨g,0,none⟩) m c)) (hr:∃L,RowU w g L∧L.length=m∧Bd L):
 SeqTells F n Tryz.prog 234 #[.pointer (some ⟨Bs,0,none⟩)] (fun x:Liv m=> #[Value.int .i64 (x.1.1:Nat),Value.int .u64 (x.1.2:Nat)]) (LivR g) (KL n₀ Bs (Bs+1) g m) (fun ys=>ys.map (·.1.1)=back m m)
  (fun pre=>∃k,k≤m∧pre.map (·.1.1)=back m k) m w:=fun lr J Jx W hW _ _ hY h0=>by
 obtain⟨L,a,b,c'⟩:=hr
 exact live1_in F n h7 hro hn lr Bs n₀ c g m hm J Jx hY W ((hW.cell (p:=⟨Bs,0,none⟩) (by simp;omega)).trans hc) ⟨L,a.below hW a.lt,b,c'⟩ h0
end Go.Proofs.YtdnjdglekifhpaaGreat
namespace Go.Proofs.YtdnjdglekifhpaaGreat
def shortQ (b:Nat):List Nat→List Nat
 | []=>[]
 | x::l=>((num l % b)*W64+x) / b::shortQ b l
theorem num_two (x:Nat) (l:List Nat):num (x::l)=x+W64*num l:=rfl
theorem short_split (b x n:Nat):x+W64*n=(n % b)*W64+x+b*(W64*(n / b)):=by
 have e:=Nat.div_add_mod n b
 generalize n / b=q at *
 generalize n % b=r at *
 rw[←e,Nat.mul_add,Nat.mul_comm W64 r,←Nat.mul_assoc,←Nat.mul_assoc,Nat.mul_comm b W64];omega
theorem short_rem (b x:Nat) (l:List Nat):num (x::l) % b=((num l % b)*W64+x) % b:=by
 rw[num_two,short_split b,Nat.add_mul_mod_self_left]
theorem shortQ_num {b:Nat} (hb:0<b):∀l:List Nat,num (shortQ b l)=num l / b
 | []=>by unfold shortQ num;simp
 | x :: l => by
   have ih:=shortQ_num hb l
   show num (((num l % b)*W64+x) / b::shortQ b l)=num (x::l) / b
   rw[num_two,num_two,ih,short_split b x (num l),Nat.add_mul_div_left _ _ hb]
theorem shortQ_at (b:Nat):∀(l:List Nat) (i:Nat),i<l.length→shortQ b (l.drop i)=((num (l.drop (i+1)) % b)*W64+lat l i) / b::shortQ b (l.drop (i+1))
 | [],i,h=>by simp at h
 | x::l,0,_=>by simp[shortQ,lat]
 | x :: l, i + 1, h => by
   have:=shortQ_at b l i (by simpa using h)
   simpa [lat] using this
theorem short_rem_at (b:Nat) (l:List Nat) (i:Nat) (h:i<l.length):num (l.drop i) % b=((num (l.drop (i+1)) % b)*W64+lat l i) % b:=by
 have e:l.drop i=lat l i::l.drop (i+1):=by
  rw[List.drop_eq_getElem_cons h];congr 1;unfold lat;rw[List.getElem?_eq_getElem h];rfl
 rw[e,short_rem]
def shF (b:Nat) (a:List Nat) (s:List Nat×Nat) (i:Nat):List Nat×Nat:=(s.1.set i ((s.2*W64+lat a i) / b),(s.2*W64+lat a i) % b)
def shS (b:Nat) (a:List Nat) (is:List Nat):List Nat×Nat:=is.foldl (shF b a) (zeros a.length,0)
theorem shS_snoc (b:Nat) (a is:List Nat) (i:Nat):shS b a (is++[i])=shF b a (shS b a is) i:=by unfold shS;rw[List.foldl_append];rfl
theorem shS_len (b:Nat) (a:List Nat) (is:List Nat):(shS b a is).1.length=a.length:=by
 unfold shS
 suffices h:∀s:List Nat×Nat,(is.foldl (shF b a) s).1.length=s.1.length by rw[h];exact zeros_len _
 induction is with
 | nil=>intro s;rfl
 | cons i r ih=>intro s;rw[List.foldl_cons,ih];simp[shF]
theorem shS_ok {b:Nat} (hb:0<b) {a:List Nat} (ha:Bd a) (is:List Nat):(shS b a is).2<b∧Bd (shS b a is).1:=by
 unfold shS
 suffices h:∀s:List Nat×Nat,s.2<b→Bd s.1→(is.foldl (shF b a) s).2<b∧Bd (is.foldl (shF b a) s).1 from h _ hb (Bd.zeros _)
 induction is with
 | nil=>intro s h1 h2;exact⟨h1,h2⟩
 | cons i r ih =>
   intro s h1 h2
   rw[List.foldl_cons]
   refine ih _ (Nat.mod_lt _ hb) fun x hx=>?_
   rcases List.mem_or_eq_of_mem_set hx with h | h
   ·exact h2 x h
   ·rw[h]
    have hl:=ha.lat i
    rw[Nat.div_lt_iff_lt_mul hb]
    have :(s.2+1)*W64≤b*W64:=Nat.mul_le_mul_right W64 h1
    rw[Nat.add_mul,Nat.one_mul] at this
    rw[Nat.mul_comm W64 b]
    omega
theorem set_zeros (n:Nat) (x:Nat) (l:List Nat):(zeros (n+1)++l).set n x=zeros n++x::l:=by
 have e:zeros (n+1)=zeros n++[0]:=by unfold zeros;rw[List.replicate_succ']
 rw[e,List.append_assoc,List.set_append_right _ _ (by rw[zeros_len];exact Nat.le_refl _),zeros_len,Nat.sub_self]
 rfl
theorem shS_back (b:Nat) (a:List Nat):∀k,k≤a.length→shS b a (back a.length k)=(zeros (a.length - k)++shortQ b (a.drop (a.length - k)),num (a.drop (a.length - k)) % b)
 | 0, _ => by
   unfold shS back
   simp[shortQ,num]
 | k + 1, h => by
   rw[back_succ,shS_snoc,shS_back b a k (by omega)]
   unfold shF
   simp only
   have e:a.length - k=(a.length - 1 - k)+1:=by omega
   have e2:a.length - (k+1)=a.length - 1 - k:=by omega
   rw[e,e2]
   have h1:=shortQ_at b a (a.length - 1 - k) (by omega)
   have h2:=short_rem_at b a (a.length - 1 - k) (by omega)
   rw[set_zeros,h1,h2]
theorem shS_all {b:Nat} (hb:0<b) (a:List Nat):num (shS b a (back a.length a.length)).1=num a / b∧(shS b a (back a.length a.length)).2=num a % b:=by
 rw[shS_back b a _ (Nat.le_refl _),Nat.sub_self,List.drop_zero]
 have e:zeros 0=[]:=rfl
 rw[e,List.nil_append]
 exact⟨shortQ_num hb a,rfl⟩
open Go.RowKit Go.Shelf
attribute [local go_sem] Oper.semAt_some
theorem backK1_in (F:Fence) (n:Nat) (h7:F.fn 234) (hro:F.round=none) (hn:1≤n) (lr Bs n₀ c:Nat) (A:Option Addr) (l:List Nat) (hl:l.length≤9223372036854775807) (J Jx:List (Idx l.length)→World→Prop)
 (hY : ∀ pre x W, J pre W → pre.length < l.length → YieldAt F (n - 1) Tryz.prog lr #[.int .i64 (x.1 : Nat), .int .u64 (lat l x.1 : Nat)] W fun e W' =>
  (e= .returned (.bool true)∧J (pre++[x]) W'∧KR n₀ Bs (Bs+1) W W')∨(e= .returned (.bool false)∧Jx (pre++[x]) W'))
 (W:World) (hBs:W.cell? ⟨Bs,0,none⟩=some (.slice A l.length c)) (hr:Reads W n₀ 1 A l.length (us l)) (h0:J [] W):
 CallsIn F n Tryz.prog 234 #[.func (.yield lr) #[] #[],.pointer (some ⟨Bs,0,none⟩)] W fun e W'=>(∃v,e= .returned v)∧
  ((∃ys:List (Idx l.length),ys.map (·.1)=back l.length l.length∧J ys W')∨(∃pre:List (Idx l.length),(∃k,k≤l.length∧pre.map (·.1)=back l.length k)∧Jx pre W')):=by
 refine callsIn_of_wp Tryz.func234 rfl h7 ?_ hro
 simp only[Tryz.ntmps234,List.size_toArray,List.length_cons,List.length_nil,Nat.reduceAdd,Nat.reduceSub,Array.replicate_succ,Array.replicate_zero,List.push_toArray,List.append_toArray,List.nil_append,List.cons_append]
 gi_wp2
 gi_loopw [3] (fun i wr=>∃(k:Nat) (pre:List (Idx l.length)),k≤l.length∧i= .int .i64 ((l.length:Int) - 1 - (k:Int))∧Hid (pre.map (·.1)=back l.length k)∧J pre wr∧KR n₀ Bs (Bs+1) W wr)
  (fun i _=>(intOf i+1).toNat)
 case atStart=>exact⟨0,[],Nat.zero_le _,by simp,Lib.hid rfl,h0,KR.refl _ _ _ _⟩
 case round=>
  obtain⟨k,pre,hk,rfl,hpre,hJs,hnx⟩:=hrel
  by_cases hlt:k<l.length
  ·have hpl:pre.length<l.length:=by have:=congrArg List.length hpre.out;rw[List.length_map,back_length] at this;omega
   have hnew:∀h:l.length - 1 - k<l.length,(pre++[(⟨l.length - 1 - k,h⟩:Idx l.length)]).map (·.1)=back l.length (k+1):=fun h=>by
    rw[List.map_append,hpre.out,back_succ];rfl
   obtain⟨fn,tmps,assign,body,hy,hR⟩:=hY pre ⟨l.length - 1 - k,by omega⟩ wr hJs hpl
   dsimp only at hy
   rw[show ((l.length - 1 - k:Nat):Int)=(l.length:Int) - 1 - (k:Int) from by omega] at hy
   obtain⟨ad,rfl,hb,hcx⟩:=us_cell (hr.below hnx.low) (k:=l.length - 1 - k) (by omega)
   have hBs':=(hnx.cell (b:=Bs) (o:=0) (Nat.le_refl _) (Nat.lt_succ_self _)).trans hBs
   have hnew':=Lib.hid (hnew (by omega))
   clear hnew hpl
   gi_wp2
   refine hR.mono ?_
   rintro e W3 (⟨rfl,hJ3,hk3⟩ | ⟨rfl,hJx3⟩)
   ·gi_wp2
    go_roundw
    case rel=>exact⟨k+1,_,by omega,by go_num,hnew',hJ3,KR.trans hnx hk3⟩
    case measure=>simp[intOf];omega
   ·gi_wp2
    refine bodyPost_ret (results_none rfl _ _ _) rfl ?_
    exact⟨⟨_,rfl⟩,.inr ⟨_,⟨k+1,by omega,hnew'.out⟩,hJx3⟩⟩
  ·obtain rfl:k=l.length:=by omega
   gi_wp2
   go_end0
   exact⟨⟨_,rfl⟩,.inl ⟨_,hpre.out,hJs⟩⟩
theorem backK_stops (F:Fence) (n:Nat) (h7:F.fn 234) (hro:F.round=none) (hn:1≤n) (Bs n₀ c:Nat) (A:Option Addr) (l:List Nat) (hl:l.length≤9223372036854775807) (w:World) (hBs:Bs<w.heap.size) (hn₀:n₀≤w.heap.size)
 (hc:w.cell? ⟨Bs,0,none⟩=some (.slice A l.length c)) (hr:Reads w n₀ 1 A l.length (us l)):
 SeqStopsK F n Tryz.prog 234 #[.pointer (some ⟨Bs,0,none⟩)] (fun x:Idx l.length=> #[Value.int .i64 (x.1:Nat),Value.int .u64 (lat l x.1:Nat)]) (KR n₀ Bs (Bs+1)) (fun ys=>ys.map (·.1)=back l.length l.length)
  (fun pre=>∃k,k≤l.length∧pre.map (·.1)=back l.length k) l.length w:=fun lr J Jx W hW _ _ hY h0=>
 backK1_in F n h7 hro hn lr Bs n₀ c A l hl J Jx hY W ((hW.cell (p:=⟨Bs,0,none⟩) (by simp;omega)).trans hc) (hr.below (hW.mono hn₀)) h0
end Go.Proofs.YtdnjdglekifhpaaGreat
namespace Go.Proofs.YtdnjdglekifhpaaGreat
section
variable {P:Program} {ops:Array Oper} {md:Region.Mode} {w:World} {n:Nat}
theorem wpInW_of_still {o:Oper} {a:Act} {K:Act→Prop} {K':Act→World→Prop} {Q':Exit→Act→World→Prop} (h:∀a,K a→K' a w) (hh:o.still P a w K):o.wpIn Fence.wide n P a w K' Q':=by
 unfold Oper.still at hh
 unfold Oper.wpIn
 refine ⟨fun _ _=>trivial,?_⟩
 rw[Fence.wide_round,Oper.semAt_none]
 generalize (execOp a.eval o).run P w=r at *
 cases r with
 | ok x w' =>
   cases x<;>simp only[Oper.stillUpon] at hh<;>simp only[Oper.uponIn]
   case enter f args=>
    obtain⟨rfl,v,hc,hn⟩:=hh
    exact⟨fun hd=>by simp[Fence.wide] at hd,callsIn_wide.2 (hc.mono fun e w'' ⟨he,hw⟩=>by subst he;subst hw;exact h _ hn)⟩
   all_goals (obtain⟨rfl,h2⟩:=hh;exact h _ h2)
 | halt x w'=>simp only[Oper.stillUpon] at hh
theorem wpOpInW_of_stOp {i:Nat} {a:Act} {K:Act→Prop} {K':Act→World→Prop} {Q':Exit→Act→World→Prop} (h:∀a,K a→K' a w) (hh:stOp P ops w i K a):wpOpIn Fence.wide n P ops Q' i K' a w:=by
 unfold stOp at hh
 unfold wpOpIn
 split
 ·rename_i ho;simp only[ho] at hh;exact h _ hh
 ·rename_i o ho
  simp only[ho] at hh
  split
  ·rename_i hw;simp only[hw,if_true] at hh;exact wpInW_of_still h hh
  ·rename_i hw;simp only[hw] at hh;exact⟨fun _ _=>trivial,h _ hh⟩
theorem wpAnyInW_of_head {m g:Nat} {L:Array Bool→Act→Prop} {Q':Exit→Act→World→Prop} (hL:∀listed a,L listed a→wpAnyIn Fence.wide n P md ops Q' g listed a w):
 ∀(f:Nat) (listed:Array Bool) (a:Act),wpAnyL P md ops w m L f listed a→wpAnyIn Fence.wide n P md ops Q' (f+g) listed a w
 | 0,listed,a,h=>by rw[Nat.zero_add];exact hL _ _ h
 | f + 1, listed, a, h => by
   rw[show f+1+g=(f+g)+1 by omega]
   exact⟨fun h0=>absurd h0 h.1,fun i hi=>wpOpInW_of_stOp (fun a' h'=>wpAnyInW_of_head hL f _ a' h') (h.2 i hi).2⟩
theorem wpAnyInW_of_seq {Q':Exit→Act→World→Prop}:∀(l:List Oper) (k:Nat) (listed:Array Bool) (a:Act) (w:World),(∀j,l[j]?=ops[k+j]?)→
 Region.seqB md ops l.length k listed=true→wpListIn Fence.wide n P ops Q' l a w→wpAnyIn Fence.wide n P md ops Q' l.length listed a w
 | [],_,_,_,_,_,hB,h=>⟨by simpa [Region.seqB] using hB,h⟩
 | o :: l, k, listed, a, w, hl, hB, h => by
   have h0:ops[k]?=some o:=by simpa using (hl 0).symm
   simp only[List.length_cons,Region.seqB,Bool.and_eq_true,decide_eq_true_eq] at hB
   refine ⟨fun h1=>(by rw[hB.1] at h1;cases h1),fun i hi=>?_⟩
   rw[hB.1] at hi
   have hik:i=k:=by simpa using hi
   subst hik
   have hw:wpOpIn Fence.wide n P ops Q' i (wpListIn Fence.wide n P ops Q' l) a w:=by unfold wpOpIn;simp only[h0];exact h
   exact wpOpIn_mono (fun a' w' h'=>wpAnyInW_of_seq l (i+1) _ a' w' (fun j=>by have:=hl (j+1);simpa [Nat.add_assoc,Nat.add_comm 1 j] using this) hB.2 h') hw
theorem wpInW_region_still_tail {id:Nat} {Q:Exit→Act→World→Prop} {a:Act} {w:World} {l:List Oper} (m:Nat) (hm:P.follows .mixedOrders=true) (hB:Region.lexTailB .any l.toArray m=true)
 (h:wpStill P l.toArray { w with drawn:=w.drawn+1 } (fun a'=>wpListIn Fence.wide n P l.toArray Q (l.drop m) a' { w with drawn:=w.drawn+1 }) (l.take m) a):(Code.region id l.toArray true).wpIn Fence.wide n P Q a w:=by
 simp only[Region.lexTailB,Bool.and_eq_true,decide_eq_true_eq] at hB
 obtain⟨⟨⟨⟨hsel,hn⟩,hs⟩,hc⟩,hlex⟩:=hB
 have hn':m<l.length:=by simpa using hn
 have htl:(l.take m).length=m:=by simp;omega
 have hdl:(l.drop m).length=l.toArray.size - m:=by simp
 have inv0:HeadInv .any l.toArray m (Array.replicate l.toArray.size false):=
  ⟨by simp,fun j oj _ hl=>(by rw[getD_replicate_false] at hl;cases hl),fun t _ ht=>getD_in (by simpa using ht) (getD_replicate_false _ _)⟩
 have H:=wpAnyL_lex (md:= .any) (g:=l.toArray.size - m) hsel hs hc hn (l.take m) 0 _ a (fun j hj=>by
  have hj':j<m:=by rw[htl] at hj;exact hj
  simp[hj']) (by simpa using htl) inv0 (by rw[htl];exact hlex) h
 refine wpIn_region_any hm ?_
 have:=wpAnyInW_of_head (n:=n) (Q':=Q) (g:=l.toArray.size - m) (fun listed a' hL=>by
  have:=wpAnyInW_of_seq (n:=n) (md:= .any) (Q':=Q) (l.drop m) m listed a' { w with drawn:=w.drawn+1 } (fun j=>by simp[List.getElem?_drop]) (by rw[hdl];exact hL.1) hL.2
  rwa [hdl] at this) _ _ _ H
 rw[htl,show m+(l.toArray.size - m)=l.toArray.size by omega] at this
 exact this
end
open Go.RowKit Go.Shelf
attribute [local go_sem] Oper.semAt_some
theorem pat_any (A:Option Addr) (l:List Nat) (c:Nat) (i:Nat) (w:World) (B:Nat) (hr:Reads w B 1 A l.length (us l)) (_:l.length≤9223372036854775807):
 Calls Tryz.prog 235 #[.slice A l.length c,.int .i64 i] w fun e w'=>e= .returned (.int .u64 (lat l i:Nat))∧w=w':=by
 by_cases h:i<l.length
 ·obtain⟨ad,rfl,hb,hc⟩:=us_cell hr h
  go_enter Tryz.func235,Tryz.ntmps235
  go_wp2
  go_ret
  exact⟨rfl,rfl⟩
 ·rw[lat_ge (by omega)]
  go_enter Tryz.func235,Tryz.ntmps235
  go_wp2
  go_ret
  exact⟨rfl,rfl⟩
theorem pairs_in (n:Nat) (A B:Option Addr) (la lb ca cb:Nat) (w:World):
 CallsIn Fence.wide n Tryz.prog 202 #[.slice A la ca,.slice B lb cb] w fun e w'=>e= .returned (.func (.func 236) #[] #[.pointer (some ⟨w.heap.size,0,none⟩),.pointer (some ⟨w.heap.size+1,0,none⟩),.pointer (some ⟨w.heap.size+2,0,none⟩)])∧
  w'=((w.alloc (.cells #[.slice A la ca] 28)).alloc (.cells #[.slice B lb cb] 28)).alloc (.cells #[.func (.func 235) #[] #[]] 205):=by
 refine callsIn_wide.2 ?_
 have hmf:∀(fn:Fn) (first cap:Array Value) (w:World),(Instr.makeFunc fn first cap).run Tryz.prog w= .ok (.func fn first cap) w:=fun _ _ _ _=>rfl
 go_enter Tryz.func202,Tryz.ntmps202
 go_wp2
 go_ret
 exact⟨rfl,rfl⟩
abbrev Pair2:={ p:Nat×Nat // p.1<W64∧p.2<W64 }
def pairsTo (a b:List Nat) (k:Nat):List (Nat×Nat):=(List.range k).map fun j=>(lat a j,lat b j)
theorem pairsTo_succ (a b:List Nat) (k:Nat):pairsTo a b (k+1)=pairsTo a b k++[(lat a k,lat b k)]:=by simp[pairsTo,List.range_succ]
theorem pairsTo_length (a b:List Nat) (k:Nat):(pairsTo a b k).length=k:=by simp[pairsTo]
theorem pairs1_in (lr B0 n₀ ca cb:Nat) (A B:Option Addr) (a b:List Nat) (ha:a.length≤9223372036854775807) (hb:b.length≤9223372036854775807) (hba:Bd a) (hbb:Bd b) (J Jx:List Pair2→World→Prop) (hJd:∀pre W,J pre W→J pre W.drew)
 (hY : ∀ pre x W, J pre W → pre.length < max a.length b.length → YieldAt Fence.wide (8 - 1) Tryz.prog lr #[.int .u64 (x.1.1 : Nat), .int .u64 (x.1.2 : Nat)] W fun e W' =>
  (e= .returned (.bool true)∧J (pre++[x]) W'∧KR n₀ B0 (B0+3) W W')∨(e= .returned (.bool false)∧Jx (pre++[x]) W'))
 (W:World) (h1:W.cell? ⟨B0,0,none⟩=some (.slice A a.length ca)) (h2:W.cell? ⟨B0+1,0,none⟩=some (.slice B b.length cb)) (h3:W.cell? ⟨B0+2,0,none⟩=some (.func (.func 235) #[] #[]))
 (hra:Reads W n₀ 1 A a.length (us a)) (hrb:Reads W n₀ 1 B b.length (us b)) (h0:J [] W):
 CallsIn Fence.wide 8 Tryz.prog 236 #[.func (.yield lr) #[] #[],.pointer (some ⟨B0,0,none⟩),.pointer (some ⟨B0+1,0,none⟩),.pointer (some ⟨B0+2,0,none⟩)] W fun e W'=>(∃v,e= .returned v)∧
  ((∃ys:List Pair2,ys.map (·.1)=pairsTo a b (max a.length b.length)∧J ys W')∨(∃pre:List Pair2,(∃k,k≤max a.length b.length∧pre.map (·.1)=pairsTo a b k)∧Jx pre W')):=by
 have hmx:Tryz.prog.follows .mixedOrders=true:=by kernel_rfl
 refine callsIn_of_wp Tryz.func236 rfl trivial ?_ rfl
 simp only[Tryz.ntmps236,List.size_toArray,List.length_cons,List.length_nil,Nat.reduceAdd,Nat.reduceSub,Array.replicate_succ,Array.replicate_zero,List.push_toArray,List.append_toArray,List.nil_append,List.cons_append]
 obtain⟨m,hm⟩:∃m,m=max a.length b.length:=⟨_,rfl⟩
 rw[←hm] at hY ⊢
 have hmax:=fun t y W=>run_max_nat (P:=Tryz.prog) t y W a.length b.length
 rw[←hm] at hmax
 have hma:a.length≤m:=by omega
 have hmb:b.length≤m:=by omega
 have hmm:m≤9223372036854775807:=by omega
 clear hm
 gi_wp2
 gi_loopw [11] (fun i wr=>∃(k:Nat) (pre:List Pair2),k≤m∧i= .int .i64 k∧Hid (pre.map (·.1)=pairsTo a b k)∧J pre wr∧KR n₀ B0 (B0+3) W wr)
  (fun i _=>m - (intOf i).toNat)
 case atStart=>exact⟨0,[],Nat.zero_le _,by simp,Lib.hid rfl,h0,KR.refl _ _ _ _⟩
 case round=>
  obtain⟨k,pre,hk,rfl,hpre,hJs,hnx⟩:=hrel
  by_cases hlt:k<m
  ·obtain⟨fn,tmps,assign,body,hy,hR⟩:=hY pre ⟨(lat a k,lat b k),hba.lat k,hbb.lat k⟩ wr.drew (hJd _ _ hJs) (by have:=congrArg List.length hpre.out;rw[List.length_map,pairsTo_length] at this;omega)
   dsimp only at hy
   have g1:=(hnx.cell (by omega) (by omega)).trans h1
   have g2:=(hnx.cell (by omega) (by omega)).trans h2
   have g3:=(hnx.cell (by omega) (by omega)).trans h3
   obtain⟨x,hx⟩:∃x:Pair2,x=⟨(lat a k,lat b k),hba.lat k,hbb.lat k⟩:=⟨_,rfl⟩
   rw[←hx] at hR
   have hnew:Hid ((pre++[x]).map (·.1)=pairsTo a b (k+1)):=by rw[Hid,List.map_append,hpre.out,pairsTo_succ,hx];rfl
   clear hx
   have hR:=hR.mono (R':=fun e W'=>∃q:Bool,e= .returned (.bool q)∧Hid ((q=true∧J (pre++[x]) W'∧KR n₀ B0 (B0+3) wr.drew W')∨(q=false∧Jx (pre++[x]) W'))) (by
    rintro e W' (⟨rfl,h,h'⟩ | ⟨rfl,h⟩)
    ·exact⟨true,rfl,.inl ⟨rfl,h,h'⟩⟩
    ·exact⟨false,rfl,.inr ⟨rfl,h⟩⟩)
   have c1:=(pat_any A a ca k wr.drew n₀ (hra.below hnx.low).drew ha).mono (R':=fun e w'=>e= .returned (.int .u64 (lat a k:Nat))∧w'=wr.drew) (fun _ _ ⟨h,h'⟩=>⟨h,h'.symm⟩)
   have c2:=(pat_any B b cb k wr.drew n₀ (hrb.below hnx.low).drew hb).mono (R':=fun e w'=>e= .returned (.int .u64 (lat b k:Nat))∧w'=wr.drew) (fun _ _ ⟨h,h'⟩=>⟨h,h'.symm⟩)
   have C1:=Lib.hid c1
   have C2:=Lib.hid c2
   clear c1 c2
   gi_wp2
   refine wpInW_region_still_tail 9 hmx (by kernel_rfl) ?_
   simp only[List.take_succ_cons,List.take_zero,List.drop_succ_cons,List.drop_zero]
   iterate 4 still_step
   still_call C1.out
   iterate 3 still_step
   still_call C2.out
   refine wpStill_nil ?_
   gi_wp2_with fail
   refine hR.mono ?_
   rintro e W3 ⟨q,rfl,hq⟩
   cases q
   ·rcases hq.out with ⟨h,_⟩ | ⟨_,hJx3⟩
    ·cases h
    gi_wp2
    refine bodyPost_ret (results_none rfl _ _ _) rfl ?_
    exact⟨⟨_,rfl⟩,.inr ⟨_,⟨k+1,by omega,hnew.out⟩,hJx3⟩⟩
   ·rcases hq.out with ⟨_,hJ3,hk3⟩ | ⟨h,_⟩
    ·gi_wp2
     exact⟨⟨k+1,_,by omega,by go_num,hnew,hJ3,hnx.drew.trans hk3⟩,by simp[intOf];omega⟩
    ·cases h
  ·obtain rfl:k=m:=by omega
   gi_wp2
   go_end0
   exact⟨⟨_,rfl⟩,.inl ⟨_,hpre.out,hJs⟩⟩
theorem pairs_stops (B0 n₀ ca cb:Nat) (A B:Option Addr) (a b:List Nat) (ha:a.length≤9223372036854775807) (hb:b.length≤9223372036854775807) (hba:Bd a) (hbb:Bd b) (w:World) (hB:B0+2<w.heap.size) (hn₀:n₀≤w.heap.size)
 (h1:w.cell? ⟨B0,0,none⟩=some (.slice A a.length ca)) (h2:w.cell? ⟨B0+1,0,none⟩=some (.slice B b.length cb)) (h3:w.cell? ⟨B0+2,0,none⟩=some (.func (.func 235) #[] #[]))
 (hra:Reads w n₀ 1 A a.length (us a)) (hrb:Reads w n₀ 1 B b.length (us b)):
 SeqStopsK Fence.wide 8 Tryz.prog 236 #[.pointer (some ⟨B0,0,none⟩),.pointer (some ⟨B0+1,0,none⟩),.pointer (some ⟨B0+2,0,none⟩)] (fun x:Pair2=> #[Value.int .u64 (x.1.1:Nat),Value.int .u64 (x.1.2:Nat)]) (KR n₀ B0 (B0+3))
  (fun ys=>ys.map (·.1)=pairsTo a b (max a.length b.length)) (fun pre=>∃k,k≤max a.length b.length∧pre.map (·.1)=pairsTo a b k) (max a.length b.length) w:=fun lr J Jx W hW hJ _ hY h0=>
 pairs1_in lr B0 n₀ ca cb A B a b ha hb hba hbb J Jx (fun pre W h=>hJ _ W W.drew none h (grownBy_drew W) (fun r e=>by cases e)) hY W
  ((hW.cell (p:=⟨B0,0,none⟩) (by simp;omega)).trans h1) ((hW.cell (p:=⟨B0+1,0,none⟩) (by simp;omega)).trans h2) ((hW.cell (p:=⟨B0+2,0,none⟩) (by simp;omega)).trans h3) (hra.below (hW.mono hn₀)) (hrb.below (hW.mono hn₀)) h0
theorem snoc_ind {α:Type} {p:List α→Prop} (h0:p []) (h1:∀l x,p l→p (l++[x])):∀l,p l:=by
 have key:∀n (l:List α),l.length=n→p l:=by
  intro n
  induction n with
  | zero=>intro l hl;rw[List.eq_nil_of_length_eq_zero hl];exact h0
  | succ n ih =>
    intro l hl
    have hne:l≠[]:=by rintro rfl;simp at hl
    rw[←List.dropLast_concat_getLast hne]
    exact h1 _ _ (ih _ (by simp[hl]))
 exact fun l=>key _ l rfl
theorem wide_fn (f:FuncId):Fence.wide.fn f:=trivial
def addF (s:List Nat×Nat) (p:Nat×Nat):List Nat×Nat:=(s.1++[(p.1+p.2+s.2) % W64],(p.1+p.2+s.2) / W64)
def addS (pre:List Pair2):List Nat×Nat:=(pre.map (·.1)).foldl addF ([],0)
theorem addS_snoc (pre:List Pair2) (x:Pair2):addS (pre++[x])=addF (addS pre) x.1:=by simp[addS]
theorem addS_ok (pre:List Pair2):(addS pre).1.length=pre.length∧(addS pre).2≤1∧Bd (addS pre).1:=by
 refine snoc_ind (p:=fun pre=>(addS pre).1.length=pre.length∧(addS pre).2≤1∧Bd (addS pre).1) ⟨rfl,by simp[addS],Bd.nil⟩ ?_ pre
 ·intro pre x ⟨h1,h2,h3⟩
  rw[addS_snoc]
  refine ⟨by simp[addF,h1],?_,h3.snoc (Nat.mod_lt _ W64_pos)⟩
  have:=x.2
  simp only[addF]
  have h:x.1.1+x.1.2+(addS pre).2<2*W64:=by omega
  have:=Nat.div_lt_of_lt_mul (m:=x.1.1+x.1.2+(addS pre).2) (n:=W64) (k:=2) (by omega)
  omega
theorem addTo (a b:List Nat) (k:Nat):num (((pairsTo a b k).foldl addF ([],0)).1)+W64^k*((pairsTo a b k).foldl addF ([],0)).2=num (a.take k)+num (b.take k)∧((pairsTo a b k).foldl addF ([],0)).1.length=k:=by
 induction k with
 | zero=>simp[pairsTo,num]
 | succ k ih =>
   obtain⟨h1,h2⟩:=ih
   rw[pairsTo_succ,List.foldl_append,List.foldl_cons,List.foldl_nil]
   generalize (pairsTo a b k).foldl addF ([],0)=s at *
   refine ⟨?_,by simp[addF,h2]⟩
   simp only[addF]
   rw[num_append,num_single,h2,num_take_succ,num_take_succ,Nat.pow_succ]
   have:=Nat.mod_add_div (lat a k+lat b k+s.2) W64
   have e:W64^k*((lat a k+lat b k+s.2) % W64)+W64^k*W64*((lat a k+lat b k+s.2) / W64)=W64^k*(lat a k+lat b k+s.2):=by
    rw[Nat.mul_assoc,←Nat.mul_add,this]
   simp only[Nat.mul_add] at *
   omega
theorem addS_num {a b:List Nat} {ys:List Pair2} (h:ys.map (·.1)=pairsTo a b (max a.length b.length)):num ((addS ys).1++[(addS ys).2])=num a+num b:=by
 have:=addTo a b (max a.length b.length)
 rw[num_append,num_single]
 unfold addS
 rw[h,this.2]
 rw[this.1,num_take_ge _ _ (by omega),num_take_ge _ _ (by omega)]
theorem below_appended {W w1:World} {b₁:Nat} {e:TypeId} {v:Value} {k:Nat} {xs:List Value} {tmp:Obj} (hrow:W.ownsRow b₁ e 1 v k xs) (hb₁:b₁≤W.heap.size) (hgrow:(W.alloc tmp).grownBy w1 v.ownBlock):
 Below b₁ W w1∧KeepsOthers W w1:=by
 refine ⟨((Below.refl b₁ W).alloc hb₁ tmp).grown hgrow (by simp;omega) fun j ej=>(hrow.lt j ej).1,(KeepsOthers.alloc W tmp).trans (KeepsOthers.of_grownBy hgrow fun j o ej hj=>?_)⟩
 rcases (hrow.alloc tmp).2 with ⟨rfl,_⟩ | ⟨g,cap,cur,rfl,_,hgb,_⟩
 ·simp[Value.ownBlock] at ej
 ·obtain rfl:g=j:=by simpa [Value.ownBlock] using ej
  rw[hgb] at hj;cases hj;rfl
theorem boxed_low {W w1:World} {b₁ C:Nat} {t:TypeId} {u:Value} (h:Boxed W C t u) (hb:Below b₁ W w1) (hC:C<b₁):Boxed w1 C t u:=(hb.block C hC).trans h
theorem boxed_far {W:World} {C B:Nat} {t:TypeId} {u x:Value} (h:Boxed W C t u) (hne:C≠B):Boxed (W.setCell ⟨B,0,none⟩ x) C t u:=(Below.heap_setCell W ⟨B,0,none⟩ x C hne).trans h
theorem IsL.putObj {W:World} {v:Value} {l:List Nat} (h:IsL W v l) {D:Nat} {o:Obj} (hD:W.heap[D]?=some o) (ho:o.isCells=false):IsL (W.putObj D (.deferred none)) v l:=by
 obtain⟨A,c,e,h1,h2,h3,h4⟩:=h
 refine ⟨A,c,e,h1,h2,h3,h4.1,fun hn=>?_⟩
 obtain⟨ad,e1,e2,e3⟩:=h4.2 hn
 have hg:=grownBy_putObj' W D (.deferred none)
 refine ⟨ad,e1,Nat.lt_of_lt_of_le e2 hg.size,fun j u hu=>?_⟩
 rw[←e3 j u hu]
 have hb:(ad.add j).block<W.heap.size:=by rw[block_of_add];exact e2
 refine World.cell?_of_block (hg.block _ hb (fun e=>?_))
 have hDj:D=(ad.add j).block:=by injection e with e;exact e.symm
 have hc:=e3 j u hu
 rw[hDj] at hD
 cases o<;>simp_all [World.cell?,Obj.isCells]
theorem add_in (va vb:Value) (a b:List Nat) (w:World) (ha:IsL w va a) (hb:IsL w vb b) (hla:a.length≤1000000) (hlb:b.length≤1000000):
 CallsIn Fence.wide 9 Tryz.prog 150 #[va,vb] w fun e w'=>∃v',e= .returned v'∧IsN w' v' (num a+num b)∧Below w.heap.size w w':=by
 obtain⟨A,ca,rfl,hac,hca,hba,hra⟩:=ha
 obtain⟨B,cb,rfl,hbc,hcb,hbb,hrb⟩:=hb
 obtain⟨i0,hi,hz0,hz1,hz2⟩:=info_parts info_u64
 refine callsIn_of_wp_marks Tryz.func150 rfl trivial ?_ rfl
 simp only[Tryz.ntmps150,List.size_toArray,List.length_cons,List.length_nil,Nat.reduceAdd,Nat.reduceSub,Array.replicate_succ,Array.replicate_zero,List.push_toArray,List.append_toArray,List.nil_append,List.cons_append]
 gi_wp2_with (first | (refine ⟨trivial,?_⟩;gi_at_call 202;refine (pairs_in _ _ _ _ _ _ _ _).mono ?_;rintro e w' ⟨rfl,rfl⟩))
 obtain⟨W0,hW0⟩:∃W0,W0=((((w.alloc (.cells #[.slice none 0 0] 28)).alloc (.cells #[.int .u64 0] 141)).alloc (.cells #[.slice A a.length ca] 28)).alloc (.cells #[.slice B b.length cb] 28)).alloc (.cells #[.func (.func 235) #[] #[]] 205):=⟨_,rfl⟩
 have hsz:W0.heap.size=w.heap.size+5:=by rw[hW0];simp
 have bO:Boxed W0 w.heap.size 28 (.slice none 0 0):=by rw[hW0];exact ((((Boxed.new w _ _).alloc _).alloc _).alloc _).alloc _
 have bC:Boxed W0 (w.heap.size+1) 141 (.int .u64 0):=by rw[hW0];have:=Boxed.new (w.alloc (.cells #[.slice none 0 0] 28)) 141 (.int .u64 0);rw[World.size_alloc] at this;exact ((this.alloc _).alloc _).alloc _
 have bA:Boxed W0 (w.heap.size+2) 28 (.slice A a.length ca):=by rw[hW0];have:=Boxed.new ((w.alloc (.cells #[.slice none 0 0] 28)).alloc (.cells #[.int .u64 0] 141)) 28 (.slice A a.length ca);simp only[World.size_alloc] at this;exact (this.alloc _).alloc _
 have bB:Boxed W0 (w.heap.size+3) 28 (.slice B b.length cb):=by rw[hW0];have:=Boxed.new (((w.alloc (.cells #[.slice none 0 0] 28)).alloc (.cells #[.int .u64 0] 141)).alloc (.cells #[.slice A a.length ca] 28)) 28 (.slice B b.length cb);simp only[World.size_alloc] at this;exact this.alloc _
 have bF:Boxed W0 (w.heap.size+4) 205 (.func (.func 235) #[] #[]):=by rw[hW0];have:=Boxed.new ((((w.alloc (.cells #[.slice none 0 0] 28)).alloc (.cells #[.int .u64 0] 141)).alloc (.cells #[.slice A a.length ca] 28)).alloc (.cells #[.slice B b.length cb] 28)) 205 (.func (.func 235) #[] #[]);simp only[World.size_alloc] at this;exact this
 have hB0:Below w.heap.size w W0:=by rw[hW0];exact (((((Below.refl _ w).alloc (Nat.le_refl _) _).alloc (by simp) _).alloc (by simp;omega) _).alloc (by simp;omega) _).alloc (by simp;omega) _
 rw[←hW0]
 clear hW0
 refine wpIn_rangeFunc_ownG (n:=9) rfl (by omega) (gf:=236) (lb:= #[.pointer (some ⟨w.heap.size+2,0,none⟩),.pointer (some ⟨w.heap.size+2+1,0,none⟩),.pointer (some ⟨w.heap.size+2+2,0,none⟩)]) rfl trivial (enters_of Tryz.func236 (by kernel_rfl) rfl)
  (pairs_stops (w.heap.size+2) w.heap.size ca cb A B a b (by omega) (by omega) hba hbb W0 (by omega) (by omega) bA.cell bB.cell bF.cell (hra.below hB0) (hrb.below hB0)) KR.trans (KR.put (by omega) (by omega)) (Below.refl _ _) (fun _=>rfl)
  (fun pre W=>(∃v,Boxed W w.heap.size 28 v∧W.ownsRow W0.heap.size 141 1 v (addS pre).1.length (us (addS pre).1)∧True)∧Boxed W (w.heap.size+1) 141 (.int .u64 ((addS pre).2:Nat))∧(Below w.heap.size w W∧W0.heap.size≤W.heap.size))
  (fun _ _ _=>False)
  ?oI ?oX ?st ?a1 ?assign ?body ?done ?stop
 case assign=>
  intro l x W K hK
  gi_wp2
  exact hK
 case oI=>exact OwnFrom.and (Own.from (holdsRow_own W0.heap.size w.heap.size 28 141 1 (fun pre=>(addS pre).1.length) (fun pre=>us (addS pre).1) (fun _ _=>True)) _) (OwnFrom.and (Own.from (show Own (fun (s:List Pair2) (W:World)=>Boxed W (w.heap.size+1) 141 (.int .u64 ((addS s).2:Nat))) from fun s X Y row hs hg hr=>boxed_kept hs hg hr) _) (OwnFrom.and (ownFrom_below (by omega) (by omega)) (Own.from (show Own (fun (_:List Pair2) (W:World)=>W0.heap.size≤W.heap.size) from fun s X Y row hs hg hr=>Nat.le_trans hs hg.size) _)))
 case oX=>exact fun _ _ _ _ _ hs _ _=>hs
 case st=>exact⟨⟨_,bO,World.ownsRow_nil _ _ _ _,trivial⟩,bC,hB0,Nat.le_refl _⟩
 case body=>
  rintro l pre x W ⟨⟨v,hv,hrow,_⟩,hC,hBel,hWs⟩ hlt
  have hc:=hv.cell
  have hc2:=hC.cell
  have hf2:=hC.frozen
  obtain⟨k1,k2,k3⟩:=addS_ok pre
  have k2':(addS pre).2≤1:=k2
  have hA:=fun W=>run_Add64 x.1.1 x.1.2 (addS pre).2 k2 W
  have hsn:=addS_snoc pre x
  rw[addF] at hsn
  have hsb:=Nat.mod_lt (x.1.1+x.1.2+(addS pre).2) W64_pos
  generalize (x.1.1+x.1.2+(addS pre).2) % W64=sm at hA hsn hsb
  generalize (x.1.1+x.1.2+(addS pre).2) / W64=cy at hA hsn
  have Hsn:=Lib.hid hsn
  clear hsn
  have hcl:=Lib.hid k1
  have hlen:pre.length≤1000000:=by omega
  have hlen2:(addS pre).1.length≤1000000:=by omega
  clear k1 hlt
  have hsW:W0.heap.size≤W.heap.size:=hWs
  have hwf:=wide_fn 179
  gi_wp2_with (gi_at_builtin;go_must (refine wpListIn_append_own _ rfl _ _ 28 rfl W0.heap.size 141 i0 (.int .u64 0) 1 8 Tryz.underlying28 hi hz0 hz1 hz2 rfl (by decide) _ _ _ rfl (hrow.alloc _) ⟨W.heap.size,0,none⟩ 1 1 [.int .u64 (sm:Nat)] rfl rfl (cell_one_new _ _ _) (by simp[Value.oneCell']) (by unfold maxLen;omega) (by omega) (by simp;omega) ?_;intro v' w1 hown' hgrow _;obtain⟨g',cap',rfl⟩:=ownsRow_succ hown';obtain⟨hbl,hko⟩:=below_appended hrow hsW hgrow;have hv1:=boxed_low hv hbl (by omega);have hC1:=boxed_low hC hbl (by omega);have hc1:=hv1.cell;have hf1:=hv1.frozen;have hc1':=hC1.cell;have hf1':=hC1.frozen))
  have hsn:=Hsn.out
  refine ⟨?_,?_,?_⟩
  ·exact (hko.trans ((KeepsOthers.setCell _ _ _).trans (KeepsOthers.setCell _ _ _))).from _
  ·exact ((KR.of_below hbl (by omega) (by omega)).set (by omega) (by omega) _).set (by omega) (by omega) _
  ·refine ⟨⟨_,boxed_far (hv1.set _) (by omega),?_,trivial⟩,?_,?_,?_⟩
   ·rw[hsn,List.length_append,List.length_singleton,us_snoc]
    exact ownsRow_setCell_below (ownsRow_setCell_below hown' (by show w.heap.size<W0.heap.size;omega) _) (by show w.heap.size+1<W0.heap.size;omega) _
   ·rw[hsn];exact (boxed_far hC1 (by omega)).set _
   ·exact (((hBel.trans (hbl.mono (by omega))).setCell (p:=⟨w.heap.size,0,none⟩) (by simp) _).setCell (p:=⟨w.heap.size+1,0,none⟩) (by simp) _)
   ·simp[World.setCell];exact Nat.le_trans (by omega) hbl.size
 case done=>
  rintro D ys W hD hys ⟨⟨v,hv,hrow,_⟩,hC,hBel,hWs⟩ hK
  have hc:=hv.cell
  have hc2:=hC.cell
  obtain⟨k1,k2,k3⟩:=addS_ok ys
  have hl2:(addS ys).1.length≤1000000:=by
   have:=congrArg List.length hys
   rw[List.length_map,pairsTo_length] at this
   omega
  have hys':=Lib.hid hys
  clear hys k1
  gi_wp2_with (gi_at_builtin;refine wpListIn_append_own _ rfl _ _ 28 rfl W0.heap.size 141 i0 (.int .u64 0) 1 8 Tryz.underlying28 hi hz0 hz1 hz2 rfl (by decide) _ _ _ rfl (hrow.alloc _) ⟨W.heap.size,0,none⟩ 1 1 [.int .u64 ((addS ys).2:Nat)] rfl rfl (cell_one_new _ _ _) (by simp[Value.oneCell']) (by unfold maxLen;omega) (by omega) (by have:=hBel.size;simp;omega) ?_;intro v' w1 hown' hgrow _)
  obtain⟨hbl,hko⟩:=below_appended hrow hWs hgrow
  have hres:IsL w1 v' ((addS ys).1++[(addS ys).2]):=IsL.of_own (by rw[List.length_append,List.length_singleton,us_snoc];exact hown') (k3.snoc (by unfold W64;omega))
  refine ⟨wide_fn _,(callsIn_wide.2 (bare_any v' _ w1 hres)).mono ?_⟩
  rintro e w' ⟨r,rfl,hr,rfl⟩
  rw[addS_num hys'.out] at hr
  gi_wp2
  have hK':=hko.same D _ hK rfl
  refine ⟨by simp,.inl ⟨_,_,rfl,run_takeDeferred hK',?_⟩⟩
  have hBB:=(hBel.trans (hbl.mono (by omega))).trans (belowK_b (w:=w) (Nat.le_refl _) w1 D _ (.deferred none) (by omega) hK' rfl rfl)
  exact⟨_,results_tmp rfl _ _ _,r,rfl,IsL.putObj hr hK' rfl,hBB⟩
 case stop=>
  rintro D c pre W _ _ h _
  exact h.elim
theorem add_any (va vb:Value) (a b:Nat) (w:World) (ha:IsN w va a) (hb:IsN w vb b) (hla:(limbs a).length≤1000000) (hlb:(limbs b).length≤1000000):
 Calls Tryz.prog 150 #[va,vb] w fun e w'=>∃v',e= .returned v'∧IsN w' v' (a+b)∧Below w.heap.size w w':=by
 have:=callsIn_wide.1 (add_in va vb _ _ w ha hb hla hlb)
 rwa [num_limbs,num_limbs] at this
end Go.Proofs.YtdnjdglekifhpaaGreat
namespace Go.Proofs.YtdnjdglekifhpaaGreat
section
variable {P:Program} {ops:Array Oper} {md:Region.Mode} {w:World} {n lr:Nat}
def noDefer (o:Oper):Bool:=match o.op with
 | .defer _=>false
 | _=>true
end
section
variable {P:Program} {ops:Array Oper} {md:Region.Mode} {n lr:Nat} {Q:Exit→Act→World→Prop}
theorem rowsInR {row:String} {args:Array Value} {w:World} {R:Value→World→Prop} (h:Rows P row args w R):RowsIn (Fence.wide.inRound lr) n P row args w R:=
 fun c cs _=>let ⟨v,w',r,s⟩:=h c cs;⟨v,w',r,stepsIn_wide.2 s⟩
theorem wpInR_of_wp {o:Oper} {a:Act} {w:World} {K:Act→World→Prop} (hno:∀c,o.op≠.defer c) (hh:o.wp P a w K Q):o.wpIn (Fence.wide.inRound lr) n P a w K Q:=by
 unfold Oper.wp at hh
 unfold Oper.wpIn
 refine ⟨fun _ _=>trivial,?_⟩
 rw[Fence.inRound_round,Oper.semAt_eq _ _ _ hno]
 generalize (execOp a.eval o).run P w=r at *
 cases r with
 | ok x w' =>
   cases x<;>simp only[Oper.upon] at hh<;>simp only[Oper.uponIn]
   case enter f args=>exact⟨fun hd=>by simp[Fence.wide] at hd,CallsIn.inRound lr (callsIn_wide.2 hh)⟩
   case row=>exact⟨fun hd=>by simp[Fence.wide] at hd,rowsInR hh⟩
   all_goals exact hh
 | halt x w'=>cases x<;>simp only[Oper.upon] at hh<;>simp only[Oper.uponIn]<;>exact hh
theorem wpOpInR_of_wpOp {i:Nat} {a:Act} {w:World} {K K':Act→World→Prop} (hq:¬LetsOut Q) (h:∀a w,K a w→K' a w) (hnd:∀(i:Nat) (o:Oper),ops[i]?=some o→∀c,o.op≠.defer c) (hh:wpOp P ops Q i K a w):wpOpIn (Fence.wide.inRound lr) n P ops Q i K' a w:=by
 unfold wpOp at hh
 unfold wpOpIn
 split
 ·rename_i ho;simp only[ho] at hh;exact h _ _ hh
 ·rename_i o ho
  simp only[ho] at hh
  split
  ·rename_i hw;simp only[hw,if_true] at hh
   rcases hh with hh | hh
   ·exact wpInR_of_wp (hnd _ _ ho) (Oper.wp_mono h hh)
   ·exact absurd hh.2 hq
  ·rename_i hw;simp only[hw] at hh;exact⟨fun _ _=>trivial,h _ _ hh⟩
theorem wpAnyInR_of_wpAny (hq:¬LetsOut Q) (hnd:∀(i:Nat) (o:Oper),ops[i]?=some o→∀c,o.op≠.defer c):∀(f:Nat) (listed:Array Bool) (a:Act) (w:World),wpAny P md ops Q f listed a w→wpAnyIn (Fence.wide.inRound lr) n P md ops Q f listed a w
 | 0,_,_,_,h=>h
 | f+1,_listed,_a,_w,h=>⟨h.1,fun i hi=>wpOpInR_of_wpOp hq (fun a' w' h'=>wpAnyInR_of_wpAny hq hnd f _ a' w' h') hnd (h.2 i hi)⟩
def OnlyN (K:Act→World→Prop):Exit→Act→World→Prop
 | .normal,a,w=>K a w
 | _,_,_=>False
theorem wpInR_region_held {id:Nat} {a:Act} {w:World} {S:World→Prop} (hm:P.follows .mixedOrders=true) (hnd:ops.toList.all noDefer=true) (hS:S w.drew)
 (h:S w.drew→wpAnyH P .any ops (OnlyN (Q .normal)) S ops.size (Array.replicate ops.size false) a w.drew):(Code.region id ops true).wpIn (Fence.wide.inRound lr) n P Q a w:=by
 refine wpIn_mono (wpIn_region_any hm (wpAnyInR_of_wpAny (Q:=OnlyN (Q .normal)) (fun ⟨_,_,h1⟩=>h1) (fun i o ho c e=>?_) _ _ _ _ (wpAny_of_held _ _ _ _ (h hS)))) (fun e a w h=>?_)
 ·have:=List.all_eq_true.1 hnd o (List.mem_of_getElem? (by simpa using ho))
  unfold noDefer at this;rw[e] at this;cases this
 ·cases e<;>first | exact h | exact (h:False).elim
end
open Go.RowKit Go.Shelf
attribute [local go_sem] Oper.semAt_some
theorem arr_kept {W W':World} {row:Option Nat} {g:Nat} {l:List Nat} (h:Arr W g l) (hg:W.grownBy W' row) (hr:∀r,row=some r→∃o:Obj,W.heap[r]?=some o∧o.isCells=false):Arr W' g l:=
 (hg.block g h.lt (fun e => by
  obtain⟨o,ho,hc⟩:=hr g e.symm
  unfold Arr at h;rw[h] at ho;cases ho;cases hc)).trans h
theorem boxed_farI {W:World} {C B i:Nat} {t:TypeId} {u x:Value} (h:Boxed W C t u) (hne:C≠B):Boxed (W.setCell ⟨B,i,none⟩ x) C t u:=(Below.heap_setCell W ⟨B,i,none⟩ x C hne).trans h
theorem short_in (va:Value) (a:List Nat) (b:Nat) (hb:0<b) (hb64:b<W64) (w:World) (ha:IsL w va a) (hla:a.length≤1000000):
 CallsIn Fence.wide 9 Tryz.prog 196 #[va,.int .u64 b] w fun e w'=>∃q,e= .returned (.tuple #[q,.int .u64 ((num a % b:Nat):Int)])∧IsN w' q (num a / b)∧Fresh w.heap.size q∧Below w.heap.size w w':=by
 obtain⟨A,ca,rfl,hac,hca,hba,hra⟩:=ha
 have hmk:=run_make_u64 28 Tryz.underlying28 a.length (a.length:Int) rfl (by omega)
 refine callsIn_of_wp_marks Tryz.func196 rfl trivial ?_ rfl
 simp only[Tryz.ntmps196,List.size_toArray,List.length_cons,List.length_nil,Nat.reduceAdd,Nat.reduceSub,Array.replicate_succ,Array.replicate_zero,List.push_toArray,List.append_toArray,List.nil_append,List.cons_append]
 gi_wp2_with (first | (refine ⟨trivial,?_⟩;gi_at_call 198;refine (backward_in Fence.wide _ trivial rfl _ _ _ _).mono ?_;rintro e w' ⟨rfl,rfl⟩))
 obtain⟨W0,hW0⟩:∃W0,W0=((((w.alloc (.cells #[.int .u64 b] 141)).alloc (.cells (us (zeros a.length)).toArray 141)).alloc (.cells #[.slice (some ⟨w.heap.size+1,0,none⟩) a.length a.length] 28)).alloc (.cells #[.int .u64 0] 141)).alloc (.cells #[.slice A a.length ca] 28):=⟨_,rfl⟩
 have hsz:W0.heap.size=w.heap.size+5:=by rw[hW0];simp
 have bB:Boxed W0 w.heap.size 141 (.int .u64 b):=by rw[hW0];exact ((((Boxed.new w _ _).alloc _).alloc _).alloc _).alloc _
 have aQ:Arr W0 (w.heap.size+1) (zeros a.length):=by rw[hW0];have:=Arr.new (w.alloc (.cells #[.int .u64 b] 141)) (zeros a.length);rw[World.size_alloc] at this;exact ((this.alloc _).alloc _).alloc _
 have bQ:Boxed W0 (w.heap.size+2) 28 (.slice (some ⟨w.heap.size+1,0,none⟩) a.length a.length):=by rw[hW0];have:=Boxed.new ((w.alloc (.cells #[.int .u64 b] 141)).alloc (.cells (us (zeros a.length)).toArray 141)) 28 (.slice (some ⟨w.heap.size+1,0,none⟩) a.length a.length);simp only[World.size_alloc] at this;exact (this.alloc _).alloc _
 have bR:Boxed W0 (w.heap.size+3) 141 (.int .u64 0):=by rw[hW0];have:=Boxed.new (((w.alloc (.cells #[.int .u64 b] 141)).alloc (.cells (us (zeros a.length)).toArray 141)).alloc (.cells #[.slice (some ⟨w.heap.size+1,0,none⟩) a.length a.length] 28)) 141 (.int .u64 0);simp only[World.size_alloc] at this;exact this.alloc _
 have bI:Boxed W0 (w.heap.size+4) 28 (.slice A a.length ca):=by rw[hW0];have:=Boxed.new ((((w.alloc (.cells #[.int .u64 b] 141)).alloc (.cells (us (zeros a.length)).toArray 141)).alloc (.cells #[.slice (some ⟨w.heap.size+1,0,none⟩) a.length a.length] 28)).alloc (.cells #[.int .u64 0] 141)) 28 (.slice A a.length ca);simp only[World.size_alloc] at this;exact this
 have hB0:Below w.heap.size w W0:=by rw[hW0];exact (((((Below.refl _ w).alloc (Nat.le_refl _) _).alloc (by simp) _).alloc (by simp;omega) _).alloc (by simp;omega) _).alloc (by simp;omega) _
 rw[←hW0]
 clear hW0
 refine wpIn_rangeFunc_ownG (n:=9) rfl (by omega) (gf:=234) (lb:= #[.pointer (some ⟨w.heap.size+4,0,none⟩)]) rfl trivial (enters_of Tryz.func234 (by kernel_rfl) rfl)
  (backK_stops Fence.wide 8 trivial rfl (by omega) (w.heap.size+4) w.heap.size ca A a (by omega) W0 (by omega) (by omega) bI.cell (hra.below hB0)) KR.trans (KR.put (by omega) (by omega)) (Below.refl _ _) (fun _=>rfl)
  (fun pre W=>(Arr W (w.heap.size+1) (shS b a (pre.map (·.1))).1∧Boxed W w.heap.size 141 (.int .u64 b)∧Boxed W (w.heap.size+2) 28 (.slice (some ⟨w.heap.size+1,0,none⟩) a.length a.length)∧Boxed W (w.heap.size+3) 141 (.int .u64 ((shS b a (pre.map (·.1))).2:Nat)))∧(Below w.heap.size w W∧W0.heap.size≤W.heap.size))
  (fun _ _ _=>False)
  ?oI ?oX ?st ?a1 ?assign ?body ?done ?stop
 case assign=>
  intro l x W K hK
  gi_wp2
  exact hK
 case oI=>exact OwnFrom.and (Own.from (show Own (fun (s:List (Idx a.length)) (W:World)=>Arr W (w.heap.size+1) (shS b a (s.map (·.1))).1∧Boxed W w.heap.size 141 (.int .u64 b)∧Boxed W (w.heap.size+2) 28 (.slice (some ⟨w.heap.size+1,0,none⟩) a.length a.length)∧Boxed W (w.heap.size+3) 141 (.int .u64 ((shS b a (s.map (·.1))).2:Nat))) from fun s X Y row hs hg hr=>⟨arr_kept hs.1 hg hr,boxed_kept hs.2.1 hg hr,boxed_kept hs.2.2.1 hg hr,boxed_kept hs.2.2.2 hg hr⟩) _) (OwnFrom.and (ownFrom_below (by omega) (by omega)) (Own.from (show Own (fun (_:List (Idx a.length)) (W:World)=>W0.heap.size≤W.heap.size) from fun s X Y row hs hg hr=>Nat.le_trans hs hg.size) _))
 case oX=>exact fun _ _ _ _ _ hs _ _=>hs
 case st=>exact⟨⟨aQ,bB,bQ,bR⟩,hB0,Nat.le_refl _⟩
 case body=>
  rintro lr pre x W ⟨⟨hA,hB,hQ,hR⟩,hBel,hWs⟩ hlt
  obtain⟨is,his⟩:∃y,y=pre.map (fun y:Idx a.length=>y.1):=⟨_,rfl⟩
  have hnew:(pre++[x]).map (fun y:Idx a.length=>y.1)=is++[x.1]:=by rw[List.map_append,←his];rfl
  rw[←his] at hA hR
  have HNEW:=Lib.hid hnew
  obtain⟨hr0,hbd⟩:=shS_ok hb hba is
  have hlen:=shS_len b a is
  have hsn:=shS_snoc b a is x.1
  unfold shF at hsn
  obtain⟨s,hs⟩:∃y,y=shS b a is:=⟨_,rfl⟩
  rw[←hs] at hA hR hr0 hbd hlen hsn
  clear hs his hnew hlt
  obtain⟨l,r⟩:=s
  simp only at hA hR hr0 hbd hlen hsn
  have hx64:=hba.lat x.1
  have hxi:=x.2
  have hD:=fun w=>div64_any r (lat a x.1) b hx64 hb64 hr0 w
  generalize (r*W64+lat a x.1) / b=q1 at hD hsn
  generalize (r*W64+lat a x.1) % b=r1 at hD hsn
  have HSN:=Lib.hid hsn
  clear hsn
  generalize lat a x.1=xl at *
  generalize x.1=xi at *
  have i0:(0:Int)≤(xi:Int):=by omega
  have i1:(xi:Int)<(a.length:Int):=by omega
  have hmx:Tryz.prog.follows .mixedOrders=true:=by kernel_rfl
  gi_wp2_with fail
  refine wpInR_region_held (S:=fun w'=>w'.cell? ⟨w.heap.size+2,0,none⟩=some (.slice (some ⟨w.heap.size+1,0,none⟩) a.length a.length)∧w'.cell? ⟨w.heap.size,0,none⟩=some (.int .u64 b)) hmx (by kernel_rfl) ?_ (fun hHeld=>?_)
  ·exact⟨hQ.cell,hB.cell⟩
  generalize hwd:W.drew=wd at hHeld ⊢
  have bd:Below W.heap.size W wd:=by rw[←hwd];exact (Below.refl _ _).drew
  clear hwd
  refine tkA 0 rfl ?_
  refine tkA 1 rfl ?_
  refine tkA 3 rfl ?_
  refine tkA 4 rfl ?_
  try simp only[lay]
  refine wpAnyH_ready (rs:=[2]) (by kernel_rfl) (by simp) ?_
  refine AllReadyH.cons rfl (fun K hK=>?_) AllReadyH.nil
  have hQd:Boxed wd (w.heap.size+2) 28 _:=boxed_low hQ bd hQ.lt
  have hBd:Boxed wd w.heap.size 141 _:=boxed_low hB bd hB.lt
  have rc:wd.cell? ⟨w.heap.size+3,0,none⟩=some (.int .u64 r):=Boxed.cell (boxed_low hR bd hR.lt)
  go_simp
  refine hK.out _ _ ?_ fun hHeld=>?_
  ·exact⟨hQd.cell,hBd.cell⟩
  clear hK K rc
  try simp only[lay]
  refine wpAnyH_ready (rs:=[5]) (by kernel_rfl) (by simp) ?_
  refine AllReadyH.cons rfl (fun K hK=>?_) AllReadyH.nil
  go_simp
  refine (hD _).mono ?_
  rintro e w1 ⟨rfl,n1,hn1⟩
  have d1:Below W.heap.size W w1:=by rw[hn1];exact bd.trans ((below_drewN (Below.refl _ _) n1).mono bd.size)
  clear hn1
  have hA1:Arr w1 (w.heap.size+1) l:=hA.below d1 hA.lt
  have hQ1:Boxed w1 (w.heap.size+2) 28 _:=boxed_low hQ d1 hQ.lt
  have hR1:Boxed w1 (w.heap.size+3) 141 _:=boxed_low hR d1 hR.lt
  have hB1:Boxed w1 w.heap.size 141 _:=boxed_low hB d1 hB.lt
  go_wp2_with fail
  refine hK.out _ _ ?_ fun hHeld=>?_
  ·exact⟨hQ1.cell,hB1.cell⟩
  clear hK K
  refine tkA 6 rfl ?_
  refine tkA 7 rfl ?_
  refine tkA 8 rfl ?_
  refine tkA 9 rfl ?_
  try simp only[lay]
  refine wpAnyH_ready (rs:=[10]) (by kernel_rfl) (by simp) ?_
  refine AllReadyH.cons rfl (fun K hK=>?_) AllReadyH.nil
  have qc:=hA1.cell (i:=xi) (by omega)
  have qf:=hA1.frozen xi
  go_simp
  refine hK.out _ _ ?_ fun hHeld=>?_
  ·exact⟨(boxed_farI hQ1 (by omega)).cell,(boxed_farI hB1 (by omega)).cell⟩
  clear hK K qc qf
  try simp only[lay]
  refine wpAnyH_ready (rs:=[11]) (by kernel_rfl) (by simp) ?_
  refine AllReadyH.cons rfl (fun K hK=>?_) AllReadyH.nil
  have hR2:=boxed_farI (i:=xi) (x:=(.int .u64 (q1:Nat))) hR1 (show w.heap.size+3≠w.heap.size+1 by omega)
  have rc:=hR2.cell
  have rf:=hR2.frozen
  go_simp
  refine hK.out _ _ ?_ fun hHeld=>?_
  ·exact⟨(boxed_far (boxed_farI hQ1 (by omega)) (by omega)).cell,(boxed_far (boxed_farI hB1 (by omega)) (by omega)).cell⟩
  clear hK K rc rf
  refine wpAnyH_done (by kernel_rfl) ?_ _
  dsimp only[OnlyN]
  gi_wp2
  have hKO:KeepsOthers W w1:=⟨d1.size,fun k o hk ho=>(d1.block k (Array.getElem?_eq_some_iff.1 hk).1).trans hk⟩
  have hA2:=hA1.set xi q1
  have hB2:Boxed (w1.setCell ⟨w.heap.size+1,xi,none⟩ (.int .u64 (q1:Nat))) w.heap.size 141 _:=boxed_farI hB1 (by omega)
  have hQ2:Boxed (w1.setCell ⟨w.heap.size+1,xi,none⟩ (.int .u64 (q1:Nat))) (w.heap.size+2) 28 _:=boxed_farI hQ1 (by omega)
  have hwW:=hBel.size
  refine ⟨?_,?_,?_⟩
  ·exact (hKO.trans ((KeepsOthers.setCell _ _ _).trans (KeepsOthers.setCell _ _ _))).from _
  ·exact ((KR.of_below d1 (by omega) (by omega)).setAt (by omega) (.inl (by omega)) _).set (by omega) (.inl (by omega)) _
  ·refine ⟨⟨?_,boxed_far hB2 (by omega),boxed_far hQ2 (by omega),?_⟩,?_,?_⟩
   ·rw[HNEW.out,HSN.out]
    exact (Below.heap_setCell _ ⟨w.heap.size+3,0,none⟩ _ (w.heap.size+1) (by show w.heap.size+1≠w.heap.size+3;omega)).trans hA2
   ·rw[HNEW.out,HSN.out];exact hR2.set _
   ·exact ((hBel.trans (d1.mono hwW)).setCell (p:=⟨w.heap.size+1,xi,none⟩) (by simp) _).setCell (p:=⟨w.heap.size+3,0,none⟩) (by simp) _
   ·simp[World.setCell];exact Nat.le_trans hWs d1.size
 case done=>
  rintro D ys W hD hys ⟨⟨hA,hB,hQ,hR⟩,hBel,hWs⟩ hK
  rw[hys] at hA hR
  obtain⟨e1,e2⟩:=shS_all hb a
  obtain⟨_,hbd⟩:=shS_ok hb hba (back a.length a.length)
  have hlen:=shS_len b a (back a.length a.length)
  obtain⟨s,hs⟩:∃y,y=shS b a (back a.length a.length):=⟨_,rfl⟩
  rw[←hs] at hA hR e1 e2 hbd hlen
  clear hs hys
  obtain⟨l,r⟩:=s
  simp only at hA hR e1 e2 hbd hlen
  subst e2
  have HE1:=Lib.hid e1
  clear e1
  have hKD:=Lib.hid hK
  clear hK
  obtain⟨rr,hrr⟩:∃y,y=num a % b:=⟨_,rfl⟩
  rw[←hrr] at hR
  have HRR:=Lib.hid hrr
  clear hrr
  gi_wp2_with fail
  refine wpIn_wide.2 ?_
  refine wp_region_noPanic ?_
  refine wp_region_held_drew (S:=fun w'=>w'.cell? ⟨w.heap.size+2,0,none⟩=some (.slice (some ⟨w.heap.size+1,0,none⟩) a.length a.length)∧w'.cell? ⟨w.heap.size+3,0,none⟩=some (.int .u64 rr)) (by kernel_rfl) ?_ (fun hHeld=>?_)
  ·exact⟨hQ.cell,hR.cell⟩
  refine tkA 0 rfl ?_
  refine tkA 2 rfl ?_
  try simp only[lay]
  refine wpAnyH_ready (rs:=[1]) (by kernel_rfl) (by simp) ?_
  refine AllReadyH.cons rfl (fun K hK=>?_) AllReadyH.nil
  have hres:IsL W.drew (.slice (some ⟨w.heap.size+1,0,none⟩) a.length a.length) l:=by have:=Arr.isL hA.drew hbd (by omega);rw[hlen] at this;exact this
  go_simp
  refine (dbare_any _ _ _ hres).mono ?_
  rintro e w' ⟨q,rfl,hq,hfr,rfl⟩
  rw[HE1.out] at hq
  have hFr:Fresh w.heap.size q:=fun g e=>by have:=hfr g e;cases this;exact Nat.le_succ _
  clear hfr
  go_wp2_with fail
  refine hK.out _ _ ?_ fun hHeld=>?_
  ·exact⟨hQ.cell,hR.cell⟩
  clear hK K
  refine tkA 3 rfl ?_
  try simp only[lay]
  try dsimp only
  refine tkA 4 rfl ?_
  try simp only[lay]
  refine wpAnyH_done (by kernel_rfl) ?_ _
  refine NoPanic.normal ?_
  gi_wp2
  have hK':W.drew.heap[D]?=some (.deferred (some [])):=hKD.out
  have hBd:Below w.heap.size w W.drew:=hBel.drew
  refine ⟨by simp,.inl ⟨_,_,rfl,run_takeDeferred hK',?_⟩⟩
  refine ⟨.tuple #[q,.int .u64 rr],?_,⟨q,by rw[HRR.out],IsL.putObj hq hK' rfl,hFr,hBd.trans (belowK_b (w:=w) (Nat.le_refl _) W.drew D _ (.deferred none) (by omega) hK' rfl rfl)⟩⟩
  simp[results,Tryz.f196,go_sem]
 case stop=>
  rintro D c pre W _ _ h _
  exact h.elim
theorem short_any (va:Value) (a:Nat) (b:Nat) (hb:0<b) (hb64:b<W64) (w:World) (ha:IsN w va a) (hla:(limbs a).length≤1000000):
 Calls Tryz.prog 196 #[va,.int .u64 b] w fun e w'=>∃q,e= .returned (.tuple #[q,.int .u64 ((a % b:Nat):Int)])∧IsN w' q (a / b)∧Fresh w.heap.size q∧Below w.heap.size w w':=by
 have:=callsIn_wide.1 (short_in va _ b hb hb64 w ha hla)
 rwa [num_limbs] at this
def ShrPost (a n:Nat) (w:World) (e:Ending) (w':World):Prop:=∃v',e= .returned (.tuple #[v',.int .i64 0])∧IsN w' v' (a / 2^n)∧Fresh w.heap.size v'∧Below w.heap.size w w'
theorem Reads.dropU {w:World} {B n m:Nat} {ad:Addr} {l:List Nat} (h:Reads w B 1 (some ad) n (us l)) (hm:m<n):Reads w B 1 (some (ad.add m)) (n - m) (us (l.drop m)):=by
 have hl:=h.1
 rw[us_len] at hl
 obtain⟨ad',e,hb,hc⟩:=h.2 (by omega)
 cases e
 refine ⟨by rw[us_len,List.length_drop];omega,fun _=>⟨_,rfl,by rw[block_of_add];exact hb,fun j u hu=>?_⟩⟩
 rw[add_of_add]
 refine hc _ _ ?_
 rw[←hu]
 simp[us,List.getElem?_drop]
theorem dshr_in (va:Value) (a:Nat) (n:Nat) (hn:n≤20000) (w:World) (ha:IsN w va a) (hla:(limbs a).length≤1000000) (hlt:n / 64<(limbs a).length):
 CallsIn Fence.wide 9 Tryz.prog 201 #[va,.int .i64 n] w (ShrPost a n w):=by
 obtain⟨A,c,rfl,hlc,hc,hbd,hr⟩:=ha
 have HALL:=Lib.hid (shr_all hbd n)
 rw[num_limbs] at HALL
 obtain⟨l,hl⟩:∃l,l=limbs a:=⟨_,rfl⟩
 rw[←hl] at HALL hbd hr hla hlc hlt ⊢
 clear hl
 obtain⟨s,hs⟩:∃s,s=n % 64:=⟨_,rfl⟩
 obtain⟨m,hm⟩:∃m,m=n / 64:=⟨_,rfl⟩
 have hs64:s<64:=by omega
 have q1:(n:Int) % 64=(s:Int):=by omega
 have q2:(n:Int) / 64=(m:Int):=by omega
 rw[←hs,←hm] at HALL
 rw[←hm] at hlt
 clear hs hm
 have hd0:decide ((n:Int)<0)=false:=decide_eq_false (by omega)
 have hd1:¬(20000:Int)<(n:Int):=by omega
 have hd2:¬(l.length:Int)≤(m:Int):=by omega
 have hd3:(m:Int)≤(l.length:Int):=by omega
 have hd4:(m:Int)≤(c:Int):=by omega
 obtain⟨ad,rfl,hab,_⟩:=us_cell hr (k:=0) (by omega)
 obtain⟨d,hd⟩:∃d,d=l.drop m:=⟨_,rfl⟩
 have hdl:l.length - m=d.length:=by rw[hd,List.length_drop]
 have hd1l:d.length≤1000000:=by omega
 have hdp:0<d.length:=by omega
 have hbd':Bd d:=by rw[hd];exact fun x hx=>hbd x (List.mem_of_mem_drop hx)
 have hD:IsL w (.slice (some (ad.add m)) d.length (c - m)) d:=⟨_,_,rfl,by omega,by omega,hbd',by have:=hr.dropU hlt;rw[←hd,hdl] at this;exact this⟩
 rw[←hd] at HALL
 have hCl:=clone_own (ad.add m) (c - m) d w hD hd1l
 rw[←hdl] at hCl
 have HDL:=Lib.hid hdl
 clear hd hdl hD hr
 refine callsIn_of_wp_marks Tryz.func201 rfl trivial ?_ rfl
 simp only[Tryz.ntmps201,List.size_toArray,List.length_cons,List.length_nil,Nat.reduceAdd,Nat.reduceSub,Array.replicate_succ,Array.replicate_zero,List.push_toArray,List.append_toArray,List.nil_append,List.cons_append]
 gi_wp2_with fail
 refine ⟨trivial,(callsIn_wide.2 hCl).mono ?_⟩
 rintro e w1 ⟨⟨v1,rfl,hown⟩,b1⟩
 rw[HDL.out] at hown
 obtain⟨g,cg,rfl,hRow,hgB,hlc1,hcg⟩:=RowU.of_own hown hdp
 clear hown hCl
 gi_wp2_with (first | (refine ⟨trivial,?_⟩;gi_at_call 198;refine (backward_in Fence.wide _ trivial rfl _ _ _ _).mono ?_;rintro e w' ⟨rfl,rfl⟩))
 obtain⟨b0,hb0⟩:∃b0,b0=w1.heap.size:=⟨_,rfl⟩
 have hgb:g<b0:=by rw[hb0];exact hRow.lt
 have hwb:w.heap.size≤b0:=by rw[hb0];exact b1.size
 obtain⟨W0,hW0⟩:∃W0,W0=(((w1.alloc (.cells #[(.slice (some ⟨g,0,none⟩) d.length cg)] 28)).alloc (.cells #[.int .i64 s] 3)).alloc (.cells #[.int .u64 0] 141)).alloc (.cells #[(.slice (some ⟨g,0,none⟩) d.length cg)] 28):=⟨_,rfl⟩
 have hsz:W0.heap.size=b0+4:=by rw[hW0,hb0];simp
 have aR:RowU W0 g d:=by rw[hW0];exact (((hRow.alloc _).alloc _).alloc _).alloc _
 have bO:Boxed W0 b0 28 (.slice (some ⟨g,0,none⟩) d.length cg):=by rw[hW0,hb0];exact (((Boxed.new w1 _ _).alloc _).alloc _).alloc _
 have bS:Boxed W0 (b0+1) 3 (.int .i64 s):=by rw[hW0,hb0];have:=Boxed.new (w1.alloc (.cells #[(.slice (some ⟨g,0,none⟩) d.length cg)] 28)) 3 (.int .i64 s);rw[World.size_alloc] at this;exact (this.alloc _).alloc _
 have bC:Boxed W0 (b0+2) 141 (.int .u64 0):=by rw[hW0,hb0];have:=Boxed.new ((w1.alloc (.cells #[(.slice (some ⟨g,0,none⟩) d.length cg)] 28)).alloc (.cells #[.int .i64 s] 3)) 141 (.int .u64 0);simp only[World.size_alloc] at this;exact this.alloc _
 have bI:Boxed W0 (b0+3) 28 (.slice (some ⟨g,0,none⟩) d.length cg):=by rw[hW0,hb0];have:=Boxed.new (((w1.alloc (.cells #[(.slice (some ⟨g,0,none⟩) d.length cg)] 28)).alloc (.cells #[.int .i64 s] 3)).alloc (.cells #[.int .u64 0] 141)) 28 (.slice (some ⟨g,0,none⟩) d.length cg);simp only[World.size_alloc] at this;exact this
 have hB0:Below w.heap.size w W0:=by rw[hW0];exact (((b1.alloc b1.size _).alloc (by simp;have:=b1.size;omega) _).alloc (by simp;have:=b1.size;omega) _).alloc (by simp;have:=b1.size;omega) _
 rw[←hW0]
 rw[←hb0]
 clear hW0 hb0 hRow b1
 refine wpIn_rangeFunc_tells (n:=9) rfl (by omega) (gf:=234) (lb:= #[.pointer (some ⟨b0+1+1+1,0,none⟩)]) rfl trivial (enters_of Tryz.func234 (by kernel_rfl) rfl)
  (live_tells Fence.wide 8 trivial rfl (by omega) (b0+3) w.heap.size cg g d.length (by omega) W0 (by omega) bI.cell ⟨d,aR,rfl,hbd'⟩) KL.trans (KL.put (by omega) (by omega)) (fun _ x W l o o' _ hl ho h=>LivR.put hl ho h) (Below.refl _ _) (fun _=>rfl)
  (fun pre W=>(RowU W g (shrS s d (pre.map (·.1.1))).1∧Boxed W b0 28 (.slice (some ⟨g,0,none⟩) d.length cg)∧Boxed W (b0+1) 3 (.int .i64 s)∧Boxed W (b0+2) 141 (.int .u64 ((shrS s d (pre.map (·.1.1))).2:Nat)))∧(Below w.heap.size w W∧W0.heap.size≤W.heap.size))
  (fun _ _ _=>False)
  ?oI ?oX ?st ?a1 ?assign ?body ?done ?stop
 case assign=>
  intro l x W K hK
  gi_wp2
  exact hK
 case oI=>exact OwnFrom.and (Own.from (show Own (fun (q:List (Liv d.length)) (W:World)=>RowU W g (shrS s d (q.map (·.1.1))).1∧Boxed W b0 28 (.slice (some ⟨g,0,none⟩) d.length cg)∧Boxed W (b0+1) 3 (.int .i64 s)∧Boxed W (b0+2) 141 (.int .u64 ((shrS s d (q.map (·.1.1))).2:Nat))) from fun q X Y row hs hg hr=>⟨hs.1.kept hg hr,boxed_kept hs.2.1 hg hr,boxed_kept hs.2.2.1 hg hr,boxed_kept hs.2.2.2 hg hr⟩) _) (OwnFrom.and (ownFrom_below (by omega) (by omega)) (Own.from (show Own (fun (_:List (Liv d.length)) (W:World)=>W0.heap.size≤W.heap.size) from fun q X Y row hs hg hr=>Nat.le_trans hs hg.size) _))
 case oX=>exact fun _ _ _ _ _ hs _ _=>hs
 case st=>exact⟨⟨aR,bO,bS,bC⟩,hB0,Nat.le_refl _⟩
 case body=>
  rintro lr pre x W ⟨⟨hA,hO,hS,hC⟩,hBel,hWs⟩ hRd hlt2
  obtain⟨is,his⟩:∃y,y=pre.map (fun y:Liv d.length=>y.1.1):=⟨_,rfl⟩
  have hnew:(pre++[x]).map (fun y:Liv d.length=>y.1.1)=is++[x.1.1]:=by rw[List.map_append,←his];rfl
  rw[←his] at hA hC
  have HNEW:=Lib.hid hnew
  obtain⟨hlen,hbd2,z,hz,hcz⟩:=shrS_ok (s:=s) (by omega) hbd' is
  have hsn:=shrS_snoc s d is x.1.1
  unfold shrF at hsn
  obtain⟨q,hq⟩:∃y,y=shrS s d is:=⟨_,rfl⟩
  rw[←hq] at hA hC hlen hbd2 hcz hsn
  clear hq his hnew hlt2
  obtain⟨L,cc⟩:=q
  simp only at hA hC hlen hbd2 hcz hsn
  obtain⟨⟨xi,xv⟩,hxi,hxv⟩:=x
  simp only at hsn HNEW hxi hxv
  have hlv:lat L xi=xv:=by
   have e1:W.cell? ⟨g,xi,none⟩=some (.int .u64 (xv:Nat)):=hRd.1
   rw[hA.cell (by omega)] at e1
   injection e1 with e1
   injection e1 with _ e1
   omega
  rw[hlv] at hsn
  have w1:=int_div_pow xv s
  have w2:=u64_shl_mod xv (64 - s)
  obtain⟨dg1,dg2⟩:=shr_digit (s:=s) (by omega) hxv
  have dg3:=dg2 z hz
  have hcc:cc<W64:=by rw[hcz];exact Nat.lt_of_le_of_lt (Nat.le_add_left _ _) dg3
  have w3:=u64_or_nat (xv / 2^s) cc (by have:=Nat.div_le_self xv (2^s);unfold W64 at *;omega) (by unfold W64 at *;omega)
  rw[show (xv / 2^s) ||| cc=xv / 2^s+cc by rw[hcz,Nat.or_comm,or_add _ _ _ dg1,Nat.add_comm]] at w3
  obtain⟨d1,ed1⟩:∃y,y=xv / 2^s+cc:=⟨_,rfl⟩
  obtain⟨c1,ec1⟩:∃y,y=xv*2^(64 - s) % W64:=⟨_,rfl⟩
  have hd1b:d1<W64:=by rw[ed1,hcz];exact dg3
  rw[←ed1] at w3 hsn
  rw[←ec1] at w2 hsn
  obtain⟨y1,ey1⟩:∃y,y=xv / 2^s:=⟨_,rfl⟩
  rw[←ey1] at w1 w3
  have HSN:=Lib.hid hsn
  have HLEN:=Lib.hid hlen
  have hxi2:xi<L.length:=by omega
  clear hsn ed1 ec1 ey1 hcz dg1 dg2 dg3 hlv hlen z hz
  have i0:(0:Int)≤(xi:Int):=by omega
  have i1:(xi:Int)<(d.length:Int):=by omega
  have g1:((64:Int) - (s:Int)).toNat=64 - s:=by omega
  have g2:(0:Int)≤(64:Int) - (s:Int):=by omega
  have hmx:Tryz.prog.follows .mixedOrders=true:=by kernel_rfl
  gi_wp2_with fail
  refine wpInR_region_held (S:=fun w'=>w'.cell? ⟨b0,0,none⟩=some (.slice (some ⟨g,0,none⟩) d.length cg)∧w'.cell? ⟨b0+1,0,none⟩=some (.int .i64 s)∧w'.cell? ⟨b0+1+1,0,none⟩=some (.int .u64 cc)) hmx (by kernel_rfl) ?_ (fun hHeld=>?_)
  ·exact⟨hO.cell,hS.cell,hC.cell⟩
  generalize hwd:W.drew=wd at hHeld ⊢
  have bd:Below W.heap.size W wd:=by rw[←hwd];exact (Below.refl _ _).drew
  clear hwd
  refine tkA 0 rfl ?_
  refine tkA 1 rfl ?_
  refine tkA 2 rfl ?_
  refine tkA 3 rfl ?_
  refine tkA 4 rfl ?_
  refine tkA 5 rfl ?_
  refine tkA 6 rfl ?_
  refine tkA 7 rfl ?_
  try simp only[lay]
  refine wpAnyH_ready (rs:=[8]) (by kernel_rfl) (by simp) ?_
  refine AllReadyH.cons rfl (fun K hK=>?_) AllReadyH.nil
  have hA1:RowU wd g L:=hA.below bd hA.lt
  have hO1:Boxed wd b0 28 _:=boxed_low hO bd hO.lt
  have hS1:Boxed wd (b0+1) 3 _:=boxed_low hS bd hS.lt
  have hC1:Boxed wd (b0+2) 141 _:=boxed_low hC bd hC.lt
  have qc:=hA1.cell (i:=xi) (by omega)
  have qf:=hA1.frozen xi
  have hO2:=boxed_farI (i:=xi) (x:=(.int .u64 (d1:Nat))) hO1 (show b0≠g by omega)
  have hS2:=boxed_farI (i:=xi) (x:=(.int .u64 (d1:Nat))) hS1 (show b0+1≠g by omega)
  have hC2:=boxed_farI (i:=xi) (x:=(.int .u64 (d1:Nat))) hC1 (show b0+2≠g by omega)
  go_simp
  refine hK.out _ _ ?_ fun hHeld=>?_
  ·exact⟨hO2.cell,hS2.cell,hC2.cell⟩
  clear hK K qc qf
  try simp only[lay]
  refine wpAnyH_done (by kernel_rfl) ?_ _
  dsimp only[OnlyN]
  have sc:=hS2.cell
  have rc:=hC2.cell
  have rf:=hC2.frozen
  gi_wp2_with fail
  have hKO:KeepsOthers W wd:=⟨bd.size,fun k o hk ho=>(bd.block k (Array.getElem?_eq_some_iff.1 hk).1).trans hk⟩
  have hwW:=hBel.size
  refine ⟨?_,⟨?_,?_⟩,?_⟩
  ·exact (hKO.trans ((KeepsOthers.setCell _ _ _).trans (KeepsOthers.setCell _ _ _))).from _
  ·exact ((KR.of_below bd (by omega) (by omega)).setAt (by omega) (.inl (by omega)) _).set (C:=b0+2) (by omega) (.inl (by omega)) _
  ·exact fun L' h1 h2 h3=>⟨L'.set xi d1,((h1.below bd h1.lt).set xi d1).far (by omega) _,by rw[List.length_set];exact h2,h3.set _ hd1b⟩
  ·refine ⟨⟨?_,boxed_far hO2 (by omega),boxed_far hS2 (by omega),?_⟩,?_,?_⟩
   ·rw[HNEW.out,HSN.out];exact (hA1.set xi d1).far (by omega) _
   ·rw[HNEW.out,HSN.out];exact hC2.set _
   ·exact ((hBel.trans (bd.mono hwW)).setCell (p:=⟨g,xi,none⟩) hgB _).setCell (p:=⟨b0+2,0,none⟩) (by show w.heap.size≤b0+2;omega) _
   ·simp[World.setCell];exact Nat.le_trans hWs bd.size
 case done=>
  rintro D ys W hD hys ⟨⟨hA,hO,hS,hC⟩,hBel,hWs⟩ hK
  rw[hys,shrS_all] at hA
  have hbd3:=shrL_bd (s:=s) (by omega) hbd'
  have hlen3:=shrL_len s d
  have hres:=hA.isL hbd3 (c:=cg) (by omega) hcg
  rw[hlen3] at hres
  have hoc:=hO.cell
  have HRES:=Lib.hid hres
  have hKD:=Lib.hid hK
  clear hK hys hbd3 hlen3 hres hS hC
  gi_wp2_with fail
  refine ⟨trivial,(callsIn_wide.2 (dbare_any _ _ _ HRES.out)).mono ?_⟩
  rintro e w' ⟨r,rfl,hr,hfr,rfl⟩
  rw[HALL.out] at hr
  have hFr:Fresh w.heap.size r:=fun g' e=>by have:=hfr g' e;cases this;exact hgB
  clear hfr hoc
  gi_wp2
  have hK':W.heap[D]?=some (.deferred (some [])):=hKD.out
  refine ⟨by simp,.inl ⟨_,_,rfl,run_takeDeferred hK',?_⟩⟩
  refine ⟨.tuple #[r,.int .i64 0],?_,⟨r,rfl,IsL.putObj hr hK' rfl,hFr,hBel.trans (belowK_b (w:=w) (Nat.le_refl _) W D _ (.deferred none) (by omega) hK' rfl rfl)⟩⟩
  simp[results,Tryz.f201,go_sem]
 case stop=>
  rintro D c pre W _ _ h _
  exact h.elim
theorem dshr_any (va:Value) (a:Nat) (n:Nat) (hn:n≤20000) (w:World) (ha:IsN w va a) (hla:(limbs a).length≤1000000):
 Calls Tryz.prog 201 #[va,.int .i64 n] w (ShrPost a n w):=by
 rcases Nat.lt_or_ge (n / 64) (limbs a).length with h | h
 ·exact callsIn_wide.1 (dshr_in va a n hn w ha hla h)
 ·have h0:=shr_none (limbs_bd a) h
  rw[num_limbs] at h0
  obtain⟨A,c,rfl,hlc,hc,hbd,hr⟩:=ha
  obtain⟨l,hl⟩:∃l,l=limbs a:=⟨_,rfl⟩
  rw[←hl] at h hlc hla ⊢
  clear hl hbd hr
  have hd0:decide ((n:Int)<0)=false:=decide_eq_false (by omega)
  have hd1:¬(20000:Int)<(n:Int):=by omega
  have hd2:(l.length:Int)≤(n:Int) / 64:=by omega
  have H0:=Lib.hid h0
  clear h h0
  go_enter Tryz.func201,Tryz.ntmps201
  go_wp2
  go_ret2
  exact⟨_,rfl,by rw[H0.out];exact IsN.zero _,fun g e=>by simp[Value.ownBlock] at e,Below.refl _ _⟩
end Go.Proofs.YtdnjdglekifhpaaGreat
namespace Go.Proofs.YtdnjdglekifhpaaGreat
open Go.RowKit
attribute [local go_sem ↓] Go.wp_at_zero Go.wp_at_succ
theorem one_limb {b:Nat} (h:0<b) (h64:b<W64):(limbs b).length=1∧lat (limbs b) 0=b:=by
 obtain⟨h1,h2⟩:=limb1 h64
 refine ⟨?_,h2⟩
 rcases Nat.eq_zero_or_pos (limbs b).length with h3 | h3
 ·have :limbs b=[]:=List.eq_nil_of_length_eq_zero h3
  rw[this] at h2
  simp[lat] at h2;omega
 ·omega
theorem divmod1_any (va vb:Value) (a b:Nat) (hb0:0<b) (hb64:b<W64) (w:World) (ha:IsN w va a) (hb:IsN w vb b) (hla:(limbs a).length≤1000000):
 Calls Tryz.prog 148 #[va,vb] w fun e w'=>∃q r,e= .returned (.tuple #[q,r,.int .i64 0])∧IsN w' q (a / b)∧IsN w' r (a % b)∧Fresh w.heap.size q∧Below w.heap.size w w':=by
 obtain⟨l1,l2⟩:=one_limb hb0 hb64
 have hC:=fun w ha hb=>cmp_any va vb a b w ha hb
 have hS:=fun w ha=>short_any va a b hb0 hb64 w ha hla
 have hCl:=fun w h=>clone_nat va (limbs a) w h (by omega)
 have hO:=fun w=>of_any (a % b) (Nat.lt_trans (Nat.mod_lt a hb0) hb64) w
 obtain⟨r,hr⟩:∃r,r=a % b:=⟨_,rfl⟩
 rw[←hr] at hO
 simp only[←hr] at hS
 have HR:=Lib.hid hr
 clear hr
 obtain⟨A,L,ca,rfl⟩:=ha.frm
 obtain⟨B,cb,e,_,_,_,hrb⟩:=id hb
 rw[l1] at e hrb
 subst e
 obtain⟨ad,rfl,hab,hbc⟩:=us_cell hrb (show 0<1 by omega)
 rw[l2] at hbc
 replace hbc:w.cell? ad=some (.int .u64 b):=by simpa [Addr.add] using hbc
 obtain⟨V,eV,hN,bV⟩:=box1 w 3 #[.int .i64 1]
 obtain⟨g,eg⟩:∃g,g=w.heap.size:=⟨_,rfl⟩
 rw[←eg] at hN
 have EV:=Lib.hid (And.intro eV eg)
 clear eV eg
 have ha1:=ha.below bV
 have hb1:=hb.below bV
 have n0:=hN.cell 0
 by_cases hlt:a<b
 ·rw[cmpI_lt (by omega)] at hC
  go_enter Tryz.func148,Tryz.ntmps148
  go_wp2_with fail
  rw[←EV.out.1,←EV.out.2]
  refine (hC _ ha1 hb1).mono ?_
  rintro e w1 ⟨rfl,b1⟩
  have ha2:=ha1.below b1
  go_wp2_with fail
  refine (hCl _ ha2).mono ?_
  rintro e w2 ⟨v2,rfl,h2,_,b2⟩
  go_wp2
  go_ret3
  exact⟨_,_,rfl,by rw[Nat.div_eq_of_lt hlt];exact IsN.zero _,by rw[Nat.mod_eq_of_lt hlt];exact h2,fun g e=>by simp[Value.ownBlock] at e,(bV.trans (b1.mono bV.size)).trans (b2.mono (bV.trans (b1.mono bV.size)).size)⟩
 ·have hk:(0:Int)≤cmpI (a:Int) (b:Int):=by unfold cmpI;split<;>(try split)<;>omega
  generalize cmpI (a:Int) (b:Int)=k at *
  have hk1:decide (k<0)=false:=decide_eq_false (by omega)
  go_enter Tryz.func148,Tryz.ntmps148
  go_wp2_with fail
  rw[←EV.out.1,←EV.out.2]
  refine (hC _ ha1 hb1).mono ?_
  rintro e w1 ⟨rfl,b1⟩
  have ha2:=ha1.below b1
  have n1:=(hN.below b1 hN.lt).cell 0
  have b01:=bV.trans (b1.mono bV.size)
  have hc1:w1.cell? ad=some (.int .u64 b):=(b01.cell (World.block_lt_of_cell? w _ hbc)).trans hbc
  go_wp2_with fail
  refine (hS _ ha2).mono ?_
  rintro e w2 ⟨q,rfl,hq,hfq,b2⟩
  have hFq:=hfq.more b01.size
  clear hfq
  go_wp2_with fail
  refine (hO _).mono ?_
  rintro e w3 ⟨v3,rfl,h3,b3⟩
  have b02:=b01.trans (b2.mono b01.size)
  go_wp2
  go_ret3
  exact⟨_,_,rfl,hq.below b3,by rw[←HR.out];exact h3,hFq,b02.trans (b3.mono b02.size)⟩
end Go.Proofs.YtdnjdglekifhpaaGreat
namespace Go.Proofs.YtdnjdglekifhpaaGreat
open Go.RowKit Go.Shelf
attribute [local go_sem] Oper.semAt_some
def lenAt (w:World) (b:Nat):Nat:=match w.cell? ⟨b,0,none⟩ with | some (.slice _ n _)=>n | _=>0
theorem lenAt_box {w:World} {b:Nat} {t:TypeId} {A:Option Addr} {n c:Nat} (h:Boxed w b t (.slice A n c)):lenAt w b=n:=by unfold lenAt;rw[h.cell]
theorem box_behind {w w1:World} {b:Nat} {t e:TypeId} {u v:Value} {o:Obj} {base size k:Nat} {xs:List Value} (h:Boxed w b t u) (hte:t≠e) (hr:w.ownsRow base e size v k xs) (hg:(w.alloc o).grownBy w1 v.ownBlock):Boxed w1 b t u:=
 ((hg.block b (by simp;exact Nat.lt_succ_of_lt h.lt) (Boxed.not_row h hte hr)).trans (Below.heap_alloc w o b h.lt)).trans h
def DivPost (a b:Nat) (w:World) (e:Ending) (w':World):Prop:=∃q r,e= .returned (.tuple #[q,r,.int .i64 0])∧IsN w' q (a / b)∧IsN w' r (a % b)∧Fresh w.heap.size q∧Fresh w.heap.size r∧Below w.heap.size w w'
theorem divmod2_in (va vb:Value) (a b j:Nat) (hj:(limbs b).length=j+2) (hle:b≤a) (w:World) (ha:IsN w va a) (hb:IsN w vb b) (hla:(limbs a).length≤1000000):
 CallsIn Fence.wide 9 Tryz.prog 148 #[va,vb] w (DivPost a b w):=by
 have hlen:(limbs b).length≤(limbs a).length:=limbs_len_mono hle
 obtain⟨nl1,nl2,nl3,nl4⟩:=norm_len hj (by omega)
 have hC:=fun w ha hb=>cmp_any va vb a b w ha hb
 have hk:(0:Int)≤cmpI (a:Int) (b:Int):=by unfold cmpI;split<;>(try split)<;>omega
 generalize cmpI (a:Int) (b:Int)=kk at *
 have hk1:decide (kk<0)=false:=decide_eq_false (by omega)
 obtain⟨tp,etp⟩:∃tp,tp=lat (limbs b) (j+2 - 1):=⟨_,rfl⟩
 rw[←etp] at nl1 nl2 nl3 nl4
 obtain⟨s,es⟩:∃s,s=64 - bl tp:=⟨_,rfl⟩
 rw[←es] at nl1
 have hs64:s<64:=by omega
 have hLz:=fun w=>lz64_any tp nl4 w
 rw[show (64 - (bl tp:Int))=(s:Int) by omega] at hLz
 have hSb:=fun w h=>dshl_own vb b s (by omega) w h (by omega)
 have hSa:=fun w h=>dshl_own va a s (by omega) w h hla
 have hUl:=up_len (a:=a) hs64
 obtain⟨N,hN⟩:∃N,N=j+2:=⟨_,rfl⟩
 rw[←hN] at nl1 etp
 obtain⟨A,ca,rfl,hac,hca,hba,hra⟩:=id ha
 obtain⟨B,cb,rfl,hbc,hcb,hbb,hrb⟩:=id hb
 rw[hj,←hN] at hrb hbc hb hC hSb hlen ⊢
 obtain⟨la,hla1⟩:∃la,la=(limbs a).length:=⟨_,rfl⟩
 rw[←hla1] at ha hac hra hC hSa hUl hlen hla ⊢
 have h00:0<N:=by omega
 obtain⟨bd,rfl,hbdl,hbcell⟩:=us_cell hrb (k:=N - 1) (by omega)
 rw[←etp] at hbcell
 have g1:((N:Int) - 1).toNat=N - 1:=by omega
 have g0:(0:Int)≤(N:Int) - 1:=by omega
 have g2:(N:Int) - 1<(N:Int):=by omega
 have gn:((N:Int) == 0)=false:=by rw[nat_eq0];exact decide_eq_false (by omega)
 have gn1:((N:Int) == 1)=false:=by rw[beq_eq_false_iff_ne];omega
 have gn2:¬N=0:=by omega
 have gn3:¬N=1:=by omega
 have HH:=Lib.hid (And.intro hj (And.intro hle (And.intro hla1 (And.intro hN (And.intro nl1 (And.intro hUl (And.intro es etp)))))))
 clear hj hle hla1 hN nl1 nl2 nl3 nl4 es etp hk hra hba hbb hrb hac hbc hUl
 refine callsIn_of_wp_marks Tryz.func148 rfl trivial ?_ rfl
 simp only[Tryz.ntmps148,List.size_toArray,List.length_cons,List.length_nil,Nat.reduceAdd,Nat.reduceSub,Array.replicate_succ,Array.replicate_zero,List.push_toArray,List.append_toArray,List.nil_append,List.cons_append]
 obtain⟨V0,eV0,bV0⟩:∃V0,V0=w.alloc (.cells #[.int .i64 N] 3)∧Below w.heap.size w V0:=⟨_,rfl,(Below.refl _ w).alloc (Nat.le_refl _) _⟩
 have bxN:Boxed V0 w.heap.size 3 (.int .i64 N):=by rw[eV0];exact Boxed.new w _ _
 have hsz0:V0.heap.size=w.heap.size+1:=by rw[eV0];simp
 have EV0:=Lib.hid eV0
 clear eV0
 have ncell:=bxN.cell
 have ha0:=ha.below bV0
 have hb0:=hb.below bV0
 gi_wp2_with fail
 rw[←EV0.out]
 refine ⟨trivial,(callsIn_wide.2 (hC _ ha0 hb0)).mono ?_⟩
 rintro e w1 ⟨rfl,b1⟩
 have b01:=bV0.trans (b1.mono bV0.size)
 have bxN1:=boxed_low bxN b1 bxN.lt
 have ha1:=ha0.below b1
 have hb1:=hb0.below b1
 have hbc1:=(b01.cell (p:=bd.add (N - 1)) (by rw[block_of_add];exact hbdl)).trans hbcell
 clear ncell hC EV0 bxN hbcell ha0 hb0
 have ncell:=bxN1.cell
 gi_wp2_with fail
 refine ⟨trivial,(callsIn_wide.2 (hLz _)).mono ?_⟩
 rintro e w1' ⟨rfl,rfl⟩
 gi_wp2_with fail
 refine ⟨trivial,(callsIn_wide.2 (hSb _ hb1)).mono ?_⟩
 rintro e w2 ⟨v2,rfl,ho2,b2⟩
 have hlv:(limbs (b*2^s)).length=N:=HH.out.2.2.2.2.1
 obtain⟨gv,cv,rfl,rv,hgv,hcv1,hcv2⟩:=RowU.of_own ho2 (by omega)
 rw[hlv] at hcv1 ⊢
 clear ho2 hbc1 hb1 ncell
 have HLV:=Lib.hid hlv
 clear hlv
 obtain⟨lv,elv⟩:∃lv,lv=limbs (b*2^s):=⟨_,rfl⟩
 rw[←elv] at rv HLV
 have HELV:=Lib.hid elv
 clear elv
 have b02:=b01.trans (b2.mono b01.size)
 have bxN2:=boxed_low bxN1 b2 bxN1.lt
 have ha2:=ha1.below b2
 obtain⟨bv,ebv⟩:∃x,x=w2.heap.size:=⟨_,rfl⟩
 obtain⟨V2,eV2,bV2⟩:∃V2,V2=w2.alloc (.cells #[.slice (some ⟨gv,0,none⟩) N cv] 28)∧Below w2.heap.size w2 V2:=⟨_,rfl,(Below.refl _ _).alloc (Nat.le_refl _) _⟩
 have bxV:Boxed V2 bv 28 (.slice (some ⟨gv,0,none⟩) N cv):=by rw[eV2,ebv];exact Boxed.new w2 _ _
 have hsz2:V2.heap.size=bv+1:=by rw[eV2,ebv];simp
 have bxN3:=boxed_low bxN2 bV2 bxN2.lt
 have ha3:=ha2.below bV2
 have rv3:=rv.below bV2 rv.lt
 have b03:=b02.trans (bV2.mono b02.size)
 have hgvl:gv<bv:=by rw[ebv];exact rv.lt
 have hbw:w.heap.size+1≤gv:=by have:=b1.size;omega
 have EV2:=Lib.hid (And.intro eV2 ebv)
 clear eV2 ebv bxN2 ha2 rv bxN1 ha1 hSb hLz
 gi_wp2_with fail
 rw[←EV2.out.1,←EV2.out.2]
 refine ⟨trivial,(callsIn_wide.2 (hSa _ ha3)).mono ?_⟩
 rintro e w3 ⟨v3,rfl,ho3,b3⟩
 obtain⟨A3,c3,ev3,_,_,_⟩:=own_form ho3
 obtain⟨U3,eU3⟩:∃x,x=(limbs (a*2^s)).length:=⟨_,rfl⟩
 rw[←eU3] at ev3 ho3
 have EU3:=Lib.hid eU3
 clear eU3
 subst ev3
 have bxN4:=boxed_low bxN3 b3 bxN3.lt
 have bxV4:=boxed_low bxV b3 bxV.lt
 have rv4:=rv3.below b3 rv3.lt
 have b04:=b03.trans (b3.mono b03.size)
 obtain⟨bu,ebu⟩:∃x,x=w3.heap.size:=⟨_,rfl⟩
 obtain⟨V3,eV3,bV3⟩:∃V3,V3=w3.alloc (.cells #[.slice A3 U3 c3] 28)∧Below w3.heap.size w3 V3:=⟨_,rfl,(Below.refl _ _).alloc (Nat.le_refl _) _⟩
 have bxU:Boxed V3 bu 28 (.slice A3 U3 c3):=by rw[eV3,ebu];exact Boxed.new w3 _ _
 have hsz3:V3.heap.size=bu+1:=by rw[eV3,ebu];simp
 have hbu:V2.heap.size≤bu:=by rw[ebu];exact b3.size
 have ho4:V3.ownsRow V2.heap.size 141 1 (.slice A3 U3 c3) U3 (us (limbs (a*2^s))):=by rw[eV3];exact ho3.alloc _
 have bxN5:=boxed_low bxN4 bV3 bxN4.lt
 have bxV5:=boxed_low bxV4 bV3 bxV4.lt
 have rv5:=rv4.below bV3 rv4.lt
 have b05:=b04.trans (bV3.mono b04.size)
 have EV3:=Lib.hid (And.intro eV3 ebu)
 obtain⟨LU,eLU⟩:∃x,x=limbs (a*2^s):=⟨_,rfl⟩
 have hlu:LU.length≤la+1:=by rw[eLU];exact HH.out.2.2.2.2.2.1
 rw[EU3.out,←eLU] at ho4
 have ELU:=Lib.hid eLU
 clear eV3 ebu ho3 bxN4 bxV4 rv4 bxN3 bxV rv3 ha3 hSa eLU ha hb
 obtain⟨i0,hi,hz0,hz1,hz2⟩:=info_parts info_u64
 gi_wp2_with fail
 rw[←EV3.out.1,←EV3.out.2]
 gi_loopw [] (fun wr=>∃(i:Nat) (v:Value),LU.length+i≤la+1∧Boxed wr bu 28 v∧wr.ownsRow V2.heap.size 141 1 v (LU++zeros i).length (us (LU++zeros i))∧Below V2.heap.size V3 wr∧V3.heap.size≤wr.heap.size) (fun wr=>la+1 - lenAt wr bu)
 case atStart=>exact⟨0,_,hlu,bxU,by rw[EU3.out,←ELU.out];simpa [zeros] using ho4,Below.refl _ _,Nat.le_refl _⟩
 case round=>
  obtain⟨i,v,hi1,hbx,hrow,hbl,hws⟩:=hrel
  have hln:(LU++zeros i).length=LU.length+i:=by rw[List.length_append,zeros_len]
  have hz1':LU++zeros (i+1)=(LU++zeros i)++[0]:=by unfold zeros;rw[List.replicate_succ',List.append_assoc]
  obtain⟨ls,els⟩:∃ls,ls=LU++zeros i:=⟨_,rfl⟩
  rw[←els] at hrow hln hz1'
  obtain⟨K,eK⟩:∃K,K=ls.length:=⟨_,rfl⟩
  rw[←eK] at hrow hln
  obtain⟨A9,c9,ev9,hc9,hc9',_⟩:=own_form hrow
  subst ev9
  have HLN:=Lib.hid (And.intro hln (And.intro hz1' (And.intro els eK)))
  have hKl:K≤la+1:=by omega
  clear hln hz1' els eK hi1
  have hbc:=hbx.cell
  by_cases hlt:K≤la
  ·gi_wp2_with (gi_at_builtin;go_must (refine wpListIn_append_own _ rfl _ _ 28 rfl V2.heap.size 141 i0 (.int .u64 0) 1 8 Tryz.underlying28 hi hz0 hz1 hz2 rfl (by decide) _ _ _ rfl (hrow.alloc _) ⟨wr.heap.size,0,none⟩ 1 1 [.int .u64 0] rfl rfl (cell_one_new _ _ _) (by simp[Value.oneCell']) (by unfold maxLen;omega) (by omega) (by simp;omega) ?_;intro v' w9 hown' hgrow _;obtain⟨g',cap',rfl⟩:=ownsRow_succ hown';have hbx1:=box_behind hbx (by decide) hrow hgrow;have hbc1:=hbx1.cell;have hbf1:=hbx1.frozen))
   have hbl9:=(below_appended hrow (by omega) hgrow).1
   obtain⟨q1,q2,q3,q4⟩:=HLN.out
   refine ⟨⟨i+1,_,by omega,hbx1.set _,?_,(hbl.trans hbl9).setCell (p:=⟨bu,0,none⟩) hbu _,?_⟩,?_⟩
   ·rw[q2,us_snoc,List.length_append,List.length_singleton,←q4]
    exact ownsRow_setCell_other hown' (Ne.symm (Boxed.not_row hbx1 (by decide) hown')) _
   ·simp[World.setCell];exact Nat.le_trans hws hbl9.size
   ·rw[lenAt_box (hbx1.set _),lenAt_box hbx];omega
  ·obtain rfl:K=la+1:=by omega
   obtain⟨q1,q2,q3,q4⟩:=HLN.out
   have hrow':=hrow
   rw[q4] at hrow'
   obtain⟨gu,cu,ev8,ru,hgu,hcu1,hcu2⟩:=RowU.of_own hrow' (by omega)
   rw[←q4] at ev8 hcu1
   obtain⟨rfl,_,rfl⟩:=Value.slice.inj ev8
   have hgub:gu≠bu:=fun e=>Boxed.not_row hbx (by decide) hrow (by rw[e];rfl)
   have hul:ls.length=la+1:=q4.symm
   have hun:num ls=a*2^s:=by rw[q3,num_app_zeros,ELU.out,num_limbs]
   have hub:Bd ls:=by rw[q3,ELU.out];exact (limbs_bd _).app (Bd.zeros _)
   have HU:=Lib.hid (And.intro hul (And.intro hun hub))
   have hgul:=ru.lt
   clear q1 q2 q3 q4 hrow hrow' HLN ev8 hul hun hub hlt hKl
   obtain⟨m,hm⟩:∃m,m=la - N+1:=⟨_,rfl⟩
   have hm2:m≤1000000:=by omega
   have hmN:m+N=la+1:=by omega
   have hmk:=run_make_u64 28 Tryz.underlying28 m ((la:Int) - (N:Int)+1) (by omega) (by omega)
   have bxN6:=boxed_low bxN5 hbl (by omega)
   have bxV6:=boxed_low bxV5 hbl (by omega)
   have rv6:=rv5.below hbl (by omega)
   have b06:=b05.trans (hbl.mono (by omega))
   have nc:=bxN6.cell
   clear bxN5 bxV5 rv5 hm
   gi_wp2_with (first | (refine ⟨trivial,?_⟩;gi_at_call 198;refine (backward_in Fence.wide _ trivial rfl _ _ _ _).mono ?_;rintro e w' ⟨rfl,rfl⟩))
   obtain⟨gq,egq⟩:∃x,x=wr.heap.size:=⟨_,rfl⟩
   obtain⟨bn,ebn⟩:∃x,x=w.heap.size:=⟨_,rfl⟩
   obtain⟨W0,hW0⟩:∃W0,W0=((wr.alloc (.cells (us (zeros m)).toArray 141)).alloc (.cells #[(.slice (some ⟨gq,0,none⟩) m m)] 28)).alloc (.cells #[(.slice (some ⟨gq,0,none⟩) m m)] 28):=⟨_,rfl⟩
   have hsz:W0.heap.size=gq+3:=by rw[hW0,egq];simp
   have aQ:RowU W0 gq (zeros m):=by rw[hW0,egq];exact (((Arr.new wr (zeros m)).alloc _).alloc _).rowU
   have aU:RowU W0 gu ls:=by rw[hW0];exact ((ru.alloc _).alloc _).alloc _
   have aV:RowU W0 gv lv:=by rw[hW0];exact ((rv6.alloc _).alloc _).alloc _
   have bxQ:Boxed W0 (gq+1) 28 (.slice (some ⟨gq,0,none⟩) m m):=by rw[hW0,egq];have:=Boxed.new (wr.alloc (.cells (us (zeros m)).toArray 141)) 28 (.slice (some ⟨wr.heap.size,0,none⟩) m m);simp only[World.size_alloc] at this;exact this.alloc _
   have bxI:Boxed W0 (gq+2) 28 (.slice (some ⟨gq,0,none⟩) m m):=by rw[hW0,egq];have:=Boxed.new ((wr.alloc (.cells (us (zeros m)).toArray 141)).alloc (.cells #[.slice (some ⟨wr.heap.size,0,none⟩) m m] 28)) 28 (.slice (some ⟨wr.heap.size,0,none⟩) m m);simp only[World.size_alloc] at this;exact this
   have bxN7:Boxed W0 bn 3 (.int .i64 N):=by rw[hW0,ebn];exact ((bxN6.alloc _).alloc _).alloc _
   have bxV7:Boxed W0 bv 28 (.slice (some ⟨gv,0,none⟩) N cv):=by rw[hW0];exact ((bxV6.alloc _).alloc _).alloc _
   have bxU7:Boxed W0 bu 28 (.slice (some ⟨gu,0,none⟩) (la+1) c9):=by rw[hW0];exact ((hbx.alloc _).alloc _).alloc _
   have hB0:Below w.heap.size w W0:=by rw[hW0];exact ((b06.alloc b06.size _).alloc (by simp;have:=b06.size;omega) _).alloc (by simp;have:=b06.size;omega) _
   have EW0:=Lib.hid (And.intro hW0 (And.intro egq ebn))
   have hbnv:bn+1≤gv:=by omega
   have hbuq:bu<gq:=by rw[egq];exact hbx.lt
   have hguq:gu<gq:=by rw[egq];exact hgul
   have hwq:w.heap.size≤bn:=by omega
   have hvu:bv<gu:=by omega
   have hvu2:bv<bu:=by omega
   have hdiv0:DivAt (a*2^s) lv m m (zeros m) ls:=by
    obtain⟨u1,u2,u3⟩:=HU.out
    refine DivAt.start (by rw[u1,HLV.out];omega) u3 u2 ?_
    rw[HELV.out,num_limbs]
    exact up_below HH.out.1 (by omega) (by rw[←HH.out.2.2.1];have:=HH.out.2.2.2.1;omega)
   rw[←egq,←ebn]
   rw[←hW0]
   clear hW0 egq ebn bxN6 bxV6 rv6 hbx ru hbc nc hmk hbl hws
   refine wpIn_rangeFunc_tells (n:=9) rfl (by omega) (gf:=234) (lb:= #[.pointer (some ⟨gq+1+1,0,none⟩)]) rfl trivial (enters_of Tryz.func234 (by kernel_rfl) rfl)
    (live_tells Fence.wide 8 trivial rfl (by omega) (gq+2) w.heap.size m gq m (by omega) W0 (by omega) bxI.cell ⟨zeros m,aQ,zeros_len m,Bd.zeros m⟩) KL.trans (KL.put (by omega) (by omega)) (fun _ x W l o o' _ hl ho h=>LivR.put hl ho h) (Below.refl _ _) (fun _=>rfl)
    (fun pre W=>((∃Q L,RowU W gq Q∧RowU W gu L∧DivAt (a*2^s) lv m (m - pre.length) Q L)∧(Boxed W bn 3 (.int .i64 N)∧Boxed W bv 28 (.slice (some ⟨gv,0,none⟩) N cv)∧Boxed W bu 28 (.slice (some ⟨gu,0,none⟩) (la+1) c9)∧Boxed W (gq+1) 28 (.slice (some ⟨gq,0,none⟩) m m)∧RowU W gv lv))∧(Below w.heap.size w W∧W0.heap.size≤W.heap.size))
    (fun _ _ _=>False)
    ?oI ?oX ?st ?a1 ?assign ?body ?done ?stop
   case assign=>
    intro l x W K hK
    gi_wp2
    exact hK
   case oI=>exact OwnFrom.and (Own.from (show Own (fun (q:List (Liv m)) (W:World)=>((∃Q L,RowU W gq Q∧RowU W gu L∧DivAt (a*2^s) lv m (m - q.length) Q L)∧(Boxed W bn 3 (.int .i64 N)∧Boxed W bv 28 (.slice (some ⟨gv,0,none⟩) N cv)∧Boxed W bu 28 (.slice (some ⟨gu,0,none⟩) (la+1) c9)∧Boxed W (gq+1) 28 (.slice (some ⟨gq,0,none⟩) m m)∧RowU W gv lv))) from fun q X Y row hs hg hr=>by
    obtain⟨⟨Q,L,h1,h2,h3⟩,h4,h5,h6,h7,h8⟩:=hs
    exact⟨⟨Q,L,h1.kept hg hr,h2.kept hg hr,h3⟩,boxed_kept h4 hg hr,boxed_kept h5 hg hr,boxed_kept h6 hg hr,boxed_kept h7 hg hr,h8.kept hg hr⟩) _) (OwnFrom.and (ownFrom_below (by omega) (by omega)) (Own.from (show Own (fun (_:List (Liv m)) (W:World)=>W0.heap.size≤W.heap.size) from fun q X Y row hs hg hr=>Nat.le_trans hs hg.size) _))
   case oX=>exact fun _ _ _ _ _ hs _ _=>hs
   case st=>exact⟨⟨⟨_,_,aQ,aU,hdiv0⟩,bxN7,bxV7,bxU7,bxQ,aV⟩,hB0,Nat.le_refl _⟩
   case body=>
    clear aQ aU aV bxQ bxI bxN7 bxV7 bxU7 hdiv0
    rintro lr pre x W ⟨⟨⟨Q,L,hQ,hL,hD⟩,hxN,hxV,hxU,hxQ,hV⟩,hBel,hWs⟩ hRd hlt2
    obtain⟨⟨k,xv⟩,hk,hxv⟩:=x
    obtain⟨_,hkp,_⟩:=hRd
    simp only at hk hkp
    rw[show m - pre.length=k+1 by omega] at hD
    have hkN:k+N≤la:=by omega
    have hd:=hD
    obtain⟨d1,d2,d3,d4,_⟩:=hd
    rw[HLV.out] at d3
    have hkl:k+N+1≤L.length:=by omega
    obtain⟨N1,eN1⟩:∃y,y=N - 1:=⟨_,rfl⟩
    obtain⟨N2,eN2⟩:∃y,y=N - 2:=⟨_,rfl⟩
    have hN2:2≤N:=by have:=HH.out.2.2.2.1;omega
    have cu2:=hL.cell (i:=k+N) (by omega)
    have cu1:=hL.cell (i:=k+N1) (by omega)
    have cu0:=hL.cell (i:=k+N2) (by omega)
    have cv1:=hV.cell (i:=N1) (by rw[HLV.out];omega)
    have cv0:=hV.cell (i:=N2) (by rw[HLV.out];omega)
    have p0:(0:Int)≤(k:Int):=by omega
    have p1:(k:Int)≤(k:Int)+(N:Int)+1:=by omega
    have p2:(k:Int)+(N:Int)+1≤(c9:Int):=by omega
    have p3:((k:Int)+(N:Int)+1).toNat=k+N+1:=by omega
    have hadd:Addr.add ⟨gu,0,none⟩ k=⟨gu,k,none⟩:=by unfold Addr.add;split<;>simp_all
    have uc:=hxU.cell
    have nc:=hxN.cell
    have hmx:Tryz.prog.follows .mixedOrders=true:=by kernel_rfl
    obtain⟨wn1,wn2⟩:=hD.win hk (by rw[HELV.out];exact limbs_bd _)
    have bV:Bd lv:=by rw[HELV.out];exact limbs_bd _
    have hlw:((L.drop k).take (lv.length+1)).length=N+1:=by rw[List.length_take,List.length_drop,HLV.out];omega
    obtain⟨jj,ejj⟩:∃jj,N=jj+2:=⟨N - 2,by omega⟩
    have bW:Bd ((L.drop k).take (lv.length+1)):=fun x hx=>d4 x (List.mem_of_mem_drop (List.mem_of_mem_take hx))
    have hv1p:0<lat lv N1:=by
     have:=limbs_rt (b*2^s)
     rw[←HELV.out] at this
     rcases this with h | h
     ·rw[h] at HLV;have:=HLV.out;simp at this;omega
     ·rw[HLV.out,←eN1] at h;omega
    have x2:lat ((L.drop k).take (lv.length+1)) (jj+2)=lat L (k+N):=by rw[lat_win (by rw[HLV.out];omega),ejj]
    have x1:lat ((L.drop k).take (lv.length+1)) (jj+1)=lat L (k+N1):=by rw[lat_win (by rw[HLV.out];omega)];congr 1;omega
    have x0:lat ((L.drop k).take (lv.length+1)) jj=lat L (k+N2):=by rw[lat_win (by rw[HLV.out];omega)];congr 1;omega
    have y1:lat lv (jj+1)=lat lv N1:=by congr 1;omega
    have y0:lat lv jj=lat lv N2:=by congr 1;omega
    have htop:=win_top (j:=jj) (by rw[hlw];omega) (by rw[HLV.out];omega) bV wn2
    rw[x2,y1] at htop
    have hGL:=fun q=>guess_lists (k:=jj) (q:=q) (by rw[hlw];omega) (by rw[HLV.out];omega) bW bV (by rw[y1];exact hv1p) wn2
    rw[x2,x1,x0,y1,y0] at hGL
    have hG:=fun Wx=>guess_any (lat L (k+N)) (lat L (k+N1)) (lat L (k+N2)) (lat lv N1) (lat lv N2) htop (d4.lat _) (d4.lat _) (bV.lat _) (bV.lat _) hv1p Wx
    have hVp:0<num lv:=by have:=Nat.zero_le (num (L.drop (k+1)));have:=hD.2.2.2.2.1;omega
    obtain⟨fg,efg⟩:∃y,y=num ((L.drop k).take (lv.length+1)) / num lv:=⟨_,rfl⟩
    have hst:∀L',TakenTo L lv k (num ((L.drop k).take (lv.length+1)) % num lv) L'→DivAt (a*2^s) lv m k (Q.set k fg) L':=fun L' h=>by rw[efg];exact hD.step hk bV h
    have hTk:=fun (q:Nat) (Wx:World) (h1:RowU Wx gu L) (h2:IsL Wx (.slice (some ⟨gv,0,none⟩) N cv) lv) (h3:q<W64) (h4:num ((L.drop k).take (lv.length+1)) / num lv≤q∧q≤num ((L.drop k).take (lv.length+1)) / num lv+1)=>
     taken_any gu k (c9 - k) L lv (.slice (some ⟨gv,0,none⟩) N cv) q Wx h1 (by rw[HLV.out];omega) (by rw[HLV.out];omega) (by omega) d4 h2 (by simp[Value.ownBlock];omega) h3 hVp h4.1 h4.2
    rw[HLV.out] at hTk
    have hGT:∀q,GuessOk (lat L (k+N)*W64+lat L (k+N1)) (lat L (k+N2)) (lat lv N1) (lat lv N2) q→q<W64∧(num ((L.drop k).take (N+1)) / num lv≤q∧q≤num ((L.drop k).take (N+1)) / num lv+1):=fun q h=>by
     rw[←HLV.out];exact⟨h.1,hGL q h.1 h.2.1 h.2.2⟩
    have ww1:IntKind.i64.wrap ((N:Int) - 1)=(N1:Int):=by rw[IntKind.wrap_i64];omega
    have ww2:IntKind.i64.wrap ((N:Int) - 2)=(N2:Int):=by rw[IntKind.wrap_i64];omega
    have z1:(N1:Int)<(N:Int):=by omega
    have z2:(N2:Int)<(N:Int):=by omega
    have z3:(N1:Int)<(N:Int)+1:=by omega
    have z4:(N2:Int)<(N:Int)+1:=by omega
    have z5:(0:Int)≤(N1:Int):=by omega
    have z6:(0:Int)≤(N2:Int):=by omega
    have z7:(N:Int)<(N:Int)+1:=by omega
    have z8:(0:Int)≤(N:Int):=by omega
    have z9:(k:Int)<(m:Int):=by omega
    have hfg:fg<W64:=by rw[efg,Nat.div_lt_iff_lt_mul hVp,Nat.mul_comm];exact wn2
    rw[HLV.out] at hst
    rw[HLV.out] at efg
    have HG:=Lib.hid (And.intro hG (And.intro hGT (And.intro hst hfg)))
    have HT:=Lib.hid (fun (q:Nat) (Wx:World) (h1:RowU Wx gu L) (h2:IsL Wx (.slice (some ⟨gv,0,none⟩) N cv) lv) (h3:q<W64) (h4:num ((L.drop k).take (N+1)) / num lv≤q∧q≤num ((L.drop k).take (N+1)) / num lv+1)=>
     (hTk q Wx h1 h2 h3 h4).mono (R':=fun e w'=>∃L',e= .returned (.int .u64 (fg:Nat))∧RowU w' gu L'∧OnlyIn gu Wx w'∧TakenTo L lv k (num ((L.drop k).take (N+1)) % num lv) L') (fun e w' ⟨L',h1,h2,h3,h4⟩=>⟨L',by rw[h1,efg,HLV.out],h2,h3,by rw[←HLV.out];exact h4⟩))
    clear hfg
    clear hTk efg
    clear x2 x1 x0 y1 y0 htop hGL hG hGT hst wn1 wn2 hlw ejj bW hv1p hVp hD
    have HKM:=Lib.hid (And.intro hk d1)
    obtain⟨u2,eu2⟩:∃y,y=lat L (k+N):=⟨_,rfl⟩
    obtain⟨u1,eu1⟩:∃y,y=lat L (k+N1):=⟨_,rfl⟩
    obtain⟨u0,eu0⟩:∃y,y=lat L (k+N2):=⟨_,rfl⟩
    obtain⟨t1,et1⟩:∃y,y=lat lv N1:=⟨_,rfl⟩
    obtain⟨t0,et0⟩:∃y,y=lat lv N2:=⟨_,rfl⟩
    rw[←eu2,←eu1,←eu0,←et1,←et0] at HG
    rw[←eu2] at cu2
    rw[←eu1] at cu1
    rw[←eu0] at cu0
    rw[←et1] at cv1
    rw[←et0] at cv0
    clear eu2 eu1 eu0 et1 et0 d1 d2 d3 g1 g0 g2 gn gn1 gn2 gn3
    have HX:=Lib.hid (And.intro eN1 eN2)
    have HKP:=Lib.hid hkp
    clear eN1 eN2 hkp
    have ENDS:∀(wg wt:World) (L':List Nat) (X:World),X=wt.setCell ⟨gq,k,none⟩ (.int .u64 (fg:Nat))→Below W.heap.size W wg→RowU wt gu L'→OnlyIn gu wg wt→RowU wt gq Q→DivAt (a*2^s) lv m k (Q.set k fg) L'→
     KeepsFrom W0.heap.size W X∧KL w.heap.size (gq+2) (gq+2+1) gq m W X∧((∃Q L,RowU X gq Q∧RowU X gu L∧DivAt (a*2^s) lv m (m - (pre++[(⟨(k,xv),hk,hxv⟩:Liv m)]).length) Q L)∧(Boxed X bn 3 (.int .i64 N)∧Boxed X bv 28 (.slice (some ⟨gv,0,none⟩) N cv)∧Boxed X bu 28 (.slice (some ⟨gu,0,none⟩) (la+1) c9)∧Boxed X (gq+1) 28 (.slice (some ⟨gq,0,none⟩) m m)∧RowU X gv lv))∧(Below w.heap.size w X∧W0.heap.size≤X.heap.size):=by
     rintro wg wt L' X rfl dg hL' hO hQt hst
     have hX:∀g',g'<W.heap.size→g'≠gu→g'≠gq→(wt.setCell ⟨gq,k,none⟩ (.int .u64 (fg:Nat))).heap[g']?=W.heap[g']?:=fun g' h1 h2 h3=>(Below.heap_setCell _ ⟨gq,k,none⟩ _ g' h3).trans ((hO.2.1 g' h2).trans (dg.block g' h1))
     have hsz9:W.heap.size≤(wt.setCell ⟨gq,k,none⟩ (.int .u64 (fg:Nat))).heap.size:=by simp[World.setCell];rw[hO.2.2];exact dg.size
     have hLow:Below w.heap.size W (wt.setCell ⟨gq,k,none⟩ (.int .u64 (fg:Nat))):=((dg.mono hBel.size).trans (hO.1.mono (by omega))).setCell (p:=⟨gq,k,none⟩) (by show w.heap.size≤gq;omega) _
     have hfg:fg<W64:=HG.out.2.2.2
     have hKO:KeepsOthers W (wt.setCell ⟨gq,k,none⟩ (.int .u64 (fg:Nat))):=⟨hsz9,fun i o hi ho=>by
      have hil:=(Array.getElem?_eq_some_iff.1 hi).1
      refine (hX i hil (fun e=>?_) (fun e=>?_)).trans hi
      ·obtain⟨o',h1,h2⟩:=hL.isCells
       rw[e,h1] at hi;cases hi;rw[h2] at ho;cases ho
      ·obtain⟨o',h1,h2⟩:=hQ.isCells
       rw[e,h1] at hi;cases hi;rw[h2] at ho;cases ho⟩
     refine ⟨hKO.from _,⟨⟨hLow,fun i h1 h2=>?_⟩,fun L0 h1 h2 h3=>?_⟩,⟨⟨Q.set k fg,L',hQt.set k fg,hL'.far (by omega) _,?_⟩,(hX bn hxN.lt (by omega) (by omega)).trans hxN,(hX bv hxV.lt (by omega) (by omega)).trans hxV,(hX bu hxU.lt (by omega) (by omega)).trans hxU,(hX (gq+1) hxQ.lt (by omega) (by omega)).trans hxQ,hV.of_heap (hX gv hV.lt (by omega) (by omega))⟩,hBel.trans hLow,Nat.le_trans hWs hsz9⟩
     ·exact hX i (by have:=hWs;omega) (by omega) (by omega)
     ·exact⟨L0.set k fg,((h1.below dg h1.lt).of_heap (hO.2.1 gq (by omega))).set k fg,by rw[List.length_set];exact h2,h3.set _ hfg⟩
     ·rw[List.length_append,List.length_singleton,show m - (pre.length+1)=k by have:=HKP.out;omega];exact hst
    have HENDS:=Lib.hid ENDS
    clear ENDS
    gi_wp2_with fail
    rw[show k+N+1 - k=N+1 by omega]
    clear uc nc hadd p0 p1 p2 p3
    refine wpInR_region_held (S:=fun w'=>w'.cell? ⟨gq+1,0,none⟩=some (.slice (some ⟨gq,0,none⟩) m m)∧w'.cell? ⟨bv,0,none⟩=some (.slice (some ⟨gv,0,none⟩) N cv)∧w'.cell? ⟨bn,0,none⟩=some (.int .i64 N)∧w'.cell? ⟨gv,N1,none⟩=some (.int .u64 t1)∧w'.cell? ⟨gv,N2,none⟩=some (.int .u64 t0)) hmx (by kernel_rfl) ?_ (fun hHeld=>?_)
    ·exact⟨hxQ.cell,hxV.cell,hxN.cell,cv1,cv0⟩
    generalize hwd:W.drew=wd at hHeld ⊢
    have bd9:Below W.heap.size W wd:=by rw[←hwd];exact (Below.refl _ _).drew
    have du2:wd.cell? ⟨gu,k+N,none⟩=some (.int .u64 u2):=by rw[←hwd];exact cu2
    have du1:wd.cell? ⟨gu,k+N1,none⟩=some (.int .u64 u1):=by rw[←hwd];exact cu1
    have du0:wd.cell? ⟨gu,k+N2,none⟩=some (.int .u64 u0):=by rw[←hwd];exact cu0
    have HSX:=Lib.hid (fun (X:World) (hX:∀g',g'<W.heap.size→g'≠gu→g'≠gq→X.heap[g']?=W.heap[g']?)=>(show X.cell? ⟨gq+1,0,none⟩=some (.slice (some ⟨gq,0,none⟩) m m)∧X.cell? ⟨bv,0,none⟩=some (.slice (some ⟨gv,0,none⟩) N cv)∧X.cell? ⟨bn,0,none⟩=some (.int .i64 N)∧X.cell? ⟨gv,N1,none⟩=some (.int .u64 t1)∧X.cell? ⟨gv,N2,none⟩=some (.int .u64 t0) from
     ⟨Boxed.cell ((hX (gq+1) hxQ.lt (by omega) (by omega)).trans hxQ),Boxed.cell ((hX bv hxV.lt (by omega) (by omega)).trans hxV),Boxed.cell ((hX bn hxN.lt (by omega) (by omega)).trans hxN),(World.cell?_of_block (hX gv hV.lt (by omega) (by omega))).trans cv1,(World.cell?_of_block (hX gv hV.lt (by omega) (by omega))).trans cv0⟩))
    clear hwd cu2 cu1 cu0 cv1 cv0
    refine tkA 0 rfl ?_
    refine tkA 1 rfl ?_
    refine tkA 2 rfl ?_
    refine tkA 3 rfl ?_
    refine tkA 4 rfl ?_
    refine tkA 5 rfl ?_
    refine tkA 6 rfl ?_
    refine tkA 8 rfl ?_
    refine tkA 9 rfl ?_
    refine tkA 10 rfl ?_
    refine tkA 11 rfl ?_
    refine tkA 13 rfl ?_
    refine tkA 14 rfl ?_
    refine tkA 15 rfl ?_
    refine tkA 16 rfl ?_
    refine tkA 18 rfl ?_
    refine tkA 19 rfl ?_
    refine tkA 20 rfl ?_
    refine tkA 21 rfl ?_
    refine tkA 22 rfl ?_
    refine tkA 23 rfl ?_
    refine tkA 24 rfl ?_
    refine tkA 25 rfl ?_
    refine tkA 26 rfl ?_
    refine tkA 27 rfl ?_
    try simp only[lay]
    refine wpAnyH_ready (rs:=[7,12,17]) (by kernel_rfl) (by simp) (AllReadyH.cons rfl (fun K hK=>?_) (AllReadyH.cons rfl (fun K hK=>?_) (AllReadyH.cons rfl (fun K hK=>?_) (AllReadyH.nil))))
    ·go_simp
     refine hK.out _ _ ?_ fun hHeld=>?_
     ·exact hHeld
     clear hK K
     try simp only[lay]
     refine wpAnyH_ready (rs:=[12,17]) (by kernel_rfl) (by simp) (AllReadyH.cons rfl (fun K hK=>?_) (AllReadyH.cons rfl (fun K hK=>?_) (AllReadyH.nil)))
     ·go_simp
      refine hK.out _ _ ?_ fun hHeld=>?_
      ·exact hHeld
      clear hK K
      try simp only[lay]
      refine wpAnyH_ready (rs:=[17]) (by kernel_rfl) (by simp) (AllReadyH.cons rfl (fun K hK=>?_) (AllReadyH.nil))
      ·go_simp
       refine hK.out _ _ ?_ fun hHeld=>?_
       ·exact hHeld
       clear hK K
       try simp only[lay]
       refine wpAnyH_ready (rs:=[28]) (by kernel_rfl) (by simp) (AllReadyH.cons rfl (fun K hK=>?_) (AllReadyH.nil))
       go_simp
       refine (HG.out.1 _).mono ?_
       rintro e wg ⟨q,rfl,hok,ng,hng⟩
       have dg:Below W.heap.size W wg:=by rw[hng];exact bd9.trans ((below_drewN (Below.refl _ _) ng).mono bd9.size)
       clear hng
       obtain⟨hq64,hqb⟩:=HG.out.2.1 q hok
       have HQB:=Lib.hid (And.intro hq64 hqb)
       clear hok hq64 hqb
       go_wp2_with fail
       refine hK.out _ _ ?_ fun hHeld=>?_
       ·exact HSX.out wg (fun g' h1 _ _=>dg.block g' h1)
       clear hK K
       try simp only[lay]
       refine wpAnyH_ready (rs:=[29]) (by kernel_rfl) (by simp) (AllReadyH.cons rfl (fun K hK=>?_) (AllReadyH.nil))
       go_simp
       refine (HT.out q wg (hL.below dg hL.lt) (by have:=(hV.below dg hV.lt).isL bV (c:=cv) (by rw[HLV.out];exact hcv1) hcv2;rw[HLV.out] at this;exact this) HQB.out.1 HQB.out.2).mono ?_
       rintro e wt ⟨L',rfl,hL',hO,hTo⟩
       have HST:=Lib.hid (HG.out.2.2.1 L' hTo)
       clear hTo
       have hSt:=HSX.out wt (fun g' h1 h2 _=>(hO.2.1 g' h2).trans (dg.block g' h1))
       have HSt:=Lib.hid hSt
       clear hSt
       go_wp2_with fail
       refine hK.out _ _ ?_ fun hHeld=>?_
       ·exact HSt.out
       clear hK K
       try simp only[lay]
       refine wpAnyH_ready (rs:=[30]) (by kernel_rfl) (by simp) (AllReadyH.cons rfl (fun K hK=>?_) (AllReadyH.nil))
       go_simp
       refine hK.out _ _ ?_ fun hHeld=>?_
       ·exact HSt.out
       clear hK K
       try simp only[lay]
       refine wpAnyH_ready (rs:=[31]) (by kernel_rfl) (by simp) (AllReadyH.cons rfl (fun K hK=>?_) (AllReadyH.nil))
       have hQt:RowU wt gq Q:=(hQ.below dg hQ.lt).of_heap (hO.2.1 gq (by omega))
       have hql:k<Q.length:=by rw[HKM.out.2];exact HKM.out.1
       have qc:=hQt.cell hql
       have qf:=hQt.frozen k
       clear hql
       go_simp
       refine hK.out _ _ ?_ fun hHeld=>?_
       ·exact HSX.out _ (fun g' h1 h2 h3=>(Below.heap_setCell _ ⟨gq,k,none⟩ _ g' h3).trans ((hO.2.1 g' h2).trans (dg.block g' h1)))
       clear hK K qc qf
       try simp only[lay]
       refine wpAnyH_done (by kernel_rfl) ?_ _
       dsimp only[OnlyN]
       gi_wp2_with fail
       exact HENDS.out wg wt L' _ rfl dg hL' hO hQt HST.out
     ·go_simp
      refine hK.out _ _ ?_ fun hHeld=>?_
      ·exact hHeld
      clear hK K
      try simp only[lay]
      refine wpAnyH_ready (rs:=[12]) (by kernel_rfl) (by simp) (AllReadyH.cons rfl (fun K hK=>?_) (AllReadyH.nil))
      ·go_simp
       refine hK.out _ _ ?_ fun hHeld=>?_
       ·exact hHeld
       clear hK K
       try simp only[lay]
       refine wpAnyH_ready (rs:=[28]) (by kernel_rfl) (by simp) (AllReadyH.cons rfl (fun K hK=>?_) (AllReadyH.nil))
       go_simp
       refine (HG.out.1 _).mono ?_
       rintro e wg ⟨q,rfl,hok,ng,hng⟩
       have dg:Below W.heap.size W wg:=by rw[hng];exact bd9.trans ((below_drewN (Below.refl _ _) ng).mono bd9.size)
       clear hng
       obtain⟨hq64,hqb⟩:=HG.out.2.1 q hok
       have HQB:=Lib.hid (And.intro hq64 hqb)
       clear hok hq64 hqb
       go_wp2_with fail
       refine hK.out _ _ ?_ fun hHeld=>?_
       ·exact HSX.out wg (fun g' h1 _ _=>dg.block g' h1)
       clear hK K
       try simp only[lay]
       refine wpAnyH_ready (rs:=[29]) (by kernel_rfl) (by simp) (AllReadyH.cons rfl (fun K hK=>?_) (AllReadyH.nil))
       go_simp
       refine (HT.out q wg (hL.below dg hL.lt) (by have:=(hV.below dg hV.lt).isL bV (c:=cv) (by rw[HLV.out];exact hcv1) hcv2;rw[HLV.out] at this;exact this) HQB.out.1 HQB.out.2).mono ?_
       rintro e wt ⟨L',rfl,hL',hO,hTo⟩
       have HST:=Lib.hid (HG.out.2.2.1 L' hTo)
       clear hTo
       have hSt:=HSX.out wt (fun g' h1 h2 _=>(hO.2.1 g' h2).trans (dg.block g' h1))
       have HSt:=Lib.hid hSt
       clear hSt
       go_wp2_with fail
       refine hK.out _ _ ?_ fun hHeld=>?_
       ·exact HSt.out
       clear hK K
       try simp only[lay]
       refine wpAnyH_ready (rs:=[30]) (by kernel_rfl) (by simp) (AllReadyH.cons rfl (fun K hK=>?_) (AllReadyH.nil))
       go_simp
       refine hK.out _ _ ?_ fun hHeld=>?_
       ·exact HSt.out
       clear hK K
       try simp only[lay]
       refine wpAnyH_ready (rs:=[31]) (by kernel_rfl) (by simp) (AllReadyH.cons rfl (fun K hK=>?_) (AllReadyH.nil))
       have hQt:RowU wt gq Q:=(hQ.below dg hQ.lt).of_heap (hO.2.1 gq (by omega))
       have hql:k<Q.length:=by rw[HKM.out.2];exact HKM.out.1
       have qc:=hQt.cell hql
       have qf:=hQt.frozen k
       clear hql
       go_simp
       refine hK.out _ _ ?_ fun hHeld=>?_
       ·exact HSX.out _ (fun g' h1 h2 h3=>(Below.heap_setCell _ ⟨gq,k,none⟩ _ g' h3).trans ((hO.2.1 g' h2).trans (dg.block g' h1)))
       clear hK K qc qf
       try simp only[lay]
       refine wpAnyH_done (by kernel_rfl) ?_ _
       dsimp only[OnlyN]
       gi_wp2_with fail
       exact HENDS.out wg wt L' _ rfl dg hL' hO hQt HST.out
    ·go_simp
     refine hK.out _ _ ?_ fun hHeld=>?_
     ·exact hHeld
     clear hK K
     try simp only[lay]
     refine wpAnyH_ready (rs:=[7,17]) (by kernel_rfl) (by simp) (AllReadyH.cons rfl (fun K hK=>?_) (AllReadyH.cons rfl (fun K hK=>?_) (AllReadyH.nil)))
     ·go_simp
      refine hK.out _ _ ?_ fun hHeld=>?_
      ·exact hHeld
      clear hK K
      try simp only[lay]
      refine wpAnyH_ready (rs:=[17]) (by kernel_rfl) (by simp) (AllReadyH.cons rfl (fun K hK=>?_) (AllReadyH.nil))
      ·go_simp
       refine hK.out _ _ ?_ fun hHeld=>?_
       ·exact hHeld
       clear hK K
       try simp only[lay]
       refine wpAnyH_ready (rs:=[28]) (by kernel_rfl) (by simp) (AllReadyH.cons rfl (fun K hK=>?_) (AllReadyH.nil))
       go_simp
       refine (HG.out.1 _).mono ?_
       rintro e wg ⟨q,rfl,hok,ng,hng⟩
       have dg:Below W.heap.size W wg:=by rw[hng];exact bd9.trans ((below_drewN (Below.refl _ _) ng).mono bd9.size)
       clear hng
       obtain⟨hq64,hqb⟩:=HG.out.2.1 q hok
       have HQB:=Lib.hid (And.intro hq64 hqb)
       clear hok hq64 hqb
       go_wp2_with fail
       refine hK.out _ _ ?_ fun hHeld=>?_
       ·exact HSX.out wg (fun g' h1 _ _=>dg.block g' h1)
       clear hK K
       try simp only[lay]
       refine wpAnyH_ready (rs:=[29]) (by kernel_rfl) (by simp) (AllReadyH.cons rfl (fun K hK=>?_) (AllReadyH.nil))
       go_simp
       refine (HT.out q wg (hL.below dg hL.lt) (by have:=(hV.below dg hV.lt).isL bV (c:=cv) (by rw[HLV.out];exact hcv1) hcv2;rw[HLV.out] at this;exact this) HQB.out.1 HQB.out.2).mono ?_
       rintro e wt ⟨L',rfl,hL',hO,hTo⟩
       have HST:=Lib.hid (HG.out.2.2.1 L' hTo)
       clear hTo
       have hSt:=HSX.out wt (fun g' h1 h2 _=>(hO.2.1 g' h2).trans (dg.block g' h1))
       have HSt:=Lib.hid hSt
       clear hSt
       go_wp2_with fail
       refine hK.out _ _ ?_ fun hHeld=>?_
       ·exact HSt.out
       clear hK K
       try simp only[lay]
       refine wpAnyH_ready (rs:=[30]) (by kernel_rfl) (by simp) (AllReadyH.cons rfl (fun K hK=>?_) (AllReadyH.nil))
       go_simp
       refine hK.out _ _ ?_ fun hHeld=>?_
       ·exact HSt.out
       clear hK K
       try simp only[lay]
       refine wpAnyH_ready (rs:=[31]) (by kernel_rfl) (by simp) (AllReadyH.cons rfl (fun K hK=>?_) (AllReadyH.nil))
       have hQt:RowU wt gq Q:=(hQ.below dg hQ.lt).of_heap (hO.2.1 gq (by omega))
       have hql:k<Q.length:=by rw[HKM.out.2];exact HKM.out.1
       have qc:=hQt.cell hql
       have qf:=hQt.frozen k
       clear hql
       go_simp
       refine hK.out _ _ ?_ fun hHeld=>?_
       ·exact HSX.out _ (fun g' h1 h2 h3=>(Below.heap_setCell _ ⟨gq,k,none⟩ _ g' h3).trans ((hO.2.1 g' h2).trans (dg.block g' h1)))
       clear hK K qc qf
       try simp only[lay]
       refine wpAnyH_done (by kernel_rfl) ?_ _
       dsimp only[OnlyN]
       gi_wp2_with fail
       exact HENDS.out wg wt L' _ rfl dg hL' hO hQt HST.out
     ·go_simp
      refine hK.out _ _ ?_ fun hHeld=>?_
      ·exact hHeld
      clear hK K
      try simp only[lay]
      refine wpAnyH_ready (rs:=[7]) (by kernel_rfl) (by simp) (AllReadyH.cons rfl (fun K hK=>?_) (AllReadyH.nil))
      ·go_simp
       refine hK.out _ _ ?_ fun hHeld=>?_
       ·exact hHeld
       clear hK K
       try simp only[lay]
       refine wpAnyH_ready (rs:=[28]) (by kernel_rfl) (by simp) (AllReadyH.cons rfl (fun K hK=>?_) (AllReadyH.nil))
       go_simp
       refine (HG.out.1 _).mono ?_
       rintro e wg ⟨q,rfl,hok,ng,hng⟩
       have dg:Below W.heap.size W wg:=by rw[hng];exact bd9.trans ((below_drewN (Below.refl _ _) ng).mono bd9.size)
       clear hng
       obtain⟨hq64,hqb⟩:=HG.out.2.1 q hok
       have HQB:=Lib.hid (And.intro hq64 hqb)
       clear hok hq64 hqb
       go_wp2_with fail
       refine hK.out _ _ ?_ fun hHeld=>?_
       ·exact HSX.out wg (fun g' h1 _ _=>dg.block g' h1)
       clear hK K
       try simp only[lay]
       refine wpAnyH_ready (rs:=[29]) (by kernel_rfl) (by simp) (AllReadyH.cons rfl (fun K hK=>?_) (AllReadyH.nil))
       go_simp
       refine (HT.out q wg (hL.below dg hL.lt) (by have:=(hV.below dg hV.lt).isL bV (c:=cv) (by rw[HLV.out];exact hcv1) hcv2;rw[HLV.out] at this;exact this) HQB.out.1 HQB.out.2).mono ?_
       rintro e wt ⟨L',rfl,hL',hO,hTo⟩
       have HST:=Lib.hid (HG.out.2.2.1 L' hTo)
       clear hTo
       have hSt:=HSX.out wt (fun g' h1 h2 _=>(hO.2.1 g' h2).trans (dg.block g' h1))
       have HSt:=Lib.hid hSt
       clear hSt
       go_wp2_with fail
       refine hK.out _ _ ?_ fun hHeld=>?_
       ·exact HSt.out
       clear hK K
       try simp only[lay]
       refine wpAnyH_ready (rs:=[30]) (by kernel_rfl) (by simp) (AllReadyH.cons rfl (fun K hK=>?_) (AllReadyH.nil))
       go_simp
       refine hK.out _ _ ?_ fun hHeld=>?_
       ·exact HSt.out
       clear hK K
       try simp only[lay]
       refine wpAnyH_ready (rs:=[31]) (by kernel_rfl) (by simp) (AllReadyH.cons rfl (fun K hK=>?_) (AllReadyH.nil))
       have hQt:RowU wt gq Q:=(hQ.below dg hQ.lt).of_heap (hO.2.1 gq (by omega))
       have hql:k<Q.length:=by rw[HKM.out.2];exact HKM.out.1
       have qc:=hQt.cell hql
       have qf:=hQt.frozen k
       clear hql
       go_simp
       refine hK.out _ _ ?_ fun hHeld=>?_
       ·exact HSX.out _ (fun g' h1 h2 h3=>(Below.heap_setCell _ ⟨gq,k,none⟩ _ g' h3).trans ((hO.2.1 g' h2).trans (dg.block g' h1)))
       clear hK K qc qf
       try simp only[lay]
       refine wpAnyH_done (by kernel_rfl) ?_ _
       dsimp only[OnlyN]
       gi_wp2_with fail
       exact HENDS.out wg wt L' _ rfl dg hL' hO hQt HST.out
    ·go_simp
     refine hK.out _ _ ?_ fun hHeld=>?_
     ·exact hHeld
     clear hK K
     try simp only[lay]
     refine wpAnyH_ready (rs:=[7,12]) (by kernel_rfl) (by simp) (AllReadyH.cons rfl (fun K hK=>?_) (AllReadyH.cons rfl (fun K hK=>?_) (AllReadyH.nil)))
     ·go_simp
      refine hK.out _ _ ?_ fun hHeld=>?_
      ·exact hHeld
      clear hK K
      try simp only[lay]
      refine wpAnyH_ready (rs:=[12]) (by kernel_rfl) (by simp) (AllReadyH.cons rfl (fun K hK=>?_) (AllReadyH.nil))
      ·go_simp
       refine hK.out _ _ ?_ fun hHeld=>?_
       ·exact hHeld
       clear hK K
       try simp only[lay]
       refine wpAnyH_ready (rs:=[28]) (by kernel_rfl) (by simp) (AllReadyH.cons rfl (fun K hK=>?_) (AllReadyH.nil))
       go_simp
       refine (HG.out.1 _).mono ?_
       rintro e wg ⟨q,rfl,hok,ng,hng⟩
       have dg:Below W.heap.size W wg:=by rw[hng];exact bd9.trans ((below_drewN (Below.refl _ _) ng).mono bd9.size)
       clear hng
       obtain⟨hq64,hqb⟩:=HG.out.2.1 q hok
       have HQB:=Lib.hid (And.intro hq64 hqb)
       clear hok hq64 hqb
       go_wp2_with fail
       refine hK.out _ _ ?_ fun hHeld=>?_
       ·exact HSX.out wg (fun g' h1 _ _=>dg.block g' h1)
       clear hK K
       try simp only[lay]
       refine wpAnyH_ready (rs:=[29]) (by kernel_rfl) (by simp) (AllReadyH.cons rfl (fun K hK=>?_) (AllReadyH.nil))
       go_simp
       refine (HT.out q wg (hL.below dg hL.lt) (by have:=(hV.below dg hV.lt).isL bV (c:=cv) (by rw[HLV.out];exact hcv1) hcv2;rw[HLV.out] at this;exact this) HQB.out.1 HQB.out.2).mono ?_
       rintro e wt ⟨L',rfl,hL',hO,hTo⟩
       have HST:=Lib.hid (HG.out.2.2.1 L' hTo)
       clear hTo
       have hSt:=HSX.out wt (fun g' h1 h2 _=>(hO.2.1 g' h2).trans (dg.block g' h1))
       have HSt:=Lib.hid hSt
       clear hSt
       go_wp2_with fail
       refine hK.out _ _ ?_ fun hHeld=>?_
       ·exact HSt.out
       clear hK K
       try simp only[lay]
       refine wpAnyH_ready (rs:=[30]) (by kernel_rfl) (by simp) (AllReadyH.cons rfl (fun K hK=>?_) (AllReadyH.nil))
       go_simp
       refine hK.out _ _ ?_ fun hHeld=>?_
       ·exact HSt.out
       clear hK K
       try simp only[lay]
       refine wpAnyH_ready (rs:=[31]) (by kernel_rfl) (by simp) (AllReadyH.cons rfl (fun K hK=>?_) (AllReadyH.nil))
       have hQt:RowU wt gq Q:=(hQ.below dg hQ.lt).of_heap (hO.2.1 gq (by omega))
       have hql:k<Q.length:=by rw[HKM.out.2];exact HKM.out.1
       have qc:=hQt.cell hql
       have qf:=hQt.frozen k
       clear hql
       go_simp
       refine hK.out _ _ ?_ fun hHeld=>?_
       ·exact HSX.out _ (fun g' h1 h2 h3=>(Below.heap_setCell _ ⟨gq,k,none⟩ _ g' h3).trans ((hO.2.1 g' h2).trans (dg.block g' h1)))
       clear hK K qc qf
       try simp only[lay]
       refine wpAnyH_done (by kernel_rfl) ?_ _
       dsimp only[OnlyN]
       gi_wp2_with fail
       exact HENDS.out wg wt L' _ rfl dg hL' hO hQt HST.out
     ·go_simp
      refine hK.out _ _ ?_ fun hHeld=>?_
      ·exact hHeld
      clear hK K
      try simp only[lay]
      refine wpAnyH_ready (rs:=[7]) (by kernel_rfl) (by simp) (AllReadyH.cons rfl (fun K hK=>?_) (AllReadyH.nil))
      ·go_simp
       refine hK.out _ _ ?_ fun hHeld=>?_
       ·exact hHeld
       clear hK K
       try simp only[lay]
       refine wpAnyH_ready (rs:=[28]) (by kernel_rfl) (by simp) (AllReadyH.cons rfl (fun K hK=>?_) (AllReadyH.nil))
       go_simp
       refine (HG.out.1 _).mono ?_
       rintro e wg ⟨q,rfl,hok,ng,hng⟩
       have dg:Below W.heap.size W wg:=by rw[hng];exact bd9.trans ((below_drewN (Below.refl _ _) ng).mono bd9.size)
       clear hng
       obtain⟨hq64,hqb⟩:=HG.out.2.1 q hok
       have HQB:=Lib.hid (And.intro hq64 hqb)
       clear hok hq64 hqb
       go_wp2_with fail
       refine hK.out _ _ ?_ fun hHeld=>?_
       ·exact HSX.out wg (fun g' h1 _ _=>dg.block g' h1)
       clear hK K
       try simp only[lay]
       refine wpAnyH_ready (rs:=[29]) (by kernel_rfl) (by simp) (AllReadyH.cons rfl (fun K hK=>?_) (AllReadyH.nil))
       go_simp
       refine (HT.out q wg (hL.below dg hL.lt) (by have:=(hV.below dg hV.lt).isL bV (c:=cv) (by rw[HLV.out];exact hcv1) hcv2;rw[HLV.out] at this;exact this) HQB.out.1 HQB.out.2).mono ?_
       rintro e wt ⟨L',rfl,hL',hO,hTo⟩
       have HST:=Lib.hid (HG.out.2.2.1 L' hTo)
       clear hTo
       have hSt:=HSX.out wt (fun g' h1 h2 _=>(hO.2.1 g' h2).trans (dg.block g' h1))
       have HSt:=Lib.hid hSt
       clear hSt
       go_wp2_with fail
       refine hK.out _ _ ?_ fun hHeld=>?_
       ·exact HSt.out
       clear hK K
       try simp only[lay]
       refine wpAnyH_ready (rs:=[30]) (by kernel_rfl) (by simp) (AllReadyH.cons rfl (fun K hK=>?_) (AllReadyH.nil))
       go_simp
       refine hK.out _ _ ?_ fun hHeld=>?_
       ·exact HSt.out
       clear hK K
       try simp only[lay]
       refine wpAnyH_ready (rs:=[31]) (by kernel_rfl) (by simp) (AllReadyH.cons rfl (fun K hK=>?_) (AllReadyH.nil))
       have hQt:RowU wt gq Q:=(hQ.below dg hQ.lt).of_heap (hO.2.1 gq (by omega))
       have hql:k<Q.length:=by rw[HKM.out.2];exact HKM.out.1
       have qc:=hQt.cell hql
       have qf:=hQt.frozen k
       clear hql
       go_simp
       refine hK.out _ _ ?_ fun hHeld=>?_
       ·exact HSX.out _ (fun g' h1 h2 h3=>(Below.heap_setCell _ ⟨gq,k,none⟩ _ g' h3).trans ((hO.2.1 g' h2).trans (dg.block g' h1)))
       clear hK K qc qf
       try simp only[lay]
       refine wpAnyH_done (by kernel_rfl) ?_ _
       dsimp only[OnlyN]
       gi_wp2_with fail
       exact HENDS.out wg wt L' _ rfl dg hL' hO hQt HST.out
   case done=>
    clear aQ aU aV bxQ bxI bxN7 bxV7 bxU7 hdiv0
    rintro D ys W hDl hys ⟨⟨⟨Q,L,hQ,hL,hD⟩,hxN,hxV,hxU,hxQ,hV⟩,hBel,hWs⟩ hK
    have hyl:ys.length=m:=by have:=congrArg List.length hys;rwa [List.length_map,back_length] at this
    rw[hyl,Nat.sub_self] at hD
    obtain⟨e1,e2⟩:=hD.done
    obtain⟨d1,d2,d3,d4,d5,_⟩:=hD
    obtain⟨r1,r2,r3⟩:=up_div a b s
    rw[HELV.out,num_limbs,r1] at e1
    rw[HELV.out,num_limbs,r2] at e2
    rw[HLV.out,hmN] at d3
    rw[List.drop_zero] at d5
    have hlL:(limbs (num L)).length≤1000000:=by
     have h1:=limbs_len_mono (Nat.le_of_lt d5)
     rw[HELV.out,num_limbs,HH.out.2.2.2.2.1] at h1
     omega
    have resL:=hL.isL d4 (c:=c9) (by omega) hc9'
    have resQ:=hQ.isL d2 (c:=m) (by omega) (by omega)
    rw[d3] at resL
    rw[d1] at resQ
    have HQ:=Lib.hid resQ
    have HL:=Lib.hid resL
    have HE:=Lib.hid (And.intro e1 (And.intro e2 (And.intro r3 hlL)))
    have hKD:=Lib.hid hK
    have uc:=hxU.cell
    have qc:=hxQ.cell
    clear hyl hys e1 e2 d1 d2 d3 d4 d5 r1 r2 r3 hlL resL resQ hK g1 g0 g2 gn gn1 gn2 gn3
    gi_wp2_with fail
    refine ⟨trivial,(callsIn_wide.2 (dbare_any _ _ _ HL.out)).mono ?_⟩
    rintro e w' ⟨x1,rfl,hx1,_,rfl⟩
    gi_wp2_with fail
    refine ⟨trivial,(callsIn_wide.2 (dshr_any x1 _ s (by omega) _ hx1 HE.out.2.2.2)).mono ?_⟩
    rintro e W2 ⟨x2,rfl,hx2,hf2,bW2⟩
    rw[HE.out.2.1,HE.out.2.2.1] at hx2
    have qc2:=(boxed_low hxQ bW2 hxQ.lt).cell
    have hQ2:=HQ.out.below bW2
    clear uc qc
    gi_wp2_with fail
    refine ⟨trivial,(callsIn_wide.2 (dbare_any _ _ _ hQ2)).mono ?_⟩
    rintro e w' ⟨x3,rfl,hx3,hf3,rfl⟩
    rw[HE.out.1] at hx3
    have hwgq:w.heap.size≤gq:=by omega
    have hF3:Fresh w.heap.size x3:=fun g' e=>by
     have h9:some gq=some g':=hf3 g' e
     injection h9 with h9
     rw[←h9];exact hwgq
    have hF2:=hf2.more hBel.size
    clear hf3 hf2 qc2
    gi_wp2
    have hK':W2.heap[D]?=some (.deferred (some [])):=(bW2.block D (Array.getElem?_eq_some_iff.1 hKD.out).1).trans hKD.out
    refine ⟨by simp,.inl ⟨_,_,rfl,run_takeDeferred hK',?_⟩⟩
    refine ⟨.tuple #[x3,x2,.int .i64 0],?_,⟨x3,x2,rfl,IsL.putObj hx3 hK' rfl,IsL.putObj hx2 hK' rfl,hF3,hF2,(hBel.trans (bW2.mono hBel.size)).trans (belowK_b (w:=w) (Nat.le_refl _) W2 D _ (.deferred none) (by omega) hK' rfl rfl)⟩⟩
    simp[results,Tryz.f148,go_sem]
   case stop=>
    rintro D c pre W _ _ h _
    exact h.elim
end Go.Proofs.YtdnjdglekifhpaaGreat
namespace Go.Proofs.YtdnjdglekifhpaaGreat
open Go.RowKit
attribute [local go_sem ↓] Go.wp_at_zero Go.wp_at_succ
theorem dm_less (va vb:Value) (a b:Nat) (hlt:a<b) (w:World) (ha:IsN w va a) (hb:IsN w vb b) (hl0:(limbs a).length≤1000000):
 Calls Tryz.prog 148 #[va,vb] w fun e w'=>∃q r,e= .returned (.tuple #[q,r,.int .i64 0])∧IsN w' q (a / b)∧IsN w' r (a % b)∧Fresh w.heap.size q∧Below w.heap.size w w':=by
 have hC:=fun w ha hb=>cmp_any va vb a b w ha hb
 have hCl:=fun w h=>clone_nat va (limbs a) w h (by omega)
 rw[cmpI_lt (by omega)] at hC
 have hbl:0<(limbs b).length:=by
  rcases Nat.eq_zero_or_pos (limbs b).length with h | h
  ·have:=limbs_nil.1 (List.eq_nil_of_length_eq_zero h);omega
  ·exact h
 obtain⟨A,L,ca,rfl⟩:=ha.frm
 obtain⟨B,cb,rfl,_,_,_,_⟩:=id hb
 obtain⟨N,hN⟩:∃N,N=(limbs b).length:=⟨_,rfl⟩
 rw[←hN] at hb hbl hC ⊢
 have gn:((N:Int) == 0)=false:=by rw[nat_eq0];exact decide_eq_false (by omega)
 have gn2:¬N=0:=by omega
 clear hN
 obtain⟨V,eV,hN,bV⟩:=box1 w 3 #[.int .i64 N]
 obtain⟨g,eg⟩:∃g,g=w.heap.size:=⟨_,rfl⟩
 rw[←eg] at hN
 have EV:=Lib.hid (And.intro eV eg)
 clear eV eg
 have ha1:=ha.below bV
 have hb1:=hb.below bV
 have n0:=hN.cell 0
 go_enter Tryz.func148,Tryz.ntmps148
 go_wp2_with fail
 rw[←EV.out.1,←EV.out.2]
 refine (hC _ ha1 hb1).mono ?_
 rintro e w1 ⟨rfl,b1⟩
 have ha2:=ha1.below b1
 go_wp2_with fail
 refine (hCl _ ha2).mono ?_
 rintro e w2 ⟨v2,rfl,h2,_,b2⟩
 go_wp2
 go_ret3
 exact⟨_,_,rfl,by rw[Nat.div_eq_of_lt hlt];exact IsN.zero _,by rw[Nat.mod_eq_of_lt hlt];exact h2,fun g e=>by simp[Value.ownBlock] at e,(bV.trans (b1.mono bV.size)).trans (b2.mono (bV.trans (b1.mono bV.size)).size)⟩
end Go.Proofs.YtdnjdglekifhpaaGreat
namespace Go.Proofs.YtdnjdglekifhpaaGreat
open Go.RowKit
theorem dm_any (va vb:Value) (a b:Nat) (hb0:0<b) (w:World) (ha:IsN w va a) (hb:IsN w vb b) (hla:(limbs a).length≤1000000):
 Calls Tryz.prog 148 #[va,vb] w fun e w'=>∃q r,e= .returned (.tuple #[q,r,.int .i64 0])∧IsN w' q (a / b)∧IsN w' r (a % b)∧Fresh w.heap.size q∧Below w.heap.size w w':=by
 rcases Nat.lt_or_ge b W64 with h | h
 ·exact divmod1_any va vb a b hb0 h w ha hb hla
 ·rcases Nat.lt_or_ge a b with h2 | h2
  ·exact dm_less va vb a b h2 w ha hb (by omega)
  ·have hl:2≤(limbs b).length:=by
    rcases Nat.lt_or_ge (limbs b).length 2 with h3 | h3
    ·have:=lt_of_limbs_len (n:=b) (k:=1) (by omega)
     rw[Nat.pow_one] at this;omega
    ·exact h3
   refine (callsIn_wide.1 (divmod2_in va vb a b ((limbs b).length - 2) (by omega) h2 w ha hb hla)).mono ?_
   rintro e w' ⟨q,r,h1,h2,h3,h4,_,h6⟩
   exact⟨q,r,h1,h2,h3,h4,h6⟩
attribute [local go_sem ↓] Go.wp_at_zero Go.wp_at_succ
theorem pzmade_any (b:Bool) (nv:Value) (n:Nat) (w:World) (h:IsN w nv n):
 Calls Tryz.prog 176 #[.bool b,nv] w fun e w'=>∃v',e= .returned v'∧IsZ w' v' (sided b n)∧Below w.heap.size w w':=by
 have hr:=fun (w':World) (h:IsN w' nv n)=>IsZ.sided (b:=b) h
 have h':=h
 obtain⟨A,c,rfl,_⟩:=h
 have hn:decide (n≠0)=decide (0<(limbs n).length):=by
  rw[Bool.eq_iff_iff];simp only[decide_eq_true_eq]
  constructor
  ·intro h0;exact List.length_pos_iff.2 (fun e=>h0 (limbs_nil.1 e))
  ·intro h0 e;rw[e,limbs_zero] at h0;simp at h0
 rw[hn] at hr
 have R:=Lib.hid hr
 have HI:=Lib.hid h'
 clear hr hn h'
 generalize (limbs n).length=m at *
 have B0:=fun b=>(Below.refl w.heap.size w).alloc (Nat.le_refl _) (.cells #[.bool b,.slice A m c] 30)
 have HB:=Lib.hid B0
 clear B0
 cases b
 ·go_enter Tryz.func176,Tryz.ntmps176
  go_wp2
  exact bodyPost_ret (v:= .agg #[.bool false,.slice A m c]) (by simp[results,Tryz.results176,go_sem]) rfl ⟨_,rfl,R.out _ (HI.out.below (HB.out _)),HB.out _⟩
 ·by_cases hm:0<m
  ·have R1:=fun w' h=>(show IsZ w' (.agg #[.bool true,.slice A m c]) (sided true n) by have:=R.out w' h;rwa [decide_eq_true hm] at this)
   have R2:=Lib.hid R1
   clear R1
   go_enter Tryz.func176,Tryz.ntmps176
   go_wp2
   exact bodyPost_ret (v:= .agg #[.bool true,.slice A m c]) (by simp[results,Tryz.results176,go_sem]) rfl ⟨_,rfl,R2.out _ (HI.out.below (HB.out _)),HB.out _⟩
  ·have R1:=fun w' h=>(show IsZ w' (.agg #[.bool false,.slice A m c]) (sided true n) by have:=R.out w' h;rwa [decide_eq_false hm] at this)
   have R2:=Lib.hid R1
   obtain rfl:m=0:=by omega
   clear R1
   go_enter Tryz.func176,Tryz.ntmps176
   go_wp2
   exact bodyPost_ret (v:= .agg #[.bool false,.slice A 0 c]) (by simp[results,Tryz.results176,go_sem]) rfl ⟨_,rfl,R2.out _ (HI.out.below (HB.out _)),HB.out _⟩
theorem pzneg_any (v:Value) (z:Int) (w:World) (h:IsZ w v z):
 Calls Tryz.prog 133 #[v] w fun e w'=>∃v',e= .returned v'∧IsZ w' v' (-z)∧Below w.heap.size w w':=by
 obtain⟨nv,rfl,hn⟩:=h
 have hM:=fun w hn=>pzmade_any (!decide (z<0)) nv z.natAbs w hn
 have hz:sided (!decide (z<0)) z.natAbs= -z:=by
  unfold sided;by_cases h:z<0<;>simp[h]<;>omega
 rw[hz] at hM
 obtain⟨c,hc⟩:∃c,c= -z:=⟨_,rfl⟩
 rw[←hc] at hM ⊢
 clear hz hc
 generalize decide (z<0)=b at *
 generalize z.natAbs=n at *
 obtain⟨W0,hW,hT,hB⟩:=box2 w 30 30 #[.bool b,nv] #[.bool false,.slice none 0 0]
 have hn:=hn.below hB
 obtain⟨g,hg⟩:∃g,g=w.heap.size:=⟨_,rfl⟩
 have hW':=Lib.hid (And.intro hW hg)
 rw[←hg] at hT
 clear hW hg
 go_enter Tryz.func133,Tryz.ntmps133
 go_wp2_with fail
 rw[←hW'.out.1,←hW'.out.2]
 refine (hM _ hn).mono ?_
 rintro e w1 ⟨v1,rfl,⟨n1,rfl,h1⟩,b1⟩
 obtain⟨A1,L1,C1,rfl⟩:=h1.frm
 have hT:=hT.b b1
 have hB:=hB.trans (b1.mono hB.size)
 have hR:=hT.2
 have q0:=hR.cell 0
 have q1:=hR.cell 1
 have z0:=hR.frozen 0
 have z1:=hR.frozen 1
 obtain⟨p1,p2,p3⟩:=put2 hR (.bool (decide (c<0))) (.slice A1 L1 C1) (by simp[noU]) hB (by rw[hW'.out.2];omega)
 have P:=Lib.hid (And.intro (p2 _ _ h1) p3)
 clear p1 p2 p3 hR hM
 go_wp2
 exact bodyPost_ret (v:= .agg #[.bool (decide (c<0)),.slice A1 L1 C1]) (by simp[results,Tryz.results133,go_sem,q0,q1]) rfl ⟨_,rfl,⟨_,rfl,P.out.1⟩,P.out.2⟩
theorem pzmul_any (va vb:Value) (a b:Int) (w:World) (ha:IsZ w va a) (hb:IsZ w vb b) (sa:Sz a.natAbs 400000) (sb:Sz b.natAbs 400000):
 Calls Tryz.prog 121 #[va,vb] w fun e w'=>∃v',e= .returned v'∧IsZ w' v' (a*b)∧Below w.heap.size w w':=by
 obtain⟨na,rfl,ha⟩:=ha
 obtain⟨nb,rfl,hb⟩:=hb
 have hMul:=fun w ha hb=>mul_any na nb a.natAbs b.natAbs w ha hb (sa.fin (by omega)) (sb.fin (by omega))
 have hM:=fun v w hn=>pzmade_any (decide (a<0) != decide (b<0)) v (a.natAbs*b.natAbs) w hn
 have hz:=mul_sided a b
 rw[hz] at hM
 obtain⟨c,hc⟩:∃c,c=a*b:=⟨_,rfl⟩
 rw[←hc] at hM ⊢
 clear hz hc
 generalize decide (a<0)=s1 at *
 generalize decide (b<0)=s2 at *
 generalize a.natAbs*b.natAbs=n at *
 generalize a.natAbs=x at *
 generalize b.natAbs=y at *
 obtain⟨W0,hW,hT,hR,hB⟩:=box3 w 30 30 30 #[.bool s1,na] #[.bool s2,nb] #[.bool false,.slice none 0 0]
 have ha:=ha.below hB
 have hb:=hb.below hB
 obtain⟨g,hg⟩:∃g,g=w.heap.size:=⟨_,rfl⟩
 have hW':=Lib.hid (And.intro hW hg)
 rw[←hg] at hT hR
 clear hW hg
 go_enter Tryz.func121,Tryz.ntmps121
 go_wp2
 rw[←hW'.out.1,←hW'.out.2]
 go_region_held3 (fun w'=>w'.cell? ⟨g,0,none⟩=some (.bool s1)∧w'.cell? ⟨g,1,none⟩=some na∧w'.cell? ⟨g+1,0,none⟩=some (.bool s2)∧w'.cell? ⟨g+1,1,none⟩=some nb) (first | exact Two.cells22 (by assumption) | exact Two.cells22 (Two.far2 (by assumption) _ _))
  (first
   | (go_at_call 122;refine (hMul _ ?_ ?_).mono ?_;exact ha;exact hb;rintro x w1 ⟨v1,rfl,h1,b1⟩;have b1:=undrew b1;have hT1:=hT.below b1 hT.lt;have hR1:=hR.below b1 hR.lt;have hB1:=hB.trans (b1.mono hB.size))
   | (go_at_call 176;refine (hM _ _ ?_).mono ?_;exact h1;rintro x w2 ⟨v2,rfl,⟨n2,rfl,h2⟩,b2⟩;obtain⟨A2,L2,C2,rfl⟩:=h2.frm;have hT2:=hT1.below b2 hT1.lt;have hR2:=hR1.below b2 hR1.lt;have hB2:=hB1.trans (b2.mono hB1.size);have q0:=hR2.cell 0;have q1:=hR2.cell 1;have z0:=hR2.frozen 0;have z1:=hR2.frozen 1))
 obtain⟨p1,p2,p3⟩:=put2 hR2 (.bool (decide (c<0))) (.slice A2 L2 C2) (by simp[noU]) hB2 (by rw[hW'.out.2];omega)
 have P:=Lib.hid (And.intro (p2 _ _ h2) (And.intro p3 p1.cells2))
 clear p1 p2 p3
 go_wp2
 obtain⟨P1,P2,P3,P4⟩:=P.out
 exact bodyPost_ret (v:= .agg #[.bool (decide (c<0)),.slice A2 L2 C2]) (by simp[results,Tryz.results121,go_sem,P3,P4]) rfl ⟨_,rfl,⟨_,rfl,P1⟩,P2⟩
theorem pzof_any (n:Int) (h0: -9223372036854775808≤n) (h1:n≤9223372036854775807) (w:World):
 Calls Tryz.prog 118 #[.int .i64 n] w fun e w'=>∃v',e= .returned v'∧IsZ w' v' n∧Below w.heap.size w w':=by
 have hx:n.natAbs<W64:=by unfold W64;omega
 obtain⟨c,hc⟩:∃c,c=sided (decide (n<0)) n.natAbs:=⟨_,rfl⟩
 have KEY:Hid (∀w' v',IsZ w' v' c→IsZ w' v' n):=by
  rw[hc,sided_of];exact fun _ _ h=>h
 have hM:=fun v w hn=>pzmade_any (decide (n<0)) v n.natAbs w hn
 rw[←hc] at hM
 clear hc
 have hO:=fun w=>of_any n.natAbs hx w
 by_cases hn:n<0
 ·rw[decide_eq_true hn] at hM
  have hw1:IntKind.u64.wrap n=n+18446744073709551616:=by rw[IntKind.wrap_u64];omega
  have hw2:IntKind.u64.wrap (-(n+18446744073709551616))=(n.natAbs:Int):=by rw[IntKind.wrap_u64];omega
  clear hx h0 h1
  generalize n.natAbs=x at *
  obtain⟨W0,hW,hR,hB⟩:=box1 w 30 #[.bool false,.slice none 0 0]
  obtain⟨g,hg⟩:∃g,g=w.heap.size:=⟨_,rfl⟩
  have hW':=Lib.hid (And.intro hW hg)
  rw[←hg] at hR
  have hgw:w.heap.size≤g:=by omega
  clear hW hg
  skip
  obtain⟨c1_hR_0,c1_hR_1⟩:=hR.cells2
  go_enter Tryz.func118,Tryz.ntmps118
  go_wp2_with fail
  rw[←hW'.out.1,←hW'.out.2]
  refine (hO _).mono ?_
  rintro e w1 ⟨v1,rfl,h1,b1⟩
  replace hR:=hR.b b1
  replace hB:=bOn hB b1
  clear c1_hR_0 c1_hR_1
  obtain⟨c2_hR_0,c2_hR_1⟩:=hR.cells2
  go_wp2_with fail
  refine (hM _ _ h1).mono ?_
  rintro e w2 ⟨v2,rfl,⟨n2,rfl,h2⟩,b2⟩
  replace hR:=hR.b b2
  replace h1:=h1.b b2
  replace hB:=bOn hB b2
  clear c2_hR_0 c2_hR_1
  obtain⟨c3_hR_0,c3_hR_1⟩:=hR.cells2
  obtain⟨A2,L2,C2,rfl⟩:=h2.frm
  obtain⟨p1,p2,p3⟩:=put2 hR (.bool (decide (c<0))) (.slice A2 L2 C2) (by simp[noU]) hB (by omega)
  have q0:=hR.cell 0
  have z0:=hR.frozen 0
  have q1:=hR.cell 1
  have z1:=hR.frozen 1
  have P:=Lib.hid (And.intro (KEY.out _ _ (⟨_,rfl,p2 _ _ h2⟩:IsZ _ (.agg #[.bool (decide (c<0)),.slice A2 L2 C2]) _)) (And.intro p3 p1.cells2))
  clear p1 p2 p3
  go_wp2_with fail
  obtain⟨P1,P2,P3,P4⟩:=P.out
  exact bodyPost_ret (v:= .agg #[.bool (decide (c<0)),.slice A2 L2 C2]) (by simp[results,Tryz.results118,go_sem,P3,P4]) rfl ⟨_,rfl,P1,P2⟩
 ·rw[decide_eq_false hn] at hM
  have hw1:IntKind.u64.wrap n=n:=by rw[IntKind.wrap_u64];omega
  rw[show (n.natAbs:Int)=n from by omega] at hO
  clear hx h0 h1
  obtain⟨W0,hW,hR,hB⟩:=box1 w 30 #[.bool false,.slice none 0 0]
  obtain⟨g,hg⟩:∃g,g=w.heap.size:=⟨_,rfl⟩
  have hW':=Lib.hid (And.intro hW hg)
  rw[←hg] at hR
  have hgw:w.heap.size≤g:=by omega
  clear hW hg
  skip
  obtain⟨c1_hR_0,c1_hR_1⟩:=hR.cells2
  go_enter Tryz.func118,Tryz.ntmps118
  go_wp2_with fail
  rw[←hW'.out.1,←hW'.out.2]
  refine (hO _).mono ?_
  rintro e w1 ⟨v1,rfl,h1,b1⟩
  replace hR:=hR.b b1
  replace hB:=bOn hB b1
  clear c1_hR_0 c1_hR_1
  obtain⟨c2_hR_0,c2_hR_1⟩:=hR.cells2
  go_wp2_with fail
  refine (hM _ _ h1).mono ?_
  rintro e w2 ⟨v2,rfl,⟨n2,rfl,h2⟩,b2⟩
  replace hR:=hR.b b2
  replace h1:=h1.b b2
  replace hB:=bOn hB b2
  clear c2_hR_0 c2_hR_1
  obtain⟨c3_hR_0,c3_hR_1⟩:=hR.cells2
  obtain⟨A2,L2,C2,rfl⟩:=h2.frm
  obtain⟨p1,p2,p3⟩:=put2 hR (.bool (decide (c<0))) (.slice A2 L2 C2) (by simp[noU]) hB (by omega)
  have q0:=hR.cell 0
  have z0:=hR.frozen 0
  have q1:=hR.cell 1
  have z1:=hR.frozen 1
  have P:=Lib.hid (And.intro (KEY.out _ _ (⟨_,rfl,p2 _ _ h2⟩:IsZ _ (.agg #[.bool (decide (c<0)),.slice A2 L2 C2]) _)) (And.intro p3 p1.cells2))
  clear p1 p2 p3
  go_wp2_with fail
  obtain⟨P1,P2,P3,P4⟩:=P.out
  exact bodyPost_ret (v:= .agg #[.bool (decide (c<0)),.slice A2 L2 C2]) (by simp[results,Tryz.results118,go_sem,P3,P4]) rfl ⟨_,rfl,P1,P2⟩
end Go.Proofs.YtdnjdglekifhpaaGreat

