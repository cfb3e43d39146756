/- A part of the proof of: The live question of layer 20. Printed by gen_alive20.py. -/
import Derived.RangeFuncNested
import Derived.RangeFuncBound
import Derived.RangeFuncCalls
import Derived.RangeFuncLeaves
import Derived.Shelf.Abstract
import Derived.Shelf.RegionOpen
import Derived.OwnWalkIn
import Derived.TacticsInMore
import Derived.LoopNIn
import Derived.LoopIn
import Derived.Outline
import Derived.Shelf.SortG.Plain
import Derived.Test.YtdnjdglekifhpaaGreatChecked
import Derived.RangeFuncBox
import Derived.RangeFuncWrites
import Derived.Maps.AppendAt
import Derived.Deep.DeepMust
import Derived.Laws.BytesArg
import Derived.Lib.Bytes
import Derived.Deep.RegionHeld3
import Derived.Deep.DrawnRows
import Derived.Deep.DeepCutAuto
import Derived.Handy
import Derived.Lib.SliceRun
import Derived.OpenShut
import Derived.Laws.MakeOwn
import Derived.Laws.Rows
import Derived.Deep.Slices
import Derived.BigQuiet
import Derived.Test.YtdnjdglekifhpaaGreatTyd
set_option maxRecDepth 100000
set_option maxHeartbeats 8000000
namespace Go.Proofs.YtdnjdglekifhpaaGreat
def decs (n:Nat) (ten:Int):List Int:=(List.range n).map fun (j:Nat)=>(2*(n:Int)+9*(2*(j:Int)+1))*(128 / (n:Int))*ten
def dec (n0:Nat):Nat→List Int
 | 0=>[]
 | r+1=>dec n0 r++decs (n0*2^r) (10^r)
def both:List Int→List Int
 | []=>[]
 | x::r=>x:: -x::both r
theorem both_snoc (l:List Int) (x:Int):both (l++[x])=both l++[x, -x]:=by
 induction l with
 | nil=>rfl
 | cons y r ih=>simp[both,ih]
def laid:Nat→List Int
 | 0=>[0,2560000000]++both (dec 1 7)
 | 1=>[0,2560000000]++dec 2 7
 | 2=>(List.range 256).map fun (c:Nat)=>2*(c:Int) - 255
 | _=>(List.range 256).map fun (c:Nat)=>(c:Int)
def bk:Nat→List Int
 | 0=>(dec 1 7).reverse.map (fun x=> -x)++[0]++dec 1 7++[2560000000]
 | 1=>[0]++dec 2 7++[2560000000]
 | 2=>(List.range 256).map fun (c:Nat)=>2*(c:Int) - 255
 | _=>(List.range 256).map fun (c:Nat)=>(c:Int)
def rising:List Int→Bool
 | x::y::r=>decide (x<y) && rising (y::r)
 | _=>true
theorem bk_rising:∀k<4,rising (bk k)=true:=by decide+kernel
theorem bk_len:∀k<4,(bk k).length=256:=by decide+kernel
theorem laid_perm:∀k<4,(laid k).isPerm (bk k)=true:=by decide+kernel
theorem rising_pairwise {l:List Int} (h:rising l=true):l.Pairwise (· < ·):=by
 induction l with
 | nil=>exact List.Pairwise.nil
 | cons x r ih =>
   cases r with
   | nil=>simp
   | cons y s =>
     simp only[rising,Bool.and_eq_true,decide_eq_true_eq] at h
     have h2:=ih h.2
     refine List.Pairwise.cons ?_ h2
     intro z hz
     rcases List.mem_cons.1 hz with rfl | hz
     ·exact h.1
     ·have:=(List.pairwise_cons.1 h2).1 z hz;omega
theorem sort_laid (k:Nat) (hk:k<4):(laid k).mergeSort (fun x y=>decide (x≤y))=bk k:=by
 have hp:(laid k).Perm (bk k):=List.isPerm_iff.1 (laid_perm k hk)
 have h1:((laid k).mergeSort (fun x y=>decide (x≤y))).Pairwise (fun x y=>decide (x≤y)=true):=
  List.pairwise_mergeSort (fun a b c hab hbc=>by simp at *;omega) (fun a b=>by simp;omega) _
 have h2:(bk k).Pairwise (fun x y=>decide (x≤y)=true):=(rising_pairwise (bk_rising k hk)).imp (fun h=>by simp;omega)
 refine List.Perm.eq_of_pairwise (le:=fun x y=>decide (x≤y)=true) ?_ h1 h2 ((List.mergeSort_perm _ _).trans hp)
 intro a b _ _ hab hba
 simp at hab hba
 omega
end Go.Proofs.YtdnjdglekifhpaaGreat
namespace Go.Proofs.YtdnjdglekifhpaaGreat
open Go.RowKit Go.Shelf
attribute [local go_sem] Oper.semAt_some
abbrev Num:={ x:Int // 0≤x∧x≤2560000000 }
theorem decs_succ (n:Nat) (ten:Int) (l:List Int) (j:Nat) (h:l=(decs n ten).take j) (hj:j<n):(decs n ten).take (j+1)=l++[(2*(n:Int)+9*(2*(j:Int)+1))*(128 / (n:Int))*ten]:=by
 subst h
 have hl:(decs n ten).length=n:=by simp[decs]
 rw[List.take_succ_eq_append_getElem (by omega)]
 simp[decs]
theorem dec1_in_s (lr Bs:Nat) (J Jx:List Num→World→Prop)
 (hY : ∀ pre x W, J pre W → pre.length < 254 → YieldAt Fence.wide (8 - 1) Tryz.prog lr #[.int .i64 x.1] W fun e W' =>
  (e= .returned (.bool true)∧J (pre++[x]) W'∧True)∨(e= .returned (.bool false)∧Jx (pre++[x]) W'))
 (W:World) (hBs:W.cell? ⟨Bs,0,none⟩=some (.bool true)) (h0:J [] W):
 CallsIn Fence.wide 8 Tryz.prog 226 #[.func (.yield lr) #[] #[],.pointer (some ⟨Bs,0,none⟩)] W fun e W'=>(∃v,e= .returned v)∧
  ((∃ys:List Num,ys.map (·.1)=dec 1 7∧J ys W')∨(∃pre:List Num,True∧Jx pre W')):=by
 refine callsIn_of_wp Tryz.func226 rfl trivial ?_ rfl
 simp only[Tryz.ntmps226,List.size_toArray,List.length_cons,List.length_nil,Nat.reduceAdd,Nat.reduceSub,Array.replicate_succ,Array.replicate_zero,List.push_toArray,List.append_toArray,List.nil_append,List.cons_append]
 gi_wp2
 gi_loopw [3,4,7] (fun n ten i wr=>∃(r:Nat) (pre:List Num) (nn tt ii:Int),r≤7∧n= .int .i64 nn∧ten= .int .i64 tt∧i= .int .i64 ii∧Hid (nn=((1*2^r:Nat):Int)∧tt=((10^r:Nat):Int)∧ii=(r:Int))∧Hid (pre.map (·.1)=dec 1 r)∧J pre wr)
  (fun _ _ i _=>7 - (intOf i).toNat)
 case atStart=>exact⟨0,[],1,1,0,by omega,rfl,rfl,rfl,Lib.hid ⟨by simp,by simp,by simp⟩,Lib.hid rfl,h0⟩
 case round=>
  obtain⟨r,pre,nn,tt,ii,hr,rfl,rfl,rfl,hnt,hpre,hJ⟩:=hrel
  have hr8:r=0∨r=1∨r=2∨r=3∨r=4∨r=5∨r=6∨r=7:=by omega
  rcases hr8 with rfl | rfl | rfl | rfl | rfl | rfl | rfl | rfl
  ·obtain⟨e1,e2,e3⟩:=hnt.out
   obtain rfl:nn=1:=by simpa using e1
   obtain rfl:tt=1:=by simpa using e2
   obtain rfl:ii=0:=by simpa using e3
   clear e1 e2 e3 hnt
   gi_wp2
   gi_loopw [10] (fun i wr=>∃(j:Nat) (pre:List Num) (l:List Int),j≤1∧i= .int .i64 j∧Hid (l=(decs 1 1).take j)∧Hid (pre.map (·.1)=dec 1 0++l)∧pre.length≤0+j∧J pre wr) (fun i _=>1 - (intOf i).toNat)
   case atStart=>exact⟨0,pre,[],by omega,rfl,Lib.hid rfl,Lib.hid (by rw[List.append_nil];exact hpre.out),by have:=congrArg List.length hpre.out;rw[List.length_map,show (dec 1 0).length=0 from by decide+kernel] at this;omega,hJ⟩
   case round=>
    obtain⟨j,pre,l,hj,rfl,hl,hpre,hlen,hJ⟩:=hrel
    by_cases hlt:j<1
    ·obtain⟨x,hx⟩:∃x:Num,x.1=(2+9*(2*(j:Int)+1))*128:=⟨⟨(2+9*(2*(j:Int)+1))*128,by omega⟩,rfl⟩
     have hs:=decs_succ 1 1 l j hl.out hlt
     rw[show (2*((1:Nat):Int)+9*(2*(j:Int)+1))*(128 / ((1:Nat):Int))*1=(2+9*(2*(j:Int)+1))*128 from by omega] at hs
     have E:Hid ((pre++[x]).map (·.1)=dec 1 0++(decs 1 1).take (j+1)):=by
      rw[Hid,hs,List.map_append,hpre.out,List.append_assoc]
      rw[List.map_cons,List.map_nil,hx]
     obtain⟨fn,tmps,assign,body,hy,hR⟩:=hY pre x _ hJ (by omega)
     rw[hx] at hy
     have hR:=hR.mono (R':=fun e W'=>∃q:Bool,e= .returned (.bool q)∧Hid ((q=true∧J (pre++[x]) W')∨(q=false∧Jx (pre++[x]) W'))) (by
      rintro e W' (⟨rfl,h,_⟩ | ⟨rfl,h⟩)
      ·exact⟨true,rfl,.inl ⟨rfl,h⟩⟩
      ·exact⟨false,rfl,.inr ⟨rfl,h⟩⟩)
     clear hs hx
     gi_wp2_with fail
     refine hR.mono ?_
     rintro e W3 ⟨q,rfl,hq⟩
     cases q
     ·rcases hq.out with ⟨h,_⟩ | ⟨_,hJx3⟩
      ·cases h
      gi_wp2
      refine bodyPost_ret (results_none rfl _ _ _) rfl ?_
      exact⟨⟨_,rfl⟩,.inr ⟨_,trivial,hJx3⟩⟩
     ·rcases hq.out with ⟨_,hJ3⟩ | ⟨h,_⟩
      ·gi_wp2
       exact⟨⟨j+1,_,_,by omega,by go_num,Lib.hid rfl,E,by simp;omega,hJ3⟩,by simp[intOf];omega⟩
      ·cases h
    ·obtain rfl:j=1:=by omega
     have E:Hid (pre.map (·.1)=dec 1 1):=by
      rw[Hid,hpre.out,hl.out,List.take_of_length_le (by simp[decs])];rfl
     gi_wp2
     exact⟨⟨1,pre,2,10,1,by omega,rfl,rfl,rfl,Lib.hid ⟨by simp,by simp,by simp⟩,E,hJ⟩,by simp[intOf]⟩
  ·obtain⟨e1,e2,e3⟩:=hnt.out
   obtain rfl:nn=2:=by simpa using e1
   obtain rfl:tt=10:=by simpa using e2
   obtain rfl:ii=1:=by simpa using e3
   clear e1 e2 e3 hnt
   gi_wp2
   gi_loopw [10] (fun i wr=>∃(j:Nat) (pre:List Num) (l:List Int),j≤2∧i= .int .i64 j∧Hid (l=(decs 2 10).take j)∧Hid (pre.map (·.1)=dec 1 1++l)∧pre.length≤1+j∧J pre wr) (fun i _=>2 - (intOf i).toNat)
   case atStart=>exact⟨0,pre,[],by omega,rfl,Lib.hid rfl,Lib.hid (by rw[List.append_nil];exact hpre.out),by have:=congrArg List.length hpre.out;rw[List.length_map,show (dec 1 1).length=1 from by decide+kernel] at this;omega,hJ⟩
   case round=>
    obtain⟨j,pre,l,hj,rfl,hl,hpre,hlen,hJ⟩:=hrel
    by_cases hlt:j<2
    ·obtain⟨x,hx⟩:∃x:Num,x.1=(4+9*(2*(j:Int)+1))*64*10:=⟨⟨(4+9*(2*(j:Int)+1))*64*10,by omega⟩,rfl⟩
     have hs:=decs_succ 2 10 l j hl.out hlt
     rw[show (2*((2:Nat):Int)+9*(2*(j:Int)+1))*(128 / ((2:Nat):Int))*10=(4+9*(2*(j:Int)+1))*64*10 from by omega] at hs
     have E:Hid ((pre++[x]).map (·.1)=dec 1 1++(decs 2 10).take (j+1)):=by
      rw[Hid,hs,List.map_append,hpre.out,List.append_assoc]
      rw[List.map_cons,List.map_nil,hx]
     obtain⟨fn,tmps,assign,body,hy,hR⟩:=hY pre x _ hJ (by omega)
     rw[hx] at hy
     have hR:=hR.mono (R':=fun e W'=>∃q:Bool,e= .returned (.bool q)∧Hid ((q=true∧J (pre++[x]) W')∨(q=false∧Jx (pre++[x]) W'))) (by
      rintro e W' (⟨rfl,h,_⟩ | ⟨rfl,h⟩)
      ·exact⟨true,rfl,.inl ⟨rfl,h⟩⟩
      ·exact⟨false,rfl,.inr ⟨rfl,h⟩⟩)
     clear hs hx
     gi_wp2_with fail
     refine hR.mono ?_
     rintro e W3 ⟨q,rfl,hq⟩
     cases q
     ·rcases hq.out with ⟨h,_⟩ | ⟨_,hJx3⟩
      ·cases h
      gi_wp2
      refine bodyPost_ret (results_none rfl _ _ _) rfl ?_
      exact⟨⟨_,rfl⟩,.inr ⟨_,trivial,hJx3⟩⟩
     ·rcases hq.out with ⟨_,hJ3⟩ | ⟨h,_⟩
      ·gi_wp2
       exact⟨⟨j+1,_,_,by omega,by go_num,Lib.hid rfl,E,by simp;omega,hJ3⟩,by simp[intOf];omega⟩
      ·cases h
    ·obtain rfl:j=2:=by omega
     have E:Hid (pre.map (·.1)=dec 1 2):=by
      rw[Hid,hpre.out,hl.out,List.take_of_length_le (by simp[decs])];rfl
     gi_wp2
     exact⟨⟨2,pre,4,100,2,by omega,rfl,rfl,rfl,Lib.hid ⟨by simp,by simp,by simp⟩,E,hJ⟩,by simp[intOf]⟩
  ·obtain⟨e1,e2,e3⟩:=hnt.out
   obtain rfl:nn=4:=by simpa using e1
   obtain rfl:tt=100:=by simpa using e2
   obtain rfl:ii=2:=by simpa using e3
   clear e1 e2 e3 hnt
   gi_wp2
   gi_loopw [10] (fun i wr=>∃(j:Nat) (pre:List Num) (l:List Int),j≤4∧i= .int .i64 j∧Hid (l=(decs 4 100).take j)∧Hid (pre.map (·.1)=dec 1 2++l)∧pre.length≤3+j∧J pre wr) (fun i _=>4 - (intOf i).toNat)
   case atStart=>exact⟨0,pre,[],by omega,rfl,Lib.hid rfl,Lib.hid (by rw[List.append_nil];exact hpre.out),by have:=congrArg List.length hpre.out;rw[List.length_map,show (dec 1 2).length=3 from by decide+kernel] at this;omega,hJ⟩
   case round=>
    obtain⟨j,pre,l,hj,rfl,hl,hpre,hlen,hJ⟩:=hrel
    by_cases hlt:j<4
    ·obtain⟨x,hx⟩:∃x:Num,x.1=(8+9*(2*(j:Int)+1))*32*100:=⟨⟨(8+9*(2*(j:Int)+1))*32*100,by omega⟩,rfl⟩
     have hs:=decs_succ 4 100 l j hl.out hlt
     rw[show (2*((4:Nat):Int)+9*(2*(j:Int)+1))*(128 / ((4:Nat):Int))*100=(8+9*(2*(j:Int)+1))*32*100 from by omega] at hs
     have E:Hid ((pre++[x]).map (·.1)=dec 1 2++(decs 4 100).take (j+1)):=by
      rw[Hid,hs,List.map_append,hpre.out,List.append_assoc]
      rw[List.map_cons,List.map_nil,hx]
     obtain⟨fn,tmps,assign,body,hy,hR⟩:=hY pre x _ hJ (by omega)
     rw[hx] at hy
     have hR:=hR.mono (R':=fun e W'=>∃q:Bool,e= .returned (.bool q)∧Hid ((q=true∧J (pre++[x]) W')∨(q=false∧Jx (pre++[x]) W'))) (by
      rintro e W' (⟨rfl,h,_⟩ | ⟨rfl,h⟩)
      ·exact⟨true,rfl,.inl ⟨rfl,h⟩⟩
      ·exact⟨false,rfl,.inr ⟨rfl,h⟩⟩)
     clear hs hx
     gi_wp2_with fail
     refine hR.mono ?_
     rintro e W3 ⟨q,rfl,hq⟩
     cases q
     ·rcases hq.out with ⟨h,_⟩ | ⟨_,hJx3⟩
      ·cases h
      gi_wp2
      refine bodyPost_ret (results_none rfl _ _ _) rfl ?_
      exact⟨⟨_,rfl⟩,.inr ⟨_,trivial,hJx3⟩⟩
     ·rcases hq.out with ⟨_,hJ3⟩ | ⟨h,_⟩
      ·gi_wp2
       exact⟨⟨j+1,_,_,by omega,by go_num,Lib.hid rfl,E,by simp;omega,hJ3⟩,by simp[intOf];omega⟩
      ·cases h
    ·obtain rfl:j=4:=by omega
     have E:Hid (pre.map (·.1)=dec 1 3):=by
      rw[Hid,hpre.out,hl.out,List.take_of_length_le (by simp[decs])];rfl
     gi_wp2
     exact⟨⟨3,pre,8,1000,3,by omega,rfl,rfl,rfl,Lib.hid ⟨by simp,by simp,by simp⟩,E,hJ⟩,by simp[intOf]⟩
  ·obtain⟨e1,e2,e3⟩:=hnt.out
   obtain rfl:nn=8:=by simpa using e1
   obtain rfl:tt=1000:=by simpa using e2
   obtain rfl:ii=3:=by simpa using e3
   clear e1 e2 e3 hnt
   gi_wp2
   gi_loopw [10] (fun i wr=>∃(j:Nat) (pre:List Num) (l:List Int),j≤8∧i= .int .i64 j∧Hid (l=(decs 8 1000).take j)∧Hid (pre.map (·.1)=dec 1 3++l)∧pre.length≤7+j∧J pre wr) (fun i _=>8 - (intOf i).toNat)
   case atStart=>exact⟨0,pre,[],by omega,rfl,Lib.hid rfl,Lib.hid (by rw[List.append_nil];exact hpre.out),by have:=congrArg List.length hpre.out;rw[List.length_map,show (dec 1 3).length=7 from by decide+kernel] at this;omega,hJ⟩
   case round=>
    obtain⟨j,pre,l,hj,rfl,hl,hpre,hlen,hJ⟩:=hrel
    by_cases hlt:j<8
    ·obtain⟨x,hx⟩:∃x:Num,x.1=(16+9*(2*(j:Int)+1))*16*1000:=⟨⟨(16+9*(2*(j:Int)+1))*16*1000,by omega⟩,rfl⟩
     have hs:=decs_succ 8 1000 l j hl.out hlt
     rw[show (2*((8:Nat):Int)+9*(2*(j:Int)+1))*(128 / ((8:Nat):Int))*1000=(16+9*(2*(j:Int)+1))*16*1000 from by omega] at hs
     have E:Hid ((pre++[x]).map (·.1)=dec 1 3++(decs 8 1000).take (j+1)):=by
      rw[Hid,hs,List.map_append,hpre.out,List.append_assoc]
      rw[List.map_cons,List.map_nil,hx]
     obtain⟨fn,tmps,assign,body,hy,hR⟩:=hY pre x _ hJ (by omega)
     rw[hx] at hy
     have hR:=hR.mono (R':=fun e W'=>∃q:Bool,e= .returned (.bool q)∧Hid ((q=true∧J (pre++[x]) W')∨(q=false∧Jx (pre++[x]) W'))) (by
      rintro e W' (⟨rfl,h,_⟩ | ⟨rfl,h⟩)
      ·exact⟨true,rfl,.inl ⟨rfl,h⟩⟩
      ·exact⟨false,rfl,.inr ⟨rfl,h⟩⟩)
     clear hs hx
     gi_wp2_with fail
     refine hR.mono ?_
     rintro e W3 ⟨q,rfl,hq⟩
     cases q
     ·rcases hq.out with ⟨h,_⟩ | ⟨_,hJx3⟩
      ·cases h
      gi_wp2
      refine bodyPost_ret (results_none rfl _ _ _) rfl ?_
      exact⟨⟨_,rfl⟩,.inr ⟨_,trivial,hJx3⟩⟩
     ·rcases hq.out with ⟨_,hJ3⟩ | ⟨h,_⟩
      ·gi_wp2
       exact⟨⟨j+1,_,_,by omega,by go_num,Lib.hid rfl,E,by simp;omega,hJ3⟩,by simp[intOf];omega⟩
      ·cases h
    ·obtain rfl:j=8:=by omega
     have E:Hid (pre.map (·.1)=dec 1 4):=by
      rw[Hid,hpre.out,hl.out,List.take_of_length_le (by simp[decs])];rfl
     gi_wp2
     exact⟨⟨4,pre,16,10000,4,by omega,rfl,rfl,rfl,Lib.hid ⟨by simp,by simp,by simp⟩,E,hJ⟩,by simp[intOf]⟩
  ·obtain⟨e1,e2,e3⟩:=hnt.out
   obtain rfl:nn=16:=by simpa using e1
   obtain rfl:tt=10000:=by simpa using e2
   obtain rfl:ii=4:=by simpa using e3
   clear e1 e2 e3 hnt
   gi_wp2
   gi_loopw [10] (fun i wr=>∃(j:Nat) (pre:List Num) (l:List Int),j≤16∧i= .int .i64 j∧Hid (l=(decs 16 10000).take j)∧Hid (pre.map (·.1)=dec 1 4++l)∧pre.length≤15+j∧J pre wr) (fun i _=>16 - (intOf i).toNat)
   case atStart=>exact⟨0,pre,[],by omega,rfl,Lib.hid rfl,Lib.hid (by rw[List.append_nil];exact hpre.out),by have:=congrArg List.length hpre.out;rw[List.length_map,show (dec 1 4).length=15 from by decide+kernel] at this;omega,hJ⟩
   case round=>
    obtain⟨j,pre,l,hj,rfl,hl,hpre,hlen,hJ⟩:=hrel
    by_cases hlt:j<16
    ·obtain⟨x,hx⟩:∃x:Num,x.1=(32+9*(2*(j:Int)+1))*8*10000:=⟨⟨(32+9*(2*(j:Int)+1))*8*10000,by omega⟩,rfl⟩
     have hs:=decs_succ 16 10000 l j hl.out hlt
     rw[show (2*((16:Nat):Int)+9*(2*(j:Int)+1))*(128 / ((16:Nat):Int))*10000=(32+9*(2*(j:Int)+1))*8*10000 from by omega] at hs
     have E:Hid ((pre++[x]).map (·.1)=dec 1 4++(decs 16 10000).take (j+1)):=by
      rw[Hid,hs,List.map_append,hpre.out,List.append_assoc]
      rw[List.map_cons,List.map_nil,hx]
     obtain⟨fn,tmps,assign,body,hy,hR⟩:=hY pre x _ hJ (by omega)
     rw[hx] at hy
     have hR:=hR.mono (R':=fun e W'=>∃q:Bool,e= .returned (.bool q)∧Hid ((q=true∧J (pre++[x]) W')∨(q=false∧Jx (pre++[x]) W'))) (by
      rintro e W' (⟨rfl,h,_⟩ | ⟨rfl,h⟩)
      ·exact⟨true,rfl,.inl ⟨rfl,h⟩⟩
      ·exact⟨false,rfl,.inr ⟨rfl,h⟩⟩)
     clear hs hx
     gi_wp2_with fail
     refine hR.mono ?_
     rintro e W3 ⟨q,rfl,hq⟩
     cases q
     ·rcases hq.out with ⟨h,_⟩ | ⟨_,hJx3⟩
      ·cases h
      gi_wp2
      refine bodyPost_ret (results_none rfl _ _ _) rfl ?_
      exact⟨⟨_,rfl⟩,.inr ⟨_,trivial,hJx3⟩⟩
     ·rcases hq.out with ⟨_,hJ3⟩ | ⟨h,_⟩
      ·gi_wp2
       exact⟨⟨j+1,_,_,by omega,by go_num,Lib.hid rfl,E,by simp;omega,hJ3⟩,by simp[intOf];omega⟩
      ·cases h
    ·obtain rfl:j=16:=by omega
     have E:Hid (pre.map (·.1)=dec 1 5):=by
      rw[Hid,hpre.out,hl.out,List.take_of_length_le (by simp[decs])];rfl
     gi_wp2
     exact⟨⟨5,pre,32,100000,5,by omega,rfl,rfl,rfl,Lib.hid ⟨by simp,by simp,by simp⟩,E,hJ⟩,by simp[intOf]⟩
  ·obtain⟨e1,e2,e3⟩:=hnt.out
   obtain rfl:nn=32:=by simpa using e1
   obtain rfl:tt=100000:=by simpa using e2
   obtain rfl:ii=5:=by simpa using e3
   clear e1 e2 e3 hnt
   gi_wp2
   gi_loopw [10] (fun i wr=>∃(j:Nat) (pre:List Num) (l:List Int),j≤32∧i= .int .i64 j∧Hid (l=(decs 32 100000).take j)∧Hid (pre.map (·.1)=dec 1 5++l)∧pre.length≤31+j∧J pre wr) (fun i _=>32 - (intOf i).toNat)
   case atStart=>exact⟨0,pre,[],by omega,rfl,Lib.hid rfl,Lib.hid (by rw[List.append_nil];exact hpre.out),by have:=congrArg List.length hpre.out;rw[List.length_map,show (dec 1 5).length=31 from by decide+kernel] at this;omega,hJ⟩
   case round=>
    obtain⟨j,pre,l,hj,rfl,hl,hpre,hlen,hJ⟩:=hrel
    by_cases hlt:j<32
    ·obtain⟨x,hx⟩:∃x:Num,x.1=(64+9*(2*(j:Int)+1))*4*100000:=⟨⟨(64+9*(2*(j:Int)+1))*4*100000,by omega⟩,rfl⟩
     have hs:=decs_succ 32 100000 l j hl.out hlt
     rw[show (2*((32:Nat):Int)+9*(2*(j:Int)+1))*(128 / ((32:Nat):Int))*100000=(64+9*(2*(j:Int)+1))*4*100000 from by omega] at hs
     have E:Hid ((pre++[x]).map (·.1)=dec 1 5++(decs 32 100000).take (j+1)):=by
      rw[Hid,hs,List.map_append,hpre.out,List.append_assoc]
      rw[List.map_cons,List.map_nil,hx]
     obtain⟨fn,tmps,assign,body,hy,hR⟩:=hY pre x _ hJ (by omega)
     rw[hx] at hy
     have hR:=hR.mono (R':=fun e W'=>∃q:Bool,e= .returned (.bool q)∧Hid ((q=true∧J (pre++[x]) W')∨(q=false∧Jx (pre++[x]) W'))) (by
      rintro e W' (⟨rfl,h,_⟩ | ⟨rfl,h⟩)
      ·exact⟨true,rfl,.inl ⟨rfl,h⟩⟩
      ·exact⟨false,rfl,.inr ⟨rfl,h⟩⟩)
     clear hs hx
     gi_wp2_with fail
     refine hR.mono ?_
     rintro e W3 ⟨q,rfl,hq⟩
     cases q
     ·rcases hq.out with ⟨h,_⟩ | ⟨_,hJx3⟩
      ·cases h
      gi_wp2
      refine bodyPost_ret (results_none rfl _ _ _) rfl ?_
      exact⟨⟨_,rfl⟩,.inr ⟨_,trivial,hJx3⟩⟩
     ·rcases hq.out with ⟨_,hJ3⟩ | ⟨h,_⟩
      ·gi_wp2
       exact⟨⟨j+1,_,_,by omega,by go_num,Lib.hid rfl,E,by simp;omega,hJ3⟩,by simp[intOf];omega⟩
      ·cases h
    ·obtain rfl:j=32:=by omega
     have E:Hid (pre.map (·.1)=dec 1 6):=by
      rw[Hid,hpre.out,hl.out,List.take_of_length_le (by simp[decs])];rfl
     gi_wp2
     exact⟨⟨6,pre,64,1000000,6,by omega,rfl,rfl,rfl,Lib.hid ⟨by simp,by simp,by simp⟩,E,hJ⟩,by simp[intOf]⟩
  ·obtain⟨e1,e2,e3⟩:=hnt.out
   obtain rfl:nn=64:=by simpa using e1
   obtain rfl:tt=1000000:=by simpa using e2
   obtain rfl:ii=6:=by simpa using e3
   clear e1 e2 e3 hnt
   gi_wp2
   gi_loopw [10] (fun i wr=>∃(j:Nat) (pre:List Num) (l:List Int),j≤64∧i= .int .i64 j∧Hid (l=(decs 64 1000000).take j)∧Hid (pre.map (·.1)=dec 1 6++l)∧pre.length≤63+j∧J pre wr) (fun i _=>64 - (intOf i).toNat)
   case atStart=>exact⟨0,pre,[],by omega,rfl,Lib.hid rfl,Lib.hid (by rw[List.append_nil];exact hpre.out),by have:=congrArg List.length hpre.out;rw[List.length_map,show (dec 1 6).length=63 from by decide+kernel] at this;omega,hJ⟩
   case round=>
    obtain⟨j,pre,l,hj,rfl,hl,hpre,hlen,hJ⟩:=hrel
    by_cases hlt:j<64
    ·obtain⟨x,hx⟩:∃x:Num,x.1=(128+9*(2*(j:Int)+1))*2*1000000:=⟨⟨(128+9*(2*(j:Int)+1))*2*1000000,by omega⟩,rfl⟩
     have hs:=decs_succ 64 1000000 l j hl.out hlt
     rw[show (2*((64:Nat):Int)+9*(2*(j:Int)+1))*(128 / ((64:Nat):Int))*1000000=(128+9*(2*(j:Int)+1))*2*1000000 from by omega] at hs
     have E:Hid ((pre++[x]).map (·.1)=dec 1 6++(decs 64 1000000).take (j+1)):=by
      rw[Hid,hs,List.map_append,hpre.out,List.append_assoc]
      rw[List.map_cons,List.map_nil,hx]
     obtain⟨fn,tmps,assign,body,hy,hR⟩:=hY pre x _ hJ (by omega)
     rw[hx] at hy
     have hR:=hR.mono (R':=fun e W'=>∃q:Bool,e= .returned (.bool q)∧Hid ((q=true∧J (pre++[x]) W')∨(q=false∧Jx (pre++[x]) W'))) (by
      rintro e W' (⟨rfl,h,_⟩ | ⟨rfl,h⟩)
      ·exact⟨true,rfl,.inl ⟨rfl,h⟩⟩
      ·exact⟨false,rfl,.inr ⟨rfl,h⟩⟩)
     clear hs hx
     gi_wp2_with fail
     refine hR.mono ?_
     rintro e W3 ⟨q,rfl,hq⟩
     cases q
     ·rcases hq.out with ⟨h,_⟩ | ⟨_,hJx3⟩
      ·cases h
      gi_wp2
      refine bodyPost_ret (results_none rfl _ _ _) rfl ?_
      exact⟨⟨_,rfl⟩,.inr ⟨_,trivial,hJx3⟩⟩
     ·rcases hq.out with ⟨_,hJ3⟩ | ⟨h,_⟩
      ·gi_wp2
       exact⟨⟨j+1,_,_,by omega,by go_num,Lib.hid rfl,E,by simp;omega,hJ3⟩,by simp[intOf];omega⟩
      ·cases h
    ·obtain rfl:j=64:=by omega
     have E:Hid (pre.map (·.1)=dec 1 7):=by
      rw[Hid,hpre.out,hl.out,List.take_of_length_le (by simp[decs])];rfl
     gi_wp2
     exact⟨⟨7,pre,128,10000000,7,by omega,rfl,rfl,rfl,Lib.hid ⟨by simp,by simp,by simp⟩,E,hJ⟩,by simp[intOf]⟩
  ·obtain⟨e1,e2,e3⟩:=hnt.out
   obtain rfl:ii=7:=by simpa using e3
   clear e1 e2 e3 hnt
   gi_wp2
   go_end0
   exact⟨⟨_,rfl⟩,.inl ⟨_,hpre.out,hJ⟩⟩
theorem dec1_in_u (lr Bs:Nat) (J Jx:List Num→World→Prop)
 (hY : ∀ pre x W, J pre W → pre.length < 254 → YieldAt Fence.wide (8 - 1) Tryz.prog lr #[.int .i64 x.1] W fun e W' =>
  (e= .returned (.bool true)∧J (pre++[x]) W'∧True)∨(e= .returned (.bool false)∧Jx (pre++[x]) W'))
 (W:World) (hBs:W.cell? ⟨Bs,0,none⟩=some (.bool false)) (h0:J [] W):
 CallsIn Fence.wide 8 Tryz.prog 226 #[.func (.yield lr) #[] #[],.pointer (some ⟨Bs,0,none⟩)] W fun e W'=>(∃v,e= .returned v)∧
  ((∃ys:List Num,ys.map (·.1)=dec 2 7∧J ys W')∨(∃pre:List Num,True∧Jx pre W')):=by
 refine callsIn_of_wp Tryz.func226 rfl trivial ?_ rfl
 simp only[Tryz.ntmps226,List.size_toArray,List.length_cons,List.length_nil,Nat.reduceAdd,Nat.reduceSub,Array.replicate_succ,Array.replicate_zero,List.push_toArray,List.append_toArray,List.nil_append,List.cons_append]
 gi_wp2
 gi_loopw [3,4,7] (fun n ten i wr=>∃(r:Nat) (pre:List Num) (nn tt ii:Int),r≤7∧n= .int .i64 nn∧ten= .int .i64 tt∧i= .int .i64 ii∧Hid (nn=((2*2^r:Nat):Int)∧tt=((10^r:Nat):Int)∧ii=(r:Int))∧Hid (pre.map (·.1)=dec 2 r)∧J pre wr)
  (fun _ _ i _=>7 - (intOf i).toNat)
 case atStart=>exact⟨0,[],2,1,0,by omega,rfl,rfl,rfl,Lib.hid ⟨by simp,by simp,by simp⟩,Lib.hid rfl,h0⟩
 case round=>
  obtain⟨r,pre,nn,tt,ii,hr,rfl,rfl,rfl,hnt,hpre,hJ⟩:=hrel
  have hr8:r=0∨r=1∨r=2∨r=3∨r=4∨r=5∨r=6∨r=7:=by omega
  rcases hr8 with rfl | rfl | rfl | rfl | rfl | rfl | rfl | rfl
  ·obtain⟨e1,e2,e3⟩:=hnt.out
   obtain rfl:nn=2:=by simpa using e1
   obtain rfl:tt=1:=by simpa using e2
   obtain rfl:ii=0:=by simpa using e3
   clear e1 e2 e3 hnt
   gi_wp2
   gi_loopw [10] (fun i wr=>∃(j:Nat) (pre:List Num) (l:List Int),j≤2∧i= .int .i64 j∧Hid (l=(decs 2 1).take j)∧Hid (pre.map (·.1)=dec 2 0++l)∧pre.length≤0+j∧J pre wr) (fun i _=>2 - (intOf i).toNat)
   case atStart=>exact⟨0,pre,[],by omega,rfl,Lib.hid rfl,Lib.hid (by rw[List.append_nil];exact hpre.out),by have:=congrArg List.length hpre.out;rw[List.length_map,show (dec 2 0).length=0 from by decide+kernel] at this;omega,hJ⟩
   case round=>
    obtain⟨j,pre,l,hj,rfl,hl,hpre,hlen,hJ⟩:=hrel
    by_cases hlt:j<2
    ·obtain⟨x,hx⟩:∃x:Num,x.1=(4+9*(2*(j:Int)+1))*64:=⟨⟨(4+9*(2*(j:Int)+1))*64,by omega⟩,rfl⟩
     have hs:=decs_succ 2 1 l j hl.out hlt
     rw[show (2*((2:Nat):Int)+9*(2*(j:Int)+1))*(128 / ((2:Nat):Int))*1=(4+9*(2*(j:Int)+1))*64 from by omega] at hs
     have E:Hid ((pre++[x]).map (·.1)=dec 2 0++(decs 2 1).take (j+1)):=by
      rw[Hid,hs,List.map_append,hpre.out,List.append_assoc]
      rw[List.map_cons,List.map_nil,hx]
     obtain⟨fn,tmps,assign,body,hy,hR⟩:=hY pre x _ hJ (by omega)
     rw[hx] at hy
     have hR:=hR.mono (R':=fun e W'=>∃q:Bool,e= .returned (.bool q)∧Hid ((q=true∧J (pre++[x]) W')∨(q=false∧Jx (pre++[x]) W'))) (by
      rintro e W' (⟨rfl,h,_⟩ | ⟨rfl,h⟩)
      ·exact⟨true,rfl,.inl ⟨rfl,h⟩⟩
      ·exact⟨false,rfl,.inr ⟨rfl,h⟩⟩)
     clear hs hx
     gi_wp2_with fail
     refine hR.mono ?_
     rintro e W3 ⟨q,rfl,hq⟩
     cases q
     ·rcases hq.out with ⟨h,_⟩ | ⟨_,hJx3⟩
      ·cases h
      gi_wp2
      refine bodyPost_ret (results_none rfl _ _ _) rfl ?_
      exact⟨⟨_,rfl⟩,.inr ⟨_,trivial,hJx3⟩⟩
     ·rcases hq.out with ⟨_,hJ3⟩ | ⟨h,_⟩
      ·gi_wp2
       exact⟨⟨j+1,_,_,by omega,by go_num,Lib.hid rfl,E,by simp;omega,hJ3⟩,by simp[intOf];omega⟩
      ·cases h
    ·obtain rfl:j=2:=by omega
     have E:Hid (pre.map (·.1)=dec 2 1):=by
      rw[Hid,hpre.out,hl.out,List.take_of_length_le (by simp[decs])];rfl
     gi_wp2
     exact⟨⟨1,pre,4,10,1,by omega,rfl,rfl,rfl,Lib.hid ⟨by simp,by simp,by simp⟩,E,hJ⟩,by simp[intOf]⟩
  ·obtain⟨e1,e2,e3⟩:=hnt.out
   obtain rfl:nn=4:=by simpa using e1
   obtain rfl:tt=10:=by simpa using e2
   obtain rfl:ii=1:=by simpa using e3
   clear e1 e2 e3 hnt
   gi_wp2
   gi_loopw [10] (fun i wr=>∃(j:Nat) (pre:List Num) (l:List Int),j≤4∧i= .int .i64 j∧Hid (l=(decs 4 10).take j)∧Hid (pre.map (·.1)=dec 2 1++l)∧pre.length≤2+j∧J pre wr) (fun i _=>4 - (intOf i).toNat)
   case atStart=>exact⟨0,pre,[],by omega,rfl,Lib.hid rfl,Lib.hid (by rw[List.append_nil];exact hpre.out),by have:=congrArg List.length hpre.out;rw[List.length_map,show (dec 2 1).length=2 from by decide+kernel] at this;omega,hJ⟩
   case round=>
    obtain⟨j,pre,l,hj,rfl,hl,hpre,hlen,hJ⟩:=hrel
    by_cases hlt:j<4
    ·obtain⟨x,hx⟩:∃x:Num,x.1=(8+9*(2*(j:Int)+1))*32*10:=⟨⟨(8+9*(2*(j:Int)+1))*32*10,by omega⟩,rfl⟩
     have hs:=decs_succ 4 10 l j hl.out hlt
     rw[show (2*((4:Nat):Int)+9*(2*(j:Int)+1))*(128 / ((4:Nat):Int))*10=(8+9*(2*(j:Int)+1))*32*10 from by omega] at hs
     have E:Hid ((pre++[x]).map (·.1)=dec 2 1++(decs 4 10).take (j+1)):=by
      rw[Hid,hs,List.map_append,hpre.out,List.append_assoc]
      rw[List.map_cons,List.map_nil,hx]
     obtain⟨fn,tmps,assign,body,hy,hR⟩:=hY pre x _ hJ (by omega)
     rw[hx] at hy
     have hR:=hR.mono (R':=fun e W'=>∃q:Bool,e= .returned (.bool q)∧Hid ((q=true∧J (pre++[x]) W')∨(q=false∧Jx (pre++[x]) W'))) (by
      rintro e W' (⟨rfl,h,_⟩ | ⟨rfl,h⟩)
      ·exact⟨true,rfl,.inl ⟨rfl,h⟩⟩
      ·exact⟨false,rfl,.inr ⟨rfl,h⟩⟩)
     clear hs hx
     gi_wp2_with fail
     refine hR.mono ?_
     rintro e W3 ⟨q,rfl,hq⟩
     cases q
     ·rcases hq.out with ⟨h,_⟩ | ⟨_,hJx3⟩
      ·cases h
      gi_wp2
      refine bodyPost_ret (results_none rfl _ _ _) rfl ?_
      exact⟨⟨_,rfl⟩,.inr ⟨_,trivial,hJx3⟩⟩
     ·rcases hq.out with ⟨_,hJ3⟩ | ⟨h,_⟩
      ·gi_wp2
       exact⟨⟨j+1,_,_,by omega,by go_num,Lib.hid rfl,E,by simp;omega,hJ3⟩,by simp[intOf];omega⟩
      ·cases h
    ·obtain rfl:j=4:=by omega
     have E:Hid (pre.map (·.1)=dec 2 2):=by
      rw[Hid,hpre.out,hl.out,List.take_of_length_le (by simp[decs])];rfl
     gi_wp2
     exact⟨⟨2,pre,8,100,2,by omega,rfl,rfl,rfl,Lib.hid ⟨by simp,by simp,by simp⟩,E,hJ⟩,by simp[intOf]⟩
  ·obtain⟨e1,e2,e3⟩:=hnt.out
   obtain rfl:nn=8:=by simpa using e1
   obtain rfl:tt=100:=by simpa using e2
   obtain rfl:ii=2:=by simpa using e3
   clear e1 e2 e3 hnt
   gi_wp2
   gi_loopw [10] (fun i wr=>∃(j:Nat) (pre:List Num) (l:List Int),j≤8∧i= .int .i64 j∧Hid (l=(decs 8 100).take j)∧Hid (pre.map (·.1)=dec 2 2++l)∧pre.length≤6+j∧J pre wr) (fun i _=>8 - (intOf i).toNat)
   case atStart=>exact⟨0,pre,[],by omega,rfl,Lib.hid rfl,Lib.hid (by rw[List.append_nil];exact hpre.out),by have:=congrArg List.length hpre.out;rw[List.length_map,show (dec 2 2).length=6 from by decide+kernel] at this;omega,hJ⟩
   case round=>
    obtain⟨j,pre,l,hj,rfl,hl,hpre,hlen,hJ⟩:=hrel
    by_cases hlt:j<8
    ·obtain⟨x,hx⟩:∃x:Num,x.1=(16+9*(2*(j:Int)+1))*16*100:=⟨⟨(16+9*(2*(j:Int)+1))*16*100,by omega⟩,rfl⟩
     have hs:=decs_succ 8 100 l j hl.out hlt
     rw[show (2*((8:Nat):Int)+9*(2*(j:Int)+1))*(128 / ((8:Nat):Int))*100=(16+9*(2*(j:Int)+1))*16*100 from by omega] at hs
     have E:Hid ((pre++[x]).map (·.1)=dec 2 2++(decs 8 100).take (j+1)):=by
      rw[Hid,hs,List.map_append,hpre.out,List.append_assoc]
      rw[List.map_cons,List.map_nil,hx]
     obtain⟨fn,tmps,assign,body,hy,hR⟩:=hY pre x _ hJ (by omega)
     rw[hx] at hy
     have hR:=hR.mono (R':=fun e W'=>∃q:Bool,e= .returned (.bool q)∧Hid ((q=true∧J (pre++[x]) W')∨(q=false∧Jx (pre++[x]) W'))) (by
      rintro e W' (⟨rfl,h,_⟩ | ⟨rfl,h⟩)
      ·exact⟨true,rfl,.inl ⟨rfl,h⟩⟩
      ·exact⟨false,rfl,.inr ⟨rfl,h⟩⟩)
     clear hs hx
     gi_wp2_with fail
     refine hR.mono ?_
     rintro e W3 ⟨q,rfl,hq⟩
     cases q
     ·rcases hq.out with ⟨h,_⟩ | ⟨_,hJx3⟩
      ·cases h
      gi_wp2
      refine bodyPost_ret (results_none rfl _ _ _) rfl ?_
      exact⟨⟨_,rfl⟩,.inr ⟨_,trivial,hJx3⟩⟩
     ·rcases hq.out with ⟨_,hJ3⟩ | ⟨h,_⟩
      ·gi_wp2
       exact⟨⟨j+1,_,_,by omega,by go_num,Lib.hid rfl,E,by simp;omega,hJ3⟩,by simp[intOf];omega⟩
      ·cases h
    ·obtain rfl:j=8:=by omega
     have E:Hid (pre.map (·.1)=dec 2 3):=by
      rw[Hid,hpre.out,hl.out,List.take_of_length_le (by simp[decs])];rfl
     gi_wp2
     exact⟨⟨3,pre,16,1000,3,by omega,rfl,rfl,rfl,Lib.hid ⟨by simp,by simp,by simp⟩,E,hJ⟩,by simp[intOf]⟩
  ·obtain⟨e1,e2,e3⟩:=hnt.out
   obtain rfl:nn=16:=by simpa using e1
   obtain rfl:tt=1000:=by simpa using e2
   obtain rfl:ii=3:=by simpa using e3
   clear e1 e2 e3 hnt
   gi_wp2
   gi_loopw [10] (fun i wr=>∃(j:Nat) (pre:List Num) (l:List Int),j≤16∧i= .int .i64 j∧Hid (l=(decs 16 1000).take j)∧Hid (pre.map (·.1)=dec 2 3++l)∧pre.length≤14+j∧J pre wr) (fun i _=>16 - (intOf i).toNat)
   case atStart=>exact⟨0,pre,[],by omega,rfl,Lib.hid rfl,Lib.hid (by rw[List.append_nil];exact hpre.out),by have:=congrArg List.length hpre.out;rw[List.length_map,show (dec 2 3).length=14 from by decide+kernel] at this;omega,hJ⟩
   case round=>
    obtain⟨j,pre,l,hj,rfl,hl,hpre,hlen,hJ⟩:=hrel
    by_cases hlt:j<16
    ·obtain⟨x,hx⟩:∃x:Num,x.1=(32+9*(2*(j:Int)+1))*8*1000:=⟨⟨(32+9*(2*(j:Int)+1))*8*1000,by omega⟩,rfl⟩
     have hs:=decs_succ 16 1000 l j hl.out hlt
     rw[show (2*((16:Nat):Int)+9*(2*(j:Int)+1))*(128 / ((16:Nat):Int))*1000=(32+9*(2*(j:Int)+1))*8*1000 from by omega] at hs
     have E:Hid ((pre++[x]).map (·.1)=dec 2 3++(decs 16 1000).take (j+1)):=by
      rw[Hid,hs,List.map_append,hpre.out,List.append_assoc]
      rw[List.map_cons,List.map_nil,hx]
     obtain⟨fn,tmps,assign,body,hy,hR⟩:=hY pre x _ hJ (by omega)
     rw[hx] at hy
     have hR:=hR.mono (R':=fun e W'=>∃q:Bool,e= .returned (.bool q)∧Hid ((q=true∧J (pre++[x]) W')∨(q=false∧Jx (pre++[x]) W'))) (by
      rintro e W' (⟨rfl,h,_⟩ | ⟨rfl,h⟩)
      ·exact⟨true,rfl,.inl ⟨rfl,h⟩⟩
      ·exact⟨false,rfl,.inr ⟨rfl,h⟩⟩)
     clear hs hx
     gi_wp2_with fail
     refine hR.mono ?_
     rintro e W3 ⟨q,rfl,hq⟩
     cases q
     ·rcases hq.out with ⟨h,_⟩ | ⟨_,hJx3⟩
      ·cases h
      gi_wp2
      refine bodyPost_ret (results_none rfl _ _ _) rfl ?_
      exact⟨⟨_,rfl⟩,.inr ⟨_,trivial,hJx3⟩⟩
     ·rcases hq.out with ⟨_,hJ3⟩ | ⟨h,_⟩
      ·gi_wp2
       exact⟨⟨j+1,_,_,by omega,by go_num,Lib.hid rfl,E,by simp;omega,hJ3⟩,by simp[intOf];omega⟩
      ·cases h
    ·obtain rfl:j=16:=by omega
     have E:Hid (pre.map (·.1)=dec 2 4):=by
      rw[Hid,hpre.out,hl.out,List.take_of_length_le (by simp[decs])];rfl
     gi_wp2
     exact⟨⟨4,pre,32,10000,4,by omega,rfl,rfl,rfl,Lib.hid ⟨by simp,by simp,by simp⟩,E,hJ⟩,by simp[intOf]⟩
  ·obtain⟨e1,e2,e3⟩:=hnt.out
   obtain rfl:nn=32:=by simpa using e1
   obtain rfl:tt=10000:=by simpa using e2
   obtain rfl:ii=4:=by simpa using e3
   clear e1 e2 e3 hnt
   gi_wp2
   gi_loopw [10] (fun i wr=>∃(j:Nat) (pre:List Num) (l:List Int),j≤32∧i= .int .i64 j∧Hid (l=(decs 32 10000).take j)∧Hid (pre.map (·.1)=dec 2 4++l)∧pre.length≤30+j∧J pre wr) (fun i _=>32 - (intOf i).toNat)
   case atStart=>exact⟨0,pre,[],by omega,rfl,Lib.hid rfl,Lib.hid (by rw[List.append_nil];exact hpre.out),by have:=congrArg List.length hpre.out;rw[List.length_map,show (dec 2 4).length=30 from by decide+kernel] at this;omega,hJ⟩
   case round=>
    obtain⟨j,pre,l,hj,rfl,hl,hpre,hlen,hJ⟩:=hrel
    by_cases hlt:j<32
    ·obtain⟨x,hx⟩:∃x:Num,x.1=(64+9*(2*(j:Int)+1))*4*10000:=⟨⟨(64+9*(2*(j:Int)+1))*4*10000,by omega⟩,rfl⟩
     have hs:=decs_succ 32 10000 l j hl.out hlt
     rw[show (2*((32:Nat):Int)+9*(2*(j:Int)+1))*(128 / ((32:Nat):Int))*10000=(64+9*(2*(j:Int)+1))*4*10000 from by omega] at hs
     have E:Hid ((pre++[x]).map (·.1)=dec 2 4++(decs 32 10000).take (j+1)):=by
      rw[Hid,hs,List.map_append,hpre.out,List.append_assoc]
      rw[List.map_cons,List.map_nil,hx]
     obtain⟨fn,tmps,assign,body,hy,hR⟩:=hY pre x _ hJ (by omega)
     rw[hx] at hy
     have hR:=hR.mono (R':=fun e W'=>∃q:Bool,e= .returned (.bool q)∧Hid ((q=true∧J (pre++[x]) W')∨(q=false∧Jx (pre++[x]) W'))) (by
      rintro e W' (⟨rfl,h,_⟩ | ⟨rfl,h⟩)
      ·exact⟨true,rfl,.inl ⟨rfl,h⟩⟩
      ·exact⟨false,rfl,.inr ⟨rfl,h⟩⟩)
     clear hs hx
     gi_wp2_with fail
     refine hR.mono ?_
     rintro e W3 ⟨q,rfl,hq⟩
     cases q
     ·rcases hq.out with ⟨h,_⟩ | ⟨_,hJx3⟩
      ·cases h
      gi_wp2
      refine bodyPost_ret (results_none rfl _ _ _) rfl ?_
      exact⟨⟨_,rfl⟩,.inr ⟨_,trivial,hJx3⟩⟩
     ·rcases hq.out with ⟨_,hJ3⟩ | ⟨h,_⟩
      ·gi_wp2
       exact⟨⟨j+1,_,_,by omega,by go_num,Lib.hid rfl,E,by simp;omega,hJ3⟩,by simp[intOf];omega⟩
      ·cases h
    ·obtain rfl:j=32:=by omega
     have E:Hid (pre.map (·.1)=dec 2 5):=by
      rw[Hid,hpre.out,hl.out,List.take_of_length_le (by simp[decs])];rfl
     gi_wp2
     exact⟨⟨5,pre,64,100000,5,by omega,rfl,rfl,rfl,Lib.hid ⟨by simp,by simp,by simp⟩,E,hJ⟩,by simp[intOf]⟩
  ·obtain⟨e1,e2,e3⟩:=hnt.out
   obtain rfl:nn=64:=by simpa using e1
   obtain rfl:tt=100000:=by simpa using e2
   obtain rfl:ii=5:=by simpa using e3
   clear e1 e2 e3 hnt
   gi_wp2
   gi_loopw [10] (fun i wr=>∃(j:Nat) (pre:List Num) (l:List Int),j≤64∧i= .int .i64 j∧Hid (l=(decs 64 100000).take j)∧Hid (pre.map (·.1)=dec 2 5++l)∧pre.length≤62+j∧J pre wr) (fun i _=>64 - (intOf i).toNat)
   case atStart=>exact⟨0,pre,[],by omega,rfl,Lib.hid rfl,Lib.hid (by rw[List.append_nil];exact hpre.out),by have:=congrArg List.length hpre.out;rw[List.length_map,show (dec 2 5).length=62 from by decide+kernel] at this;omega,hJ⟩
   case round=>
    obtain⟨j,pre,l,hj,rfl,hl,hpre,hlen,hJ⟩:=hrel
    by_cases hlt:j<64
    ·obtain⟨x,hx⟩:∃x:Num,x.1=(128+9*(2*(j:Int)+1))*2*100000:=⟨⟨(128+9*(2*(j:Int)+1))*2*100000,by omega⟩,rfl⟩
     have hs:=decs_succ 64 100000 l j hl.out hlt
     rw[show (2*((64:Nat):Int)+9*(2*(j:Int)+1))*(128 / ((64:Nat):Int))*100000=(128+9*(2*(j:Int)+1))*2*100000 from by omega] at hs
     have E:Hid ((pre++[x]).map (·.1)=dec 2 5++(decs 64 100000).take (j+1)):=by
      rw[Hid,hs,List.map_append,hpre.out,List.append_assoc]
      rw[List.map_cons,List.map_nil,hx]
     obtain⟨fn,tmps,assign,body,hy,hR⟩:=hY pre x _ hJ (by omega)
     rw[hx] at hy
     have hR:=hR.mono (R':=fun e W'=>∃q:Bool,e= .returned (.bool q)∧Hid ((q=true∧J (pre++[x]) W')∨(q=false∧Jx (pre++[x]) W'))) (by
      rintro e W' (⟨rfl,h,_⟩ | ⟨rfl,h⟩)
      ·exact⟨true,rfl,.inl ⟨rfl,h⟩⟩
      ·exact⟨false,rfl,.inr ⟨rfl,h⟩⟩)
     clear hs hx
     gi_wp2_with fail
     refine hR.mono ?_
     rintro e W3 ⟨q,rfl,hq⟩
     cases q
     ·rcases hq.out with ⟨h,_⟩ | ⟨_,hJx3⟩
      ·cases h
      gi_wp2
      refine bodyPost_ret (results_none rfl _ _ _) rfl ?_
      exact⟨⟨_,rfl⟩,.inr ⟨_,trivial,hJx3⟩⟩
     ·rcases hq.out with ⟨_,hJ3⟩ | ⟨h,_⟩
      ·gi_wp2
       exact⟨⟨j+1,_,_,by omega,by go_num,Lib.hid rfl,E,by simp;omega,hJ3⟩,by simp[intOf];omega⟩
      ·cases h
    ·obtain rfl:j=64:=by omega
     have E:Hid (pre.map (·.1)=dec 2 6):=by
      rw[Hid,hpre.out,hl.out,List.take_of_length_le (by simp[decs])];rfl
     gi_wp2
     exact⟨⟨6,pre,128,1000000,6,by omega,rfl,rfl,rfl,Lib.hid ⟨by simp,by simp,by simp⟩,E,hJ⟩,by simp[intOf]⟩
  ·obtain⟨e1,e2,e3⟩:=hnt.out
   obtain rfl:nn=128:=by simpa using e1
   obtain rfl:tt=1000000:=by simpa using e2
   obtain rfl:ii=6:=by simpa using e3
   clear e1 e2 e3 hnt
   gi_wp2
   gi_loopw [10] (fun i wr=>∃(j:Nat) (pre:List Num) (l:List Int),j≤128∧i= .int .i64 j∧Hid (l=(decs 128 1000000).take j)∧Hid (pre.map (·.1)=dec 2 6++l)∧pre.length≤126+j∧J pre wr) (fun i _=>128 - (intOf i).toNat)
   case atStart=>exact⟨0,pre,[],by omega,rfl,Lib.hid rfl,Lib.hid (by rw[List.append_nil];exact hpre.out),by have:=congrArg List.length hpre.out;rw[List.length_map,show (dec 2 6).length=126 from by decide+kernel] at this;omega,hJ⟩
   case round=>
    obtain⟨j,pre,l,hj,rfl,hl,hpre,hlen,hJ⟩:=hrel
    by_cases hlt:j<128
    ·obtain⟨x,hx⟩:∃x:Num,x.1=(256+9*(2*(j:Int)+1))*1000000:=⟨⟨(256+9*(2*(j:Int)+1))*1000000,by omega⟩,rfl⟩
     have hs:=decs_succ 128 1000000 l j hl.out hlt
     rw[show (2*((128:Nat):Int)+9*(2*(j:Int)+1))*(128 / ((128:Nat):Int))*1000000=(256+9*(2*(j:Int)+1))*1000000 from by omega] at hs
     have E:Hid ((pre++[x]).map (·.1)=dec 2 6++(decs 128 1000000).take (j+1)):=by
      rw[Hid,hs,List.map_append,hpre.out,List.append_assoc]
      rw[List.map_cons,List.map_nil,hx]
     obtain⟨fn,tmps,assign,body,hy,hR⟩:=hY pre x _ hJ (by omega)
     rw[hx] at hy
     have hR:=hR.mono (R':=fun e W'=>∃q:Bool,e= .returned (.bool q)∧Hid ((q=true∧J (pre++[x]) W')∨(q=false∧Jx (pre++[x]) W'))) (by
      rintro e W' (⟨rfl,h,_⟩ | ⟨rfl,h⟩)
      ·exact⟨true,rfl,.inl ⟨rfl,h⟩⟩
      ·exact⟨false,rfl,.inr ⟨rfl,h⟩⟩)
     clear hs hx
     gi_wp2_with fail
     refine hR.mono ?_
     rintro e W3 ⟨q,rfl,hq⟩
     cases q
     ·rcases hq.out with ⟨h,_⟩ | ⟨_,hJx3⟩
      ·cases h
      gi_wp2
      refine bodyPost_ret (results_none rfl _ _ _) rfl ?_
      exact⟨⟨_,rfl⟩,.inr ⟨_,trivial,hJx3⟩⟩
     ·rcases hq.out with ⟨_,hJ3⟩ | ⟨h,_⟩
      ·gi_wp2
       exact⟨⟨j+1,_,_,by omega,by go_num,Lib.hid rfl,E,by simp;omega,hJ3⟩,by simp[intOf];omega⟩
      ·cases h
    ·obtain rfl:j=128:=by omega
     have E:Hid (pre.map (·.1)=dec 2 7):=by
      rw[Hid,hpre.out,hl.out,List.take_of_length_le (by simp[decs])];rfl
     gi_wp2
     exact⟨⟨7,pre,256,10000000,7,by omega,rfl,rfl,rfl,Lib.hid ⟨by simp,by simp,by simp⟩,E,hJ⟩,by simp[intOf]⟩
  ·obtain⟨e1,e2,e3⟩:=hnt.out
   obtain rfl:ii=7:=by simpa using e3
   clear e1 e2 e3 hnt
   gi_wp2
   go_end0
   exact⟨⟨_,rfl⟩,.inl ⟨_,hpre.out,hJ⟩⟩
end Go.Proofs.YtdnjdglekifhpaaGreat
namespace Go.Proofs
open Go.Shelf
def Tryz.laysSort_ren:Go.Shelf.Ren:=⟨fun | 53=>181 | 64=>228 | 63=>227 | 78=>255 | 79=>233 | 70=>246 | 71=>247 | 72=>248 | 73=>249 | 74=>250 | 75=>251 | 59=>252 | 76=>253 | 77=>254 | 88=>261 | 89=>262 | 90=>263 | 91=>264 | 92=>265 | 68=>266 | 96=>269 | n=>n,fun | 22=>62 | 23=>2 | 3=>3 | 51=>225 | 0=>0 | 67=>254 | 69=>141 | 4=>4 | 61=>246 | 60=>245 | 44=>251 | 5=>5 | 9=>9 | 75=>260 | 79=>264 | 83=>269 | 84=>270 | n=>n,fun | n=>n⟩
theorem Tryz.laysSort:Go.Proofs.SlLaysN.n53 Tryz.prog Tryz.laysSort_ren:={
 mixed:=by kernel_rfl
 f53:=⟨Tryz.f181.name,of_decide_eq_true (by kernel_rfl),Tryz.func181.trans (congrArg some (by kernel_rfl))⟩
 f59:=⟨Tryz.f252.name,of_decide_eq_true (by kernel_rfl),Tryz.func252.trans (congrArg some (by kernel_rfl))⟩
 f63:=⟨Tryz.f227.name,of_decide_eq_true (by kernel_rfl),Tryz.func227.trans (congrArg some (by kernel_rfl))⟩
 f64:=Tryz.func228.trans (congrArg some (by kernel_rfl))
 f68:=⟨Tryz.f266.name,of_decide_eq_true (by kernel_rfl),Tryz.func266.trans (congrArg some (by kernel_rfl))⟩
 f70:=⟨Tryz.f246.name,of_decide_eq_true (by kernel_rfl),Tryz.func246.trans (congrArg some (by kernel_rfl))⟩
 f71:=⟨Tryz.f247.name,of_decide_eq_true (by kernel_rfl),Tryz.func247.trans (congrArg some (by kernel_rfl))⟩
 f72:=⟨Tryz.f248.name,of_decide_eq_true (by kernel_rfl),Tryz.func248.trans (congrArg some (by kernel_rfl))⟩
 f73:=⟨Tryz.f249.name,of_decide_eq_true (by kernel_rfl),Tryz.func249.trans (congrArg some (by kernel_rfl))⟩
 f74:=⟨Tryz.f250.name,of_decide_eq_true (by kernel_rfl),Tryz.func250.trans (congrArg some (by kernel_rfl))⟩
 f75:=⟨Tryz.f251.name,of_decide_eq_true (by kernel_rfl),Tryz.func251.trans (congrArg some (by kernel_rfl))⟩
 f76:=⟨Tryz.f253.name,of_decide_eq_true (by kernel_rfl),Tryz.func253.trans (congrArg some (by kernel_rfl))⟩
 f77:=⟨Tryz.f254.name,of_decide_eq_true (by kernel_rfl),Tryz.func254.trans (congrArg some (by kernel_rfl))⟩
 f78:=Tryz.func255.trans (congrArg some (by kernel_rfl))
 f79:=Tryz.func233.trans (congrArg some (by kernel_rfl))
 f88:=⟨Tryz.f261.name,of_decide_eq_true (by kernel_rfl),Tryz.func261.trans (congrArg some (by kernel_rfl))⟩
 f89:=Tryz.func262.trans (congrArg some (by kernel_rfl))
 f90:=Tryz.func263.trans (congrArg some (by kernel_rfl))
 f91:=⟨Tryz.f264.name,of_decide_eq_true (by kernel_rfl),Tryz.func264.trans (congrArg some (by kernel_rfl))⟩
 f92:=⟨Tryz.f265.name,of_decide_eq_true (by kernel_rfl),Tryz.func265.trans (congrArg some (by kernel_rfl))⟩
 f96:=⟨Tryz.f269.name,of_decide_eq_true (by kernel_rfl),Tryz.func269.trans (congrArg some (by kernel_rfl))⟩
 t0:=Tryz.underlying0
 a0:=Tryz.isAgg0
 z0:=Tryz.sizeOf0
 v0:=Tryz.zeroValue0
 t3:=Tryz.underlying3
 a3:=Tryz.isAgg3
 z3:=Tryz.sizeOf3
 v3:=Tryz.zeroValue3
 t4:=Tryz.underlying4
 a4:=Tryz.isAgg4
 z4:=Tryz.sizeOf4
 v4:=Tryz.zeroValue4
 t5:=Tryz.underlying5
 a5:=Tryz.isAgg5
 z5:=Tryz.sizeOf5
 v5:=Tryz.zeroValue5
 t9:=Tryz.underlying9
 a9:=Tryz.isAgg9
 z9:=Tryz.sizeOf9
 v9:=Tryz.zeroValue9
 t22:=Tryz.underlying62
 a22:=Tryz.isAgg62
 z22:=Tryz.sizeOf62
 v22:=Tryz.zeroValue62
 t23:=Tryz.underlying2
 a23:=Tryz.isAgg2
 z23:=Tryz.sizeOf2
 v23:=Tryz.zeroValue2
 t44:=Tryz.underlying251
 a44:=Tryz.isAgg251
 z44:=Tryz.sizeOf251
 v44:=Tryz.zeroValue251
 t51:=Tryz.underlying225
 a51:=Tryz.isAgg225
 z51:=Tryz.sizeOf225
 v51:=Tryz.zeroValue225
 t60:=Tryz.underlying245
 a60:=Tryz.isAgg245
 z60:=Tryz.sizeOf245
 v60:=Tryz.zeroValue245
 t61:=Tryz.underlying246
 a61:=Tryz.isAgg246
 z61:=Tryz.sizeOf246
 v61:=Tryz.zeroValue246
 t67:=Tryz.underlying254
 a67:=Tryz.isAgg254
 z67:=Tryz.sizeOf254
 v67:=Tryz.zeroValue254
 t69:=Tryz.underlying141
 a69:=Tryz.isAgg141
 z69:=Tryz.sizeOf141
 v69:=Tryz.zeroValue141
 t75:=Tryz.underlying260
 a75:=Tryz.isAgg260
 z75:=Tryz.sizeOf260
 v75:=Tryz.zeroValue260
 t79:=Tryz.underlying264
 a79:=Tryz.isAgg264
 z79:=Tryz.sizeOf264
 v79:=Tryz.zeroValue264
 t83:=Tryz.underlying269
 a83:=Tryz.isAgg269
 z83:=Tryz.sizeOf269
 v83:=Tryz.zeroValue269
 t84:=Tryz.underlying270
 a84:=Tryz.isAgg270
 z84:=Tryz.sizeOf270
 v84:=Tryz.zeroValue270 }
end Go.Proofs
namespace Go.Proofs.YtdnjdglekifhpaaGreat
open Go.RowKit Go.Shelf Go.Lib Go.Sort
theorem sort_any (blk off cap:Nat) (zs:List Int) (w:World) (hH:Holds (Value.int .i64) w blk off zs.toArray) (hblk:blk<w.heap.size) (hsz:zs.length<4611686018427387904):
 Calls Tryz.prog 181 #[.slice (some ⟨blk,off,none⟩) zs.length cap] w fun e w'=>
  e= .returned (.tuple #[])∧∃n os,w'=grow (putRow (Value.int .i64) (Sort.ahead w n) blk off (zs.mergeSort fun x y=>decide (x≤y)).toArray) os:=
 AnyG.slices_Sort_int Tryz.laysSort blk off cap zs w hH hblk hsz
end Go.Proofs.YtdnjdglekifhpaaGreat
namespace Go.Proofs.YtdnjdglekifhpaaGreat
open Go.RowKit Go.Shelf
attribute [local go_sem] Oper.semAt_some
def sgn (k:Int):Bool:=k == 0 || k == 2
def den (k:Int):Int:=if k=0∨k=1 then 2560000000 else if k=2∨k=3 then 255 else 0
theorem kind_cases (k:Int):k=0∨k=1∨k=2∨k=3∨((k == 0)=false∧(k == 1)=false∧(k == 2)=false∧(k == 3)=false):=by
 simp only[beq_eq_false_iff_ne];omega
theorem signed_any (k:Int) (w:World):Calls Tryz.prog 159 #[.int .i64 k] w fun e w'=>e= .returned (.bool (sgn k))∧w=w':=by
 rcases kind_cases k with rfl | rfl | rfl | rfl | ⟨h0,h1,h2,h3⟩
 all_goals
  go_enter Tryz.func159,Tryz.ntmps159
  go_wp2
  go_ret
 all_goals first | exact⟨rfl,rfl⟩ | exact⟨ret_bool (by simp[sgn,h0,h2]),rfl⟩
theorem den_any (k:Int) (w:World):Calls Tryz.prog 59 #[.int .i64 k] w fun e w'=>e= .returned (.int .i64 (den k))∧w=w':=by
 rcases kind_cases k with rfl | rfl | rfl | rfl | ⟨h0,h1,h2,h3⟩
 all_goals
  go_enter Tryz.func59,Tryz.ntmps59
  go_wp2
  go_ret
 all_goals first | exact⟨rfl,rfl⟩ | exact⟨ret_int (by simp at h0 h1 h2 h3;simp[den,h0,h1,h2,h3]),rfl⟩
theorem decade_any (b:Bool) (w:World):Calls Tryz.prog 180 #[.bool b] w fun e w'=>e= .returned (.func (.func 226) #[] #[.pointer (some ⟨w.heap.size,0,none⟩)])∧w'=w.alloc (.cells #[.bool b] 4):=by
 have hmf:∀(fn:Fn) (first cap:Array Value) (w:World),(Instr.makeFunc fn first cap).run Tryz.prog w= .ok (.func fn first cap) w:=fun _ _ _ _=>rfl
 go_enter Tryz.func180,Tryz.ntmps180
 go_wp2
 go_ret
 exact⟨rfl,rfl⟩
end Go.Proofs.YtdnjdglekifhpaaGreat
namespace Go.Proofs.YtdnjdglekifhpaaGreat
open Go.RowKit Go.Shelf Go.Sort
theorem sort_own (base:Nat) (v:Value) (l:List Int) (w:World) (hown:w.ownsRow base 2 1 v l.length (is l)) (h0:0<l.length) (hlen:l.length≤1000000):
 Calls Tryz.prog 181 #[v] w fun e w'=>e= .returned (.tuple #[])∧IsI w' v (l.mergeSort fun x y=>decide (x≤y))∧w.grownBy w' v.ownBlock:=by
 have hown0:=hown
 rcases hown.2 with ⟨_,h⟩ | ⟨g,cap,cur,rfl,hb,hh,hn,hcap,hs,ht⟩
 ·omega
 ·have hg:g<w.heap.size:=(Array.getElem?_eq_some_iff.1 hh).1
  have hH:Holds (Value.int .i64) w g 0 l.toArray:=fun j hj=>by
   have hj':j<l.length:=by simpa using hj
   refine ⟨?_,hown0.frozenAt _⟩
   rw[Nat.zero_add,hown0.cellAt j (by omega),is_at l j hj']
   simp[iat,hj']
  refine (sort_any g 0 cap l w hH hg (by omega)).mono ?_
  rintro e w' ⟨rfl,n,os,rfl⟩
  have hsz:(putRow (Value.int .i64) (Sort.ahead w n) g 0 (l.mergeSort fun x y=>decide (x≤y)).toArray).heap.size=w.heap.size:=by
   simp[putRow,mapBlock,Sort.ahead]
  have hms:(l.mergeSort fun x y=>decide (x≤y)).length=l.length:=List.length_mergeSort _
  refine ⟨rfl,⟨some ⟨g,0,none⟩,cap,by rw[hms],by omega,hcap,by rw[is_len];omega,fun _=>⟨_,rfl,?_,fun j u hu=>?_⟩⟩,?_⟩
  ·show g<(grow _ os).heap.size
   simp only[grow,Array.size_append];omega
  ·have hj:j<l.length:=by
    rcases Nat.lt_or_ge j l.length with h' | h'
    ·exact h'
    ·rw[List.getElem?_eq_none (by rw[is_len];omega)] at hu;cases hu
   have e:Addr.add ⟨g,0,none⟩ j=⟨g,j,none⟩:=by unfold Addr.add;split<;>simp_all
   rw[e,cell?_grow _ _ _ (by rw[hsz];exact hg)]
   have hc:=cell?_putRow (Value.int .i64) (Sort.ahead w n) g 0 l.toArray (l.mergeSort fun x y=>decide (x≤y)).toArray (holds_ahead _ w n g 0 _ hH) (by simp) j (by simpa using hj)
   rw[Nat.zero_add] at hc
   rw[hc,←hu,is_at _ j (by omega)]
   simp[iat,hms,hj]
  ·refine ⟨rfl,rfl,rfl,?_,fun i hi hne=>?_⟩
   ·show w.heap.size≤(grow _ os).heap.size
    simp only[grow,Array.size_append];omega
   ·have hig:i≠g:=fun e=>hne (by rw[e];rfl)
    rw[heap_grow_old _ _ (by rw[hsz];exact hi)]
    simp[putRow,mapBlock,Sort.ahead,Array.getElem?_modify,Ne.symm hig]
end Go.Proofs.YtdnjdglekifhpaaGreat
namespace Go.Proofs.YtdnjdglekifhpaaGreat
open Go.RowKit Go.Shelf
theorem bx_far {W:World} {C B:Nat} {t:TypeId} {u x:Value} (h:Boxed W C t u) (hne:C≠B):Boxed (W.setCell ⟨B,0,none⟩ x) C t u:=(Below.heap_setCell W ⟨B,0,none⟩ x C hne).trans h
theorem bx_low {W w1:World} {b₁ C:Nat} {t:TypeId} {u:Value} (h:Boxed W C t u) (hb:Below b₁ W w1) (hC:C<b₁):Boxed w1 C t u:=(hb.block C hC).trans h
theorem bx_kept {W W':World} {row:Option Nat} {B:Nat} {t:TypeId} {v:Value} (h:Boxed W B t v) (hg:W.grownBy W' row) (hr:∀r,row=some r→∃o:Obj,W.heap[r]?=some o∧o.isCells=false):Boxed W' B t v:=
 h.kept hg (fun e=>by obtain⟨o,ho,hc⟩:=hr B e.symm;rw[show W.heap[B]?=_ from h] at ho;cases ho;cases hc)
theorem bx_app {W w1:World} {b₁:Nat} {e:TypeId} {v:Value} {k:Nat} {xs:List Value} {tmp:Obj} (hrow:W.ownsRow b₁ e 1 v k xs) (hb₁:b₁≤W.heap.size) (hgrow:(W.alloc tmp).grownBy w1 v.ownBlock):
 Below b₁ W w1∧KeepsOthers W w1:=by
 refine ⟨((Below.refl b₁ W).alloc hb₁ tmp).grown hgrow (by simp;omega) fun j ej=>(hrow.lt j ej).1,(KeepsOthers.alloc W tmp).trans (KeepsOthers.of_grownBy hgrow fun j o ej hj=>?_)⟩
 rcases (hrow.alloc tmp).2 with ⟨rfl,_⟩ | ⟨g,cap,cur,rfl,_,hgb,_⟩
 ·simp[Value.ownBlock] at ej
 ·obtain rfl:g=j:=by simpa [Value.ownBlock] using ej
  rw[hgb] at hj;cases hj;rfl
theorem book_none (k:Int) (w:World) (h0:(k == 0)=false) (h1:(k == 1)=false) (h2:(k == 2)=false) (h3:(k == 3)=false):
 Calls Tryz.prog 123 #[.int .i64 k] w fun e w'=>e= .returned (.tuple #[.slice none 0 0,.int .i64 1])∧Below w.heap.size w w':=by
 go_enter Tryz.func123,Tryz.ntmps123
 go_wp2
 go_ret2
 exact⟨rfl,((Below.refl _ w).alloc (Nat.le_refl _) _).alloc (by simp) _⟩
theorem laid2_take (m:Nat) (hm:m<256):(laid 2).take (m+1)=(laid 2).take m++[2*(m:Int) - 255]:=by
 have hl:(laid 2).length=256:=by decide+kernel
 rw[List.take_succ_eq_append_getElem (by omega)]
 simp[laid]
theorem book_2 (w:World):
 Calls Tryz.prog 123 #[.int .i64 2] w fun e w'=>∃v,e= .returned (.tuple #[v,.int .i64 0])∧IsI w' v (bk 2)∧Below w.heap.size w w':=by
 have bK:=Boxed.new w 3 (.int .i64 2)
 have bO:=Boxed.new (w.alloc (.cells #[.int .i64 2] 3)) 62 (.slice none 0 0)
 rw[World.size_alloc] at bO
 have hB0:Below w.heap.size w ((w.alloc (.cells #[.int .i64 2] 3)).alloc (.cells #[.slice none 0 0] 62)):=((Below.refl _ w).alloc (Nat.le_refl _) _).alloc (by simp) _
 go_enter Tryz.func123,Tryz.ntmps123
 go_wp2
 go_loopw [32] (fun i wr=>∃(m:Nat) (v:Value) (l:List Int),m≤256∧i= .int .i64 m∧Hid (l=(laid 2).take m)∧l.length≤m∧Boxed wr w.heap.size 3 (.int .i64 2)∧Boxed wr (w.heap.size+1) 62 v∧wr.ownsRow (w.heap.size+2) 2 1 v l.length (is l)∧Below w.heap.size w wr∧w.heap.size+2≤wr.heap.size) (fun i _=>256 - (intOf i).toNat)
 case atStart=>exact⟨0,_,[],by omega,rfl,Lib.hid rfl,Nat.le_refl _,bK.alloc _,bO,World.ownsRow_nil _ _ _ _,hB0,by simp⟩
 case round=>
  obtain⟨m,v,l,hm,rfl,hl,hll,hK,hO,hown,hB,hsz⟩:=hrel
  have cK:=hK.cell
  have cO:=hO.cell
  by_cases hlt:m<256
  ·have E:Hid ((laid 2).take (m+1)=l++[2*(m:Int) - 255]):=by rw[Hid,laid2_take m hlt,hl.out]
   go_wp2_with fail
   refine (show Calls Tryz.prog 159 #[.int .i64 2] wr (fun e w'=>e= .returned (.bool true)∧wr=w') from signed_any 2 wr).mono ?_
   rintro e w1 ⟨rfl,rfl⟩
   go_wp2_with (at_builtin;go_must (refine wpList_app1 _ rfl _ _ 62 2 (.int .i64 0) 8 rfl Tryz.underlying62 info_i64 rfl (w.heap.size+2) (.int .i64 (2*(m:Int) - 255)) rfl _ l.length (is l) rfl (hown.alloc _) ⟨wr.heap.size,0,none⟩ rfl (by simp) (by omega) (by omega) (by simp;omega) ?_;intro v' w1 hown' hgrow;obtain⟨g',cap',rfl⟩:=ownsRow_succ hown';obtain⟨hbl,hko⟩:=bx_app hown hsz hgrow;have hK1:=bx_low hK hbl (by omega);have hO1:=bx_low hO hbl (by omega);have cO1:=hO1.cell;have fO1:=hO1.frozen))
   refine ⟨⟨m+1,_,l++[2*(m:Int) - 255],by omega,by go_num,E.out.symm,by simp;omega,bx_far hK1 (by omega),hO1.set _,?_,?_,?_⟩,by simp[intOf];omega⟩
   ·rw[is_snoc,List.length_append,List.length_singleton]
    exact ownsRow_setCell_below hown' (by show w.heap.size+1<w.heap.size+2;omega) _
   ·exact (hB.trans (hbl.mono (by omega))).setCell (p:=⟨w.heap.size+1,0,none⟩) (by simp) _
   ·have:=hbl.size;simp[World.setCell];omega
  ·obtain rfl:m=256:=by omega
   have hL:l=laid 2:=by
    have:=hl.out
    rwa [List.take_of_length_le (by decide+kernel)] at this
   have hS:=sort_own _ v l wr hown (by rw[hL];decide+kernel) (by omega)
   rw[show l.mergeSort (fun x y=>decide (x≤y))=bk 2 from by rw[hL];exact sort_laid 2 (by omega)] at hS
   have S:=Lib.hid hS
   clear hS hL
   go_wp2_with fail
   refine S.out.mono ?_
   rintro e w1 ⟨rfl,hI,hgr⟩
   have hO1:=hO.kept hgr (fun e=>by have:=(hown.lt _ e.symm).1;omega)
   have cO1:=hO1.cell
   go_wp2
   go_ret2
   exact⟨_,rfl,hI,hB.grown hgr hB.size (fun j e=>by have:=(hown.lt j e).1;omega)⟩
theorem laid3_take (m:Nat) (hm:m<256):(laid 3).take (m+1)=(laid 3).take m++[(m:Int)]:=by
 have hl:(laid 3).length=256:=by decide+kernel
 rw[List.take_succ_eq_append_getElem (by omega)]
 simp[laid]
theorem book_3 (w:World):
 Calls Tryz.prog 123 #[.int .i64 3] w fun e w'=>∃v,e= .returned (.tuple #[v,.int .i64 0])∧IsI w' v (bk 3)∧Below w.heap.size w w':=by
 have bK:=Boxed.new w 3 (.int .i64 3)
 have bO:=Boxed.new (w.alloc (.cells #[.int .i64 3] 3)) 62 (.slice none 0 0)
 rw[World.size_alloc] at bO
 have hB0:Below w.heap.size w ((w.alloc (.cells #[.int .i64 3] 3)).alloc (.cells #[.slice none 0 0] 62)):=((Below.refl _ w).alloc (Nat.le_refl _) _).alloc (by simp) _
 go_enter Tryz.func123,Tryz.ntmps123
 go_wp2
 go_loopw [32] (fun i wr=>∃(m:Nat) (v:Value) (l:List Int),m≤256∧i= .int .i64 m∧Hid (l=(laid 3).take m)∧l.length≤m∧Boxed wr w.heap.size 3 (.int .i64 3)∧Boxed wr (w.heap.size+1) 62 v∧wr.ownsRow (w.heap.size+2) 2 1 v l.length (is l)∧Below w.heap.size w wr∧w.heap.size+2≤wr.heap.size) (fun i _=>256 - (intOf i).toNat)
 case atStart=>exact⟨0,_,[],by omega,rfl,Lib.hid rfl,Nat.le_refl _,bK.alloc _,bO,World.ownsRow_nil _ _ _ _,hB0,by simp⟩
 case round=>
  obtain⟨m,v,l,hm,rfl,hl,hll,hK,hO,hown,hB,hsz⟩:=hrel
  have cK:=hK.cell
  have cO:=hO.cell
  by_cases hlt:m<256
  ·have E:Hid ((laid 3).take (m+1)=l++[(m:Int)]):=by rw[Hid,laid3_take m hlt,hl.out]
   go_wp2_with fail
   refine (show Calls Tryz.prog 159 #[.int .i64 3] wr (fun e w'=>e= .returned (.bool false)∧wr=w') from signed_any 3 wr).mono ?_
   rintro e w1 ⟨rfl,rfl⟩
   go_wp2_with (at_builtin;go_must (refine wpList_app1 _ rfl _ _ 62 2 (.int .i64 0) 8 rfl Tryz.underlying62 info_i64 rfl (w.heap.size+2) (.int .i64 ((m:Int))) rfl _ l.length (is l) rfl (hown.alloc _) ⟨wr.heap.size,0,none⟩ rfl (by simp) (by omega) (by omega) (by simp;omega) ?_;intro v' w1 hown' hgrow;obtain⟨g',cap',rfl⟩:=ownsRow_succ hown';obtain⟨hbl,hko⟩:=bx_app hown hsz hgrow;have hK1:=bx_low hK hbl (by omega);have hO1:=bx_low hO hbl (by omega);have cO1:=hO1.cell;have fO1:=hO1.frozen))
   refine ⟨⟨m+1,_,l++[(m:Int)],by omega,by go_num,E.out.symm,by simp;omega,bx_far hK1 (by omega),hO1.set _,?_,?_,?_⟩,by simp[intOf];omega⟩
   ·rw[is_snoc,List.length_append,List.length_singleton]
    exact ownsRow_setCell_below hown' (by show w.heap.size+1<w.heap.size+2;omega) _
   ·exact (hB.trans (hbl.mono (by omega))).setCell (p:=⟨w.heap.size+1,0,none⟩) (by simp) _
   ·have:=hbl.size;simp[World.setCell];omega
  ·obtain rfl:m=256:=by omega
   have hL:l=laid 3:=by
    have:=hl.out
    rwa [List.take_of_length_le (by decide+kernel)] at this
   have hS:=sort_own _ v l wr hown (by rw[hL];decide+kernel) (by omega)
   rw[show l.mergeSort (fun x y=>decide (x≤y))=bk 3 from by rw[hL];exact sort_laid 3 (by omega)] at hS
   have S:=Lib.hid hS
   clear hS hL
   go_wp2_with fail
   refine S.out.mono ?_
   rintro e w1 ⟨rfl,hI,hgr⟩
   have hO1:=hO.kept hgr (fun e=>by have:=(hown.lt _ e.symm).1;omega)
   have cO1:=hO1.cell
   go_wp2
   go_ret2
   exact⟨_,rfl,hI,hB.grown hgr hB.size (fun j e=>by have:=(hown.lt j e).1;omega)⟩
end Go.Proofs.YtdnjdglekifhpaaGreat
namespace Go.Proofs.YtdnjdglekifhpaaGreat
open Go.RowKit Go.Shelf
attribute [local go_sem] Oper.semAt_some
theorem cell_two_new (w:World) (a b:Value) (t:TypeId):∀j u,[a,b][j]?=some u→(w.alloc (.cells #[a,b] t)).cell? (Addr.add ⟨w.heap.size,0,none⟩ j)=some u:=by
 intro j u hu
 have hb:(Addr.add ⟨w.heap.size,0,none⟩ j)=⟨w.heap.size,j,none⟩:=by unfold Addr.add;split<;>simp_all
 rw[hb,World.cell?_alloc_at _ _ _ _ rfl]
 rcases j with _ | _ | j<;>simp_all
theorem IsI.putObj {W:World} {v:Value} {l:List Int} (h:IsI W v l) {D:Nat} {o:Obj} (hD:W.heap[D]?=some o) (ho:o.isCells=false):IsI (W.putObj D (.deferred none)) v l:=by
 obtain⟨A,c,e,h1,h2,h4⟩:=h
 refine ⟨A,c,e,h1,h2,h4.1,fun hn=>?_⟩
 obtain⟨ad,e1,e2,e3⟩:=h4.2 hn
 have hg:=grownBy_putObj' W D (.deferred none)
 refine ⟨ad,e1,Nat.lt_of_lt_of_le e2 hg.size,fun j u hu=>?_⟩
 rw[←e3 j u hu]
 have hb:(ad.add j).block<W.heap.size:=by rw[block_of_add];exact e2
 refine World.cell?_of_block (hg.block _ hb (fun e=>?_))
 have hDj:D=(ad.add j).block:=by injection e with e;exact e.symm
 have hc:=e3 j u hu
 rw[hDj] at hD
 cases o<;>simp_all [World.cell?,Obj.isCells]
theorem stops_s (Bs:Nat) (w:World) (hB:Bs<w.heap.size) (h:w.cell? ⟨Bs,0,none⟩=some (.bool true)):
 SeqStopsK Fence.wide 8 Tryz.prog 226 #[.pointer (some ⟨Bs,0,none⟩)] (fun x:Num=> #[Value.int .i64 x.1]) (fun _ _=>True) (fun ys=>ys.map (·.1)=dec 1 7) (fun _=>True) 254 w:=fun lr J Jx W hW _ _ hY h0=>
 dec1_in_s lr Bs J Jx hY W ((hW.cell (p:=⟨Bs,0,none⟩) hB).trans h) h0
theorem stops_u (Bs:Nat) (w:World) (hB:Bs<w.heap.size) (h:w.cell? ⟨Bs,0,none⟩=some (.bool false)):
 SeqStopsK Fence.wide 8 Tryz.prog 226 #[.pointer (some ⟨Bs,0,none⟩)] (fun x:Num=> #[Value.int .i64 x.1]) (fun _ _=>True) (fun ys=>ys.map (·.1)=dec 2 7) (fun _=>True) 254 w:=fun lr J Jx W hW _ _ hY h0=>
 dec1_in_u lr Bs J Jx hY W ((hW.cell (p:=⟨Bs,0,none⟩) hB).trans h) h0
def acc0 (pre:List Num):List Int:=[0,2560000000]++both (pre.map (·.1))
def acc1 (pre:List Num):List Int:=[0,2560000000]++pre.map (·.1)
theorem acc0_snoc (pre:List Num) (x:Num):acc0 (pre++[x])=(acc0 pre++[x.1])++[-x.1]:=by simp[acc0,both_snoc]
theorem acc1_snoc (pre:List Num) (x:Num):acc1 (pre++[x])=acc1 pre++[x.1]:=by simp[acc1]
theorem both_len (l:List Int):(both l).length=2*l.length:=by
 induction l with
 | nil=>rfl
 | cons x r ih=>simp[both,ih];omega
theorem row_ko {W w1:World} {b₁:Nat} {e:TypeId} {v:Value} {k:Nat} {xs:List Value} (hrow:W.ownsRow b₁ e 1 v k xs) (hgrow:W.grownBy w1 v.ownBlock):KeepsOthers W w1:=by
 refine KeepsOthers.of_grownBy hgrow fun j o ej hj=>?_
 rcases hrow.2 with ⟨rfl,_⟩ | ⟨g,cap,cur,rfl,_,hgb,_⟩
 ·simp[Value.ownBlock] at ej
 ·obtain rfl:g=j:=by simpa [Value.ownBlock] using ej
  rw[hgb] at hj;cases hj;rfl
theorem acc0_all:[0,2560000000]++both (dec 1 7)=laid 0:=rfl
theorem acc1_all:[0,2560000000]++dec 2 7=laid 1:=rfl
theorem acc0_len (pre:List Num):(acc0 pre).length=2+2*pre.length:=by simp[acc0,both_len];omega
theorem acc1_len (pre:List Num):(acc1 pre).length=2+pre.length:=by simp[acc1];omega
theorem book_0_in (w:World):
 CallsIn Fence.wide 9 Tryz.prog 123 #[.int .i64 0] w fun e w'=>∃v,e= .returned (.tuple #[v,.int .i64 0])∧IsI w' v (bk 0)∧Below w.heap.size w w':=by
 obtain⟨i0,hi,hz0,hz1,hz2⟩:=info_parts info_i64
 have bK:=Boxed.new w 3 (.int .i64 0)
 have bO:=Boxed.new (w.alloc (.cells #[.int .i64 0] 3)) 62 (.slice none 0 0)
 rw[World.size_alloc] at bO
 have bK:=bK.alloc (.cells #[.slice none 0 0] 62)
 have hB0:Below w.heap.size w ((w.alloc (.cells #[.int .i64 0] 3)).alloc (.cells #[.slice none 0 0] 62)):=((Below.refl _ w).alloc (Nat.le_refl _) _).alloc (by simp) _
 refine callsIn_of_wp_marks Tryz.func123 rfl trivial ?_ rfl
 simp only[Tryz.ntmps123,List.size_toArray,List.length_cons,List.length_nil,Nat.reduceAdd,Nat.reduceSub,Array.replicate_succ,Array.replicate_zero,List.push_toArray,List.append_toArray,List.nil_append,List.cons_append]
 obtain⟨Wa,hWa⟩:∃Wa,Wa=(w.alloc (.cells #[.int .i64 0] 3)).alloc (.cells #[.slice none 0 0] 62):=⟨_,rfl⟩
 have hsa:Wa.heap.size=w.heap.size+2:=by rw[hWa];simp
 rw[←hWa] at bK bO hB0
 have cK:=bK.cell
 have cO:=bO.cell
 have hrow0:Wa.ownsRow (w.heap.size+2) 2 1 (.slice none 0 0) 0 []:=World.ownsRow_nil _ _ _ _
 gi_wp2_with (gi_at_builtin;go_must (rw[←hWa];refine wpListIn_append_own _ rfl _ _ 62 rfl (w.heap.size+2) 2 i0 (.int .i64 0) 1 8 Tryz.underlying62 hi hz0 hz1 hz2 rfl (by decide) _ _ _ rfl (hrow0.alloc _) ⟨w.heap.size+2,0,none⟩ 2 2 [.int .i64 0,.int .i64 2560000000] rfl rfl (by rw[←hsa];exact cell_two_new _ _ _ _) (by simp[Value.oneCell']) (by unfold maxLen;omega) (by omega) (by simp;omega) ?_;intro v' w1 hown' hgrow _;obtain⟨g',cap',rfl⟩:=ownsRow_succ hown';obtain⟨hbl,hko⟩:=bx_app hrow0 (by omega) hgrow;have hK1:=bx_low bK hbl (by omega);have hO1:=bx_low bO hbl (by omega);have cK1:=hK1.cell;have cO1:=hO1.cell;have fO1:=hO1.frozen))
 have hO2:=hO1.set (.slice (some ⟨g',0,none⟩) 2 cap')
 have hK2:Boxed (w1.setCell ⟨w.heap.size+1,0,none⟩ (.slice (some ⟨g',0,none⟩) 2 cap')) w.heap.size 3 (.int .i64 0):=bx_far hK1 (by omega)
 have hrow2:=ownsRow_setCell_below hown' (a:=⟨w.heap.size+1,0,none⟩) (by show w.heap.size+1<w.heap.size+2;omega) (.slice (some ⟨g',0,none⟩) 2 cap')
 have hB2:Below w.heap.size w (w1.setCell ⟨w.heap.size+1,0,none⟩ (.slice (some ⟨g',0,none⟩) 2 cap')):=(hB0.trans (hbl.mono (by omega))).setCell (p:=⟨w.heap.size+1,0,none⟩) (by simp) _
 have hs2:w.heap.size+2≤(w1.setCell ⟨w.heap.size+1,0,none⟩ (.slice (some ⟨g',0,none⟩) 2 cap')).heap.size:=by have:=hbl.size;simp[World.setCell];omega
 obtain⟨W2,hW2⟩:∃W2,W2=w1.setCell ⟨w.heap.size+1,0,none⟩ (.slice (some ⟨g',0,none⟩) 2 cap'):=⟨_,rfl⟩
 rw[←hW2] at hO2 hK2 hrow2 hB2 hs2
 have cK2:=hK2.cell
 rw[←hW2]
 clear hW2 hK1 hO1 cK1 cO1 fO1 hown' hgrow hbl hko cK cO bK bO hrow0 hB0 hWa
 refine ⟨wide_fn _,(callsIn_wide.2 (show Calls Tryz.prog 159 #[.int .i64 0] _ (fun e w'=>e= .returned (.bool true)∧_=w') from signed_any 0 _)).mono ?_⟩
 rintro e w3 ⟨rfl,rfl⟩
 gi_wp2_with fail
 refine ⟨wide_fn _,(callsIn_wide.2 (decade_any true _)).mono ?_⟩
 rintro e W3 ⟨rfl,hw3⟩
 have hs3:W3.heap.size=W2.heap.size+1:=by rw[hw3];simp
 have hK3:Boxed W3 w.heap.size 3 (.int .i64 0):=by rw[hw3];exact hK2.alloc _
 have hO3:Boxed W3 (w.heap.size+1) 62 (.slice (some ⟨g',0,none⟩) 2 cap'):=by rw[hw3];exact hO2.alloc _
 have hS3:W3.cell? ⟨W2.heap.size,0,none⟩=some (.bool true):=by rw[hw3];exact (Boxed.new W2 _ _).cell
 have hrow3:W3.ownsRow (w.heap.size+2) 2 1 (.slice (some ⟨g',0,none⟩) 2 cap') (acc0 []).length (is (acc0 [])):=by rw[hw3];exact hrow2.alloc _
 have hB3:Below w.heap.size w W3:=by rw[hw3];exact hB2.alloc (by omega) _
 clear hw3 hO2 hK2 hrow2 hB2 cK2
 gi_wp2
 refine wpIn_rangeFunc_ownG (n:=9) rfl (by omega) (gf:=226) (lb:= #[.pointer (some ⟨W2.heap.size,0,none⟩)]) rfl trivial (enters_of Tryz.func226 (by kernel_rfl) rfl)
  (stops_s W2.heap.size W3 (by omega) hS3) (fun _ _=>trivial) (fun _ _ _ _ _ _ _ _=>trivial) (Below.refl _ _) (fun _=>rfl)
  (fun pre W=>(∃v,Boxed W (w.heap.size+1) 62 v∧W.ownsRow (w.heap.size+2) 2 1 v (acc0 pre).length (is (acc0 pre))∧True)∧Boxed W w.heap.size 3 (.int .i64 0)∧(Below w.heap.size w W∧w.heap.size+2≤W.heap.size))
  (fun _ _ _=>False)
  ?oI ?oX ?st ?a1 ?assign ?body ?done ?stop
 case assign=>
  intro l x W K hK
  gi_wp2
  exact hK
 case oI=>exact OwnFrom.and (Own.from (holdsRow_own (w.heap.size+2) (w.heap.size+1) 62 2 1 (fun pre=>(acc0 pre).length) (fun pre=>is (acc0 pre)) (fun _ _=>True)) _) (OwnFrom.and (Own.from (show Own (fun (s:List Num) (W:World)=>Boxed W w.heap.size 3 (.int .i64 0)) from fun s X Y row hs hg hr=>bx_kept hs hg hr) _) (OwnFrom.and (ownFrom_below (by omega) (by omega)) (Own.from (show Own (fun (_:List Num) (W:World)=>w.heap.size+2≤W.heap.size) from fun s X Y row hs hg hr=>Nat.le_trans hs hg.size) _)))
 case oX=>exact fun _ _ _ _ _ hs _ _=>hs
 case st=>exact⟨⟨_,hO3,hrow3,trivial⟩,hK3,hB3,by omega⟩
 case body=>
  rintro lp pre x W ⟨⟨v,hv,hrow,_⟩,hK,hBel,hWs⟩ hlt
  have hc:=hv.cell
  have hcK:=hK.cell
  have hsn:=Lib.hid (acc0_snoc pre x)
  have hal:(acc0 pre).length≤1000:=by have:=acc0_len pre;omega
  have hx:=x.2
  generalize x.1=xx at hsn hx
  have hwf:=wide_fn 159
  gi_wp2_with (gi_at_builtin;go_must (refine wpListIn_append_own _ rfl _ _ 62 rfl (w.heap.size+2) 2 i0 (.int .i64 0) 1 8 Tryz.underlying62 hi hz0 hz1 hz2 rfl (by decide) _ _ _ rfl (hrow.alloc _) ⟨W.heap.size,0,none⟩ 1 1 [.int .i64 xx] rfl rfl (cell_one_new _ _ _) (by simp[Value.oneCell']) (by unfold maxLen;omega) (by omega) (by simp;omega) ?_;intro v' w1 hown' hgrow _;obtain⟨g',cap',rfl⟩:=ownsRow_succ hown';obtain⟨hbl,hko⟩:=bx_app hrow hWs hgrow;have hv1:=bx_low hv hbl (by omega);have hK1:=bx_low hK hbl (by omega);have hc1:=hv1.cell;have hf1:=hv1.frozen;have hcK1:=hK1.cell))
  have hv4:=hv1.set (.slice (some ⟨g',0,none⟩) ((acc0 pre).length+1) cap')
  have hK4:Boxed (w1.setCell ⟨w.heap.size+1,0,none⟩ (.slice (some ⟨g',0,none⟩) ((acc0 pre).length+1) cap')) w.heap.size 3 (.int .i64 0):=bx_far hK1 (by omega)
  have hrow4:(w1.setCell ⟨w.heap.size+1,0,none⟩ (.slice (some ⟨g',0,none⟩) ((acc0 pre).length+1) cap')).ownsRow (w.heap.size+2) 2 1 (.slice (some ⟨g',0,none⟩) ((acc0 pre).length+1) cap') (acc0 pre++[xx]).length (is (acc0 pre++[xx])):=by
   rw[is_snoc,List.length_append,List.length_singleton]
   exact ownsRow_setCell_below hown' (a:=⟨w.heap.size+1,0,none⟩) (by show w.heap.size+1<w.heap.size+2;omega) _
  have hko4:KeepsOthers W (w1.setCell ⟨w.heap.size+1,0,none⟩ (.slice (some ⟨g',0,none⟩) ((acc0 pre).length+1) cap')):=hko.trans (KeepsOthers.setCell _ _ _)
  have hB4:Below w.heap.size w (w1.setCell ⟨w.heap.size+1,0,none⟩ (.slice (some ⟨g',0,none⟩) ((acc0 pre).length+1) cap')):=(hBel.trans (hbl.mono (by omega))).setCell (p:=⟨w.heap.size+1,0,none⟩) (by simp) _
  have hs4:w.heap.size+2≤(w1.setCell ⟨w.heap.size+1,0,none⟩ (.slice (some ⟨g',0,none⟩) ((acc0 pre).length+1) cap')).heap.size:=by have:=hbl.size;simp[World.setCell];omega
  obtain⟨W4,hW4⟩:∃W4,W4=w1.setCell ⟨w.heap.size+1,0,none⟩ (.slice (some ⟨g',0,none⟩) ((acc0 pre).length+1) cap'):=⟨_,rfl⟩
  rw[←hW4] at hv4 hK4 hrow4 hko4 hB4 hs4
  rw[←hW4]
  clear hW4 hv1 hK1 hc1 hf1 hcK1 hown' hgrow hbl hko hB3 hO3 hrow3 hS3 hK3 hc hcK hv hrow hK hBel hWs
  refine (CallsIn.inRound lp (callsIn_wide.2 (show Calls Tryz.prog 159 #[.int .i64 0] _ (fun e w'=>e= .returned (.bool true)∧_=w') from signed_any 0 _))).mono ?_
  rintro e w5 ⟨rfl,rfl⟩
  have hc4:=hv4.cell
  gi_wp2_with (gi_at_builtin;go_must (refine wpListIn_append_own _ rfl _ _ 62 rfl (w.heap.size+2) 2 i0 (.int .i64 0) 1 8 Tryz.underlying62 hi hz0 hz1 hz2 rfl (by decide) _ _ _ rfl (hrow4.alloc _) ⟨W4.heap.size,0,none⟩ 1 1 [.int .i64 (-xx)] rfl rfl (cell_one_new _ _ _) (by simp[Value.oneCell']) (by unfold maxLen;simp;omega) (by simp;omega) (by simp;omega) ?_;intro v' w1 hown' hgrow _;obtain⟨g',cap',rfl⟩:=ownsRow_succ hown';obtain⟨hbl,hko⟩:=bx_app hrow4 hs4 hgrow;have hv1:=bx_low hv4 hbl (by omega);have hK1:=bx_low hK4 hbl (by omega);have hc1:=hv1.cell;have hf1:=hv1.frozen))
  refine ⟨((hko4.trans hko).trans (KeepsOthers.setCell _ _ _)).from _,trivial,⟨_,hv1.set _,?_,trivial⟩,bx_far hK1 (by omega),(hB4.trans (hbl.mono (by omega))).setCell (p:=⟨w.heap.size+1,0,none⟩) (by simp) _,?_⟩
  ·rw[hsn.out,is_snoc,show ((acc0 pre++[xx])++[-xx]).length=(acc0 pre++[xx]).length+1 from by simp,show (acc0 pre).length+1+1=(acc0 pre++[xx]).length+1 from by simp]
   exact ownsRow_setCell_below hown' (a:=⟨w.heap.size+1,0,none⟩) (by show w.heap.size+1<w.heap.size+2;omega) _
  ·have:=hbl.size;simp[World.setCell];omega
 case done=>
  rintro D ys W hD hys ⟨⟨v,hv,hrow,_⟩,hK,hBel,hWs⟩ hKd
  have hc:=hv.cell
  have hL:acc0 ys=laid 0:=by rw[acc0,hys];exact acc0_all
  rw[hL] at hrow
  have hS:=sort_own _ v (laid 0) W hrow (by decide+kernel) (by decide+kernel)
  rw[sort_laid 0 (by omega)] at hS
  have S:=Lib.hid hS
  clear hS hL hys
  gi_wp2_with fail
  refine ⟨wide_fn _,(callsIn_wide.2 S.out).mono ?_⟩
  rintro e w1 ⟨rfl,hI,hgr⟩
  have hO1:=hv.kept hgr (fun e=>by have:=(hrow.lt _ e.symm).1;omega)
  have cO1:=hO1.cell
  have hK':=(row_ko hrow hgr).same D _ hKd rfl
  have hBx:=hBel.grown hgr hBel.size (fun j e=>by have:=(hrow.lt j e).1;omega)
  clear S hgr hrow hKd
  gi_wp2
  refine ⟨by simp,.inl ⟨_,_,rfl,run_takeDeferred hK',?_⟩⟩
  have hBB:=hBx.trans (belowK_b (w:=w) (Nat.le_refl _) w1 D _ (.deferred none) (by omega) hK' rfl rfl)
  exact⟨_,results_tmp2 rfl _ _ _,v,rfl,IsI.putObj hI hK' rfl,hBB⟩
 case stop=>
  rintro D c pre W _ _ h _
  exact h.elim
theorem book_0 (w:World):
 Calls Tryz.prog 123 #[.int .i64 0] w fun e w'=>∃v,e= .returned (.tuple #[v,.int .i64 0])∧IsI w' v (bk 0)∧Below w.heap.size w w':=callsIn_wide.1 (book_0_in w)
theorem book_1_in (w:World):
 CallsIn Fence.wide 9 Tryz.prog 123 #[.int .i64 1] w fun e w'=>∃v,e= .returned (.tuple #[v,.int .i64 0])∧IsI w' v (bk 1)∧Below w.heap.size w w':=by
 obtain⟨i0,hi,hz0,hz1,hz2⟩:=info_parts info_i64
 have bK:=Boxed.new w 3 (.int .i64 1)
 have bO:=Boxed.new (w.alloc (.cells #[.int .i64 1] 3)) 62 (.slice none 0 0)
 rw[World.size_alloc] at bO
 have bK:=bK.alloc (.cells #[.slice none 0 0] 62)
 have hB0:Below w.heap.size w ((w.alloc (.cells #[.int .i64 1] 3)).alloc (.cells #[.slice none 0 0] 62)):=((Below.refl _ w).alloc (Nat.le_refl _) _).alloc (by simp) _
 refine callsIn_of_wp_marks Tryz.func123 rfl trivial ?_ rfl
 simp only[Tryz.ntmps123,List.size_toArray,List.length_cons,List.length_nil,Nat.reduceAdd,Nat.reduceSub,Array.replicate_succ,Array.replicate_zero,List.push_toArray,List.append_toArray,List.nil_append,List.cons_append]
 obtain⟨Wa,hWa⟩:∃Wa,Wa=(w.alloc (.cells #[.int .i64 1] 3)).alloc (.cells #[.slice none 0 0] 62):=⟨_,rfl⟩
 have hsa:Wa.heap.size=w.heap.size+2:=by rw[hWa];simp
 rw[←hWa] at bK bO hB0
 have cK:=bK.cell
 have cO:=bO.cell
 have hrow0:Wa.ownsRow (w.heap.size+2) 2 1 (.slice none 0 0) 0 []:=World.ownsRow_nil _ _ _ _
 gi_wp2_with (gi_at_builtin;go_must (rw[←hWa];refine wpListIn_append_own _ rfl _ _ 62 rfl (w.heap.size+2) 2 i0 (.int .i64 0) 1 8 Tryz.underlying62 hi hz0 hz1 hz2 rfl (by decide) _ _ _ rfl (hrow0.alloc _) ⟨w.heap.size+2,0,none⟩ 2 2 [.int .i64 0,.int .i64 2560000000] rfl rfl (by rw[←hsa];exact cell_two_new _ _ _ _) (by simp[Value.oneCell']) (by unfold maxLen;omega) (by omega) (by simp;omega) ?_;intro v' w1 hown' hgrow _;obtain⟨g',cap',rfl⟩:=ownsRow_succ hown';obtain⟨hbl,hko⟩:=bx_app hrow0 (by omega) hgrow;have hK1:=bx_low bK hbl (by omega);have hO1:=bx_low bO hbl (by omega);have cK1:=hK1.cell;have cO1:=hO1.cell;have fO1:=hO1.frozen))
 have hO2:=hO1.set (.slice (some ⟨g',0,none⟩) 2 cap')
 have hK2:Boxed (w1.setCell ⟨w.heap.size+1,0,none⟩ (.slice (some ⟨g',0,none⟩) 2 cap')) w.heap.size 3 (.int .i64 1):=bx_far hK1 (by omega)
 have hrow2:=ownsRow_setCell_below hown' (a:=⟨w.heap.size+1,0,none⟩) (by show w.heap.size+1<w.heap.size+2;omega) (.slice (some ⟨g',0,none⟩) 2 cap')
 have hB2:Below w.heap.size w (w1.setCell ⟨w.heap.size+1,0,none⟩ (.slice (some ⟨g',0,none⟩) 2 cap')):=(hB0.trans (hbl.mono (by omega))).setCell (p:=⟨w.heap.size+1,0,none⟩) (by simp) _
 have hs2:w.heap.size+2≤(w1.setCell ⟨w.heap.size+1,0,none⟩ (.slice (some ⟨g',0,none⟩) 2 cap')).heap.size:=by have:=hbl.size;simp[World.setCell];omega
 obtain⟨W2,hW2⟩:∃W2,W2=w1.setCell ⟨w.heap.size+1,0,none⟩ (.slice (some ⟨g',0,none⟩) 2 cap'):=⟨_,rfl⟩
 rw[←hW2] at hO2 hK2 hrow2 hB2 hs2
 have cK2:=hK2.cell
 rw[←hW2]
 clear hW2 hK1 hO1 cK1 cO1 fO1 hown' hgrow hbl hko cK cO bK bO hrow0 hB0 hWa
 refine ⟨wide_fn _,(callsIn_wide.2 (show Calls Tryz.prog 159 #[.int .i64 1] _ (fun e w'=>e= .returned (.bool false)∧_=w') from signed_any 1 _)).mono ?_⟩
 rintro e w3 ⟨rfl,rfl⟩
 gi_wp2_with fail
 refine ⟨wide_fn _,(callsIn_wide.2 (decade_any false _)).mono ?_⟩
 rintro e W3 ⟨rfl,hw3⟩
 have hs3:W3.heap.size=W2.heap.size+1:=by rw[hw3];simp
 have hK3:Boxed W3 w.heap.size 3 (.int .i64 1):=by rw[hw3];exact hK2.alloc _
 have hO3:Boxed W3 (w.heap.size+1) 62 (.slice (some ⟨g',0,none⟩) 2 cap'):=by rw[hw3];exact hO2.alloc _
 have hS3:W3.cell? ⟨W2.heap.size,0,none⟩=some (.bool false):=by rw[hw3];exact (Boxed.new W2 _ _).cell
 have hrow3:W3.ownsRow (w.heap.size+2) 2 1 (.slice (some ⟨g',0,none⟩) 2 cap') (acc1 []).length (is (acc1 [])):=by rw[hw3];exact hrow2.alloc _
 have hB3:Below w.heap.size w W3:=by rw[hw3];exact hB2.alloc (by omega) _
 clear hw3 hO2 hK2 hrow2 hB2 cK2
 gi_wp2
 refine wpIn_rangeFunc_ownG (n:=9) rfl (by omega) (gf:=226) (lb:= #[.pointer (some ⟨W2.heap.size,0,none⟩)]) rfl trivial (enters_of Tryz.func226 (by kernel_rfl) rfl)
  (stops_u W2.heap.size W3 (by omega) hS3) (fun _ _=>trivial) (fun _ _ _ _ _ _ _ _=>trivial) (Below.refl _ _) (fun _=>rfl)
  (fun pre W=>(∃v,Boxed W (w.heap.size+1) 62 v∧W.ownsRow (w.heap.size+2) 2 1 v (acc1 pre).length (is (acc1 pre))∧True)∧Boxed W w.heap.size 3 (.int .i64 1)∧(Below w.heap.size w W∧w.heap.size+2≤W.heap.size))
  (fun _ _ _=>False)
  ?oI ?oX ?st ?a1 ?assign ?body ?done ?stop
 case assign=>
  intro l x W K hK
  gi_wp2
  exact hK
 case oI=>exact OwnFrom.and (Own.from (holdsRow_own (w.heap.size+2) (w.heap.size+1) 62 2 1 (fun pre=>(acc1 pre).length) (fun pre=>is (acc1 pre)) (fun _ _=>True)) _) (OwnFrom.and (Own.from (show Own (fun (s:List Num) (W:World)=>Boxed W w.heap.size 3 (.int .i64 1)) from fun s X Y row hs hg hr=>bx_kept hs hg hr) _) (OwnFrom.and (ownFrom_below (by omega) (by omega)) (Own.from (show Own (fun (_:List Num) (W:World)=>w.heap.size+2≤W.heap.size) from fun s X Y row hs hg hr=>Nat.le_trans hs hg.size) _)))
 case oX=>exact fun _ _ _ _ _ hs _ _=>hs
 case st=>exact⟨⟨_,hO3,hrow3,trivial⟩,hK3,hB3,by omega⟩
 case body=>
  rintro lp pre x W ⟨⟨v,hv,hrow,_⟩,hK,hBel,hWs⟩ hlt
  have hc:=hv.cell
  have hcK:=hK.cell
  have hsn:=Lib.hid (acc1_snoc pre x)
  have hal:(acc1 pre).length≤1000:=by have:=acc1_len pre;omega
  have hx:=x.2
  generalize x.1=xx at hsn hx
  have hwf:=wide_fn 159
  gi_wp2_with (gi_at_builtin;go_must (refine wpListIn_append_own _ rfl _ _ 62 rfl (w.heap.size+2) 2 i0 (.int .i64 0) 1 8 Tryz.underlying62 hi hz0 hz1 hz2 rfl (by decide) _ _ _ rfl (hrow.alloc _) ⟨W.heap.size,0,none⟩ 1 1 [.int .i64 xx] rfl rfl (cell_one_new _ _ _) (by simp[Value.oneCell']) (by unfold maxLen;omega) (by omega) (by simp;omega) ?_;intro v' w1 hown' hgrow _;obtain⟨g',cap',rfl⟩:=ownsRow_succ hown';obtain⟨hbl,hko⟩:=bx_app hrow hWs hgrow;have hv1:=bx_low hv hbl (by omega);have hK1:=bx_low hK hbl (by omega);have hc1:=hv1.cell;have hf1:=hv1.frozen;have hcK1:=hK1.cell))
  have hv4:=hv1.set (.slice (some ⟨g',0,none⟩) ((acc1 pre).length+1) cap')
  have hK4:Boxed (w1.setCell ⟨w.heap.size+1,0,none⟩ (.slice (some ⟨g',0,none⟩) ((acc1 pre).length+1) cap')) w.heap.size 3 (.int .i64 1):=bx_far hK1 (by omega)
  have hrow4:(w1.setCell ⟨w.heap.size+1,0,none⟩ (.slice (some ⟨g',0,none⟩) ((acc1 pre).length+1) cap')).ownsRow (w.heap.size+2) 2 1 (.slice (some ⟨g',0,none⟩) ((acc1 pre).length+1) cap') (acc1 pre++[xx]).length (is (acc1 pre++[xx])):=by
   rw[is_snoc,List.length_append,List.length_singleton]
   exact ownsRow_setCell_below hown' (a:=⟨w.heap.size+1,0,none⟩) (by show w.heap.size+1<w.heap.size+2;omega) _
  have hko4:KeepsOthers W (w1.setCell ⟨w.heap.size+1,0,none⟩ (.slice (some ⟨g',0,none⟩) ((acc1 pre).length+1) cap')):=hko.trans (KeepsOthers.setCell _ _ _)
  have hB4:Below w.heap.size w (w1.setCell ⟨w.heap.size+1,0,none⟩ (.slice (some ⟨g',0,none⟩) ((acc1 pre).length+1) cap')):=(hBel.trans (hbl.mono (by omega))).setCell (p:=⟨w.heap.size+1,0,none⟩) (by simp) _
  have hs4:w.heap.size+2≤(w1.setCell ⟨w.heap.size+1,0,none⟩ (.slice (some ⟨g',0,none⟩) ((acc1 pre).length+1) cap')).heap.size:=by have:=hbl.size;simp[World.setCell];omega
  obtain⟨W4,hW4⟩:∃W4,W4=w1.setCell ⟨w.heap.size+1,0,none⟩ (.slice (some ⟨g',0,none⟩) ((acc1 pre).length+1) cap'):=⟨_,rfl⟩
  rw[←hW4] at hv4 hK4 hrow4 hko4 hB4 hs4
  rw[←hW4]
  clear hW4 hv1 hK1 hc1 hf1 hcK1 hown' hgrow hbl hko hB3 hO3 hrow3 hS3 hK3 hc hcK hv hrow hK hBel hWs
  refine (CallsIn.inRound lp (callsIn_wide.2 (show Calls Tryz.prog 159 #[.int .i64 1] _ (fun e w'=>e= .returned (.bool false)∧_=w') from signed_any 1 _))).mono ?_
  rintro e w5 ⟨rfl,rfl⟩
  gi_wp2
  rw[←hsn.out] at hrow4
  exact⟨hko4.from _,trivial,⟨_,hv4,hrow4,trivial⟩,hK4,hB4,hs4⟩
 case done=>
  rintro D ys W hD hys ⟨⟨v,hv,hrow,_⟩,hK,hBel,hWs⟩ hKd
  have hc:=hv.cell
  have hL:acc1 ys=laid 1:=by rw[acc1,hys];exact acc1_all
  rw[hL] at hrow
  have hS:=sort_own _ v (laid 1) W hrow (by decide+kernel) (by decide+kernel)
  rw[sort_laid 1 (by omega)] at hS
  have S:=Lib.hid hS
  clear hS hL hys
  gi_wp2_with fail
  refine ⟨wide_fn _,(callsIn_wide.2 S.out).mono ?_⟩
  rintro e w1 ⟨rfl,hI,hgr⟩
  have hO1:=hv.kept hgr (fun e=>by have:=(hrow.lt _ e.symm).1;omega)
  have cO1:=hO1.cell
  have hK':=(row_ko hrow hgr).same D _ hKd rfl
  have hBx:=hBel.grown hgr hBel.size (fun j e=>by have:=(hrow.lt j e).1;omega)
  clear S hgr hrow hKd
  gi_wp2
  refine ⟨by simp,.inl ⟨_,_,rfl,run_takeDeferred hK',?_⟩⟩
  have hBB:=hBx.trans (belowK_b (w:=w) (Nat.le_refl _) w1 D _ (.deferred none) (by omega) hK' rfl rfl)
  exact⟨_,results_tmp2 rfl _ _ _,v,rfl,IsI.putObj hI hK' rfl,hBB⟩
 case stop=>
  rintro D c pre W _ _ h _
  exact h.elim
theorem book_1 (w:World):
 Calls Tryz.prog 123 #[.int .i64 1] w fun e w'=>∃v,e= .returned (.tuple #[v,.int .i64 0])∧IsI w' v (bk 1)∧Below w.heap.size w w':=callsIn_wide.1 (book_1_in w)
end Go.Proofs.YtdnjdglekifhpaaGreat
namespace Go.Proofs.YtdnjdglekifhpaaGreat
open Go.RowKit Go.Shelf
attribute [local go_sem] Oper.semAt_some
def bkz (k:Int):List Int:=if k=0 then bk 0 else if k=1 then bk 1 else if k=2 then bk 2 else if k=3 then bk 3 else []
def bke (k:Int):Int:=if 0≤k∧k≤3 then 0 else 1
theorem book_any (k:Int) (w:World):
 Calls Tryz.prog 123 #[.int .i64 k] w fun e w'=>∃v,e= .returned (.tuple #[v,.int .i64 (bke k)])∧IsI w' v (bkz k)∧Below w.heap.size w w':=by
 rcases kind_cases k with rfl | rfl | rfl | rfl | ⟨h0,h1,h2,h3⟩
 ·exact book_0 w
 ·exact book_1 w
 ·exact book_2 w
 ·exact book_3 w
 ·refine (book_none k w h0 h1 h2 h3).mono ?_
  rintro e w' ⟨rfl,hb⟩
  simp only[beq_eq_false_iff_ne] at h0 h1 h2 h3
  refine ⟨_,by rw[bke,if_neg (by omega)],?_,hb⟩
  rw[bkz,if_neg h0,if_neg h1,if_neg h2,if_neg h3]
  exact IsI.nil _
def inb (l:List Int):Bool:=l.all fun x=>decide (-2560000000≤x∧x≤2560000000)
theorem bk_inb:∀k<4,inb (bk k)=true:=by decide+kernel
theorem bkz_in (k:Int) (h:0≤k∧k≤3):(bkz k).length=256∧inb (bkz k)=true:=by
 obtain rfl | rfl | rfl | rfl:k=0∨k=1∨k=2∨k=3:=by omega
 ·exact⟨bk_len 0 (by omega),bk_inb 0 (by omega)⟩
 ·exact⟨bk_len 1 (by omega),bk_inb 1 (by omega)⟩
 ·exact⟨bk_len 2 (by omega),bk_inb 2 (by omega)⟩
 ·exact⟨bk_len 3 (by omega),bk_inb 3 (by omega)⟩
theorem inb_at {l:List Int} (h:inb l=true) (j:Nat): -2560000000≤iat l j∧iat l j≤2560000000:=by
 by_cases hj:j<l.length
 ·have:=List.all_eq_true.1 h _ (iat_mem hj)
  simpa using this
 ·unfold iat;rw[List.getElem?_eq_none (by omega)];simp
def gapTo (l:List Int):Nat→Int
 | 0=>0
 | j+1=>max (gapTo l j) (iat l (j+1) - iat l j)
theorem gapTo_in {l:List Int} (h:inb l=true) (j:Nat):0≤gapTo l j∧gapTo l j≤5120000000:=by
 induction j with
 | zero=>simp[gapTo]
 | succ j ih=>have:=inb_at h j;have:=inb_at h (j+1);simp only[gapTo];omega
def gz (k:Int):Int:=gapTo (bkz k) ((bkz k).length - 1)
theorem run_max_int {P:Program} (t:Array TypeId) (y:TypeId) (W:World) (a b:Int):(Builtin.max_ t y #[.int .i64 a,.int .i64 b]).run P W= .ok (.int .i64 (max a b)) W:=by
 by_cases h:a<b
 ·rw[Int.max_eq_right (by omega)];simp[Builtin.max_,Builtin.max2,h]
 ·rw[Int.max_eq_left (by omega)];simp[Builtin.max_,Builtin.max2,h]
theorem gap_any (k:Int) (w:World):
 Calls Tryz.prog 58 #[.int .i64 k] w fun e w'=>e= .returned (.int .i64 (gz k))∧Below w.heap.size w w':=by
 have hB:=book_any k w
 by_cases hk:0≤k∧k≤3
 ·obtain⟨hlen,hinb⟩:=bkz_in k hk
  have hin:=inb_at hinb
  have hgin:=gapTo_in hinb
  have hmx:= @run_max_int Tryz.prog
  rw[bke,if_pos hk] at hB
  have hg:Hid (gz k=gapTo (bkz k) 255):=by rw[Hid,gz,hlen]
  generalize bkz k=l at hB hlen hin hgin hg
  go_enter Tryz.func58,Tryz.ntmps58
  go_wp2_with fail
  refine hB.mono ?_
  rintro e w1 ⟨v,rfl,⟨A,c,rfl,hc1,hc2,hR⟩,hbl⟩
  obtain⟨ad,rfl,_,_⟩:=is_cell hR (k:=0) (by omega)
  rw[hlen]
  rw[hlen] at hR hc1
  have hcell:∀j,j<256→w1.cell? (ad.add j)=some (.int .i64 (iat l j)):=by
   intro j hj
   obtain⟨ad',e,_,h⟩:=is_cell hR hj
   cases e;exact h
  have hcell1:∀j,j<255→w1.cell? ⟨ad.block,ad.off+1+j,none⟩=some (.int .i64 (iat l (j+1))):=by
   intro j hj
   rw[←hcell (j+1) (by omega)]
   congr 1
   simp[Addr.add]
   omega
  clear hR
  go_wp2
  go_loopw [18,5] (fun i g wr=>∃j:Nat,j≤255∧i= .int .i64 j∧g= .int .i64 (gapTo l j)∧wr=w1) (fun i _ _=>255 - (intOf i).toNat)
  case atStart=>exact⟨0,by omega,rfl,rfl,rfl⟩
  case round=>
   obtain⟨j,hj,rfl,rfl,rfl⟩:=hrel
   by_cases hlt:j<255
   ·have c0:=hcell j (by omega)
    have c1:=hcell1 j (by omega)
    have b0:=hin j
    have b1:=hin (j+1)
    have b2:=hgin j
    go_wp2
    refine ⟨⟨j+1,by omega,by go_num,?_,trivial⟩,by simp[intOf];omega⟩
    rfl
   ·obtain rfl:j=255:=by omega
    go_wp2
    go_ret
    exact⟨by rw[hg.out];rfl,hbl⟩
 ·rw[bke,if_neg hk] at hB
  have hg:gz k=0:=by
   rw[gz,bkz,if_neg (by omega),if_neg (by omega),if_neg (by omega),if_neg (by omega)];rfl
  rw[hg]
  clear hg
  go_enter Tryz.func58,Tryz.ntmps58
  go_wp2_with fail
  refine hB.mono ?_
  rintro e w1 ⟨v,rfl,_,hbl⟩
  go_wp2
  go_ret
  exact⟨rfl,hbl⟩
end Go.Proofs.YtdnjdglekifhpaaGreat
namespace Go.Proofs.YtdnjdglekifhpaaGreat
theorem gz_bound:∀k<4,0≤gz (k:Nat)∧gz (k:Nat)≤2560000000:=by decide+kernel
end Go.Proofs.YtdnjdglekifhpaaGreat
namespace Go.Proofs.YtdnjdglekifhpaaGreat
open Go.RowKit
def ys (l:List Nat):List Value:=l.map fun (n:Nat)=>Value.int .u8 (n:Int)
def yat (l:List Nat) (k:Nat):Nat:=l[k]?.getD 0
def By (l:List Nat):Prop:=∀x∈l,x<256
theorem ys_len (l:List Nat):(ys l).length=l.length:=by simp[ys]
theorem ys_at (l:List Nat) (j:Nat) (h:j<l.length):(ys l)[j]?=some (.int .u8 (yat l j:Nat)):=by simp[ys,yat,h]
theorem yat_mem {l:List Nat} {k:Nat} (h:k<l.length):yat l k∈l:=by
 unfold yat;rw[List.getElem?_eq_getElem h];exact List.getElem_mem h
theorem By.at_ {l:List Nat} (h:By l) (k:Nat):yat l k<256:=by
 by_cases hk:k<l.length
 ·exact h _ (yat_mem hk)
 ·unfold yat;rw[List.getElem?_eq_none (by omega)];simp
theorem By.nil:By []:=by simp[By]
def IsY (w:World) (v:Value) (l:List Nat):Prop:=
 ∃(A:Option Addr) (c:Nat),v= .slice A l.length c∧l.length≤c∧c≤9223372036854775807∧By l∧Reads w w.heap.size 1 A l.length (ys l)
section
variable {w w':World} {v:Value} {l:List Nat}
theorem IsY.below (h:IsY w v l) (hb:Below w.heap.size w w'):IsY w' v l:=by
 obtain⟨A,c,e,h1,h2,h3,h4⟩:=h
 exact⟨A,c,e,h1,h2,h3,(h4.below hb).more hb.size⟩
theorem IsY.nil (w:World):IsY w (.slice none 0 0) []:=⟨none,0,rfl,by simp,by omega,By.nil,Reads.none_⟩
theorem y_cell {A:Option Addr} {k m B:Nat} (h:Reads w B 1 A m (ys l)) (hk:k<m):∃ad,A=some ad∧ad.block<B∧w.cell? (ad.add k)=some (.int .u8 (yat l k:Nat)):=by
 obtain⟨ad,u,rfl,hb,hx,hc⟩:=h.at_ hk
 have hl:k<l.length:=by have:=h.1;rw[ys_len] at this;omega
 rw[ys_at _ _ hl] at hx
 obtain rfl:=Option.some.inj hx
 exact⟨ad,rfl,hb,hc⟩
theorem IsY.form (h:IsY w v l):∃A C,v= .slice A l.length C∧l.length≤C∧C≤9223372036854775807:=by obtain⟨A,C,e,h1,h2,_⟩:=h;exact⟨A,C,e,h1,h2⟩
theorem IsY.by_ (h:IsY w v l):By l:=by obtain⟨_,_,_,_,_,h,_⟩:=h;exact h
theorem IsY.at_ {A:Option Addr} {n C k:Nat} (h:IsY w (.slice A n C) l) (hk:k<l.length):∃ad,A=some ad∧w.cell? (ad.add k)=some (.int .u8 (yat l k:Nat)):=by
 obtain⟨A',c',e,_,_,_,r⟩:=h
 injection e with e1 e2 e3
 subst e1 e2 e3
 obtain⟨ad,e,_,h⟩:=y_cell r hk
 exact⟨ad,e,h⟩
def noY:Value→Bool
 | .int .u8 _=>false
 | _=>true
theorem IsY.keepBlk {R:Nat} {t:TypeId} {cs:Array Value} (h:IsY w v l) (hR:Blk w R t cs) (hcs:cs.all noY=true) (hw:∀k,k≠R→w'.heap[k]?=w.heap[k]?) (hsz:w.heap.size≤w'.heap.size):IsY w' v l:=by
 obtain⟨A,c,rfl,h1,h2,h3,h4⟩:=h
 refine ⟨A,c,rfl,h1,h2,h3,h4.1,fun hn=>?_⟩
 obtain⟨ad,rfl,hb,hc⟩:=h4.2 hn
 refine ⟨ad,rfl,by omega,fun j y hj=>?_⟩
 have hne:ad.block≠R:=by
  intro e
  have hl:=h4.1
  have h0:=hc 0 _ (ys_at l 0 (by rw[ys_len] at hl;omega))
  obtain⟨b,off,sp⟩:=ad
  dsimp only at e;subst e
  rw[Addr.add,if_pos rfl] at h0
  have hsp:sp=none:=World.cell?_spot h0
  subst hsp
  rw[hR.cell] at h0
  have:=Array.all_eq_true_iff_forall_mem.1 hcs _ (Array.mem_of_getElem? h0)
  simp[noY] at this
 rw[←hc j y hj]
 exact World.cell?_of_block (by rw[block_of_add];exact hw _ hne)
theorem IsY.fresh (w:World) (t:TypeId) (l:List Nat) (hb:By l) (hl:l.length≤9223372036854775807):IsY (w.alloc (.cells (ys l).toArray t)) (.slice (some ⟨w.heap.size,0,none⟩) l.length l.length) l:=
 ⟨_,_,rfl,Nat.le_refl _,hl,hb,by simpa using Reads.fresh w t (ys l) l.length (ys_len l).symm⟩
end
end Go.Proofs.YtdnjdglekifhpaaGreat
namespace Go.Proofs.YtdnjdglekifhpaaGreat
open Go.RowKit
abbrev IsY.b:= @IsY.below
end Go.Proofs.YtdnjdglekifhpaaGreat
namespace Go.Proofs.YtdnjdglekifhpaaGreat
open Go.RowKit
attribute [local go_sem ↓] Go.wp_at_zero Go.wp_at_succ
theorem IsI.form {w:World} {v:Value} {l:List Int} (h:IsI w v l):∃A C,v= .slice A l.length C∧l.length≤C∧C≤9223372036854775807:=by obtain⟨A,C,e,h1,h2,_⟩:=h;exact⟨A,C,e,h1,h2⟩
theorem IsI.at_ {w:World} {A:Option Addr} {n C k:Nat} {l:List Int} (h:IsI w (.slice A n C) l) (hk:k<l.length):∃ad,A=some ad∧w.cell? (ad.add k)=some (.int .i64 (iat l k)):=by
 obtain⟨A',c',e,_,_,r⟩:=h
 injection e with e1 e2 e3
 subst e1 e2 e3
 obtain⟨ad,e,_,h⟩:=is_cell r hk
 exact⟨ad,e,h⟩
end Go.Proofs.YtdnjdglekifhpaaGreat
namespace Go.Proofs.YtdnjdglekifhpaaGreat
open Go.RowKit
def IsBk (w:World) (v:Value) (k s:Int) (cs:List Nat) (wd:List Int):Prop:=∃a b,v= .agg #[.int .i64 k,.int .i64 s,a,b]∧IsY w a cs∧IsI w b wd
theorem IsBk.below {w w':World} {v:Value} {k s:Int} {cs:List Nat} {wd:List Int} (h:IsBk w v k s cs wd) (hb:Below w.heap.size w w'):IsBk w' v k s cs wd:=by
 obtain⟨a,b,e,h1,h2⟩:=h
 exact⟨a,b,e,h1.below hb,h2.below hb⟩
theorem IsBk.nil (w:World):IsBk w (.agg #[.int .i64 0,.int .i64 0,.slice none 0 0,.slice none 0 0]) 0 0 [] []:=⟨_,_,rfl,IsY.nil w,IsI.nil w⟩
theorem blen_any (v:Value) (k s:Int) (cs:List Nat) (wd:List Int) (w:World) (h:IsBk w v k s cs wd) (h1:cs.length≤281474976710656) (h2:wd.length≤17592186044416):
 Calls Tryz.prog 61 #[v] w fun e w'=>e= .returned (.int .i64 ((cs.length:Int)+wd.length))∧Below w.heap.size w w':=by
 obtain⟨a,b,rfl,ha,hb⟩:=h
 obtain⟨Aa,Ca,rfl,_,_⟩:=ha.form
 obtain⟨Ab,Cb,rfl,_,_⟩:=hb.form
 have HB:=Lib.hid ((Below.refl w.heap.size w).alloc (Nat.le_refl _) (.cells #[.int .i64 k,.int .i64 s,.slice Aa cs.length Ca,.slice Ab wd.length Cb] 103))
 generalize cs.length=n at *
 generalize wd.length=m at *
 have k1:(n:Int)≤281474976710656:=by omega
 have k2:(m:Int)≤17592186044416:=by omega
 go_enter Tryz.func61,Tryz.ntmps61
 go_wp2
 go_ret
 exact⟨rfl,HB.out⟩
end Go.Proofs.YtdnjdglekifhpaaGreat
namespace Go.Proofs.YtdnjdglekifhpaaGreat
open Go.RowKit
abbrev IsBk.b:= @IsBk.below
end Go.Proofs.YtdnjdglekifhpaaGreat
namespace Go.Proofs.YtdnjdglekifhpaaGreat
open Go.RowKit
theorem IsI.open_ {w:World} {v:Value} {l:List Int} (h:IsI w v l) (hl:0<l.length):∃(ad:Addr) (c:Nat),v= .slice (some ad) l.length c∧l.length≤c∧c≤9223372036854775807∧ad.block<w.heap.size∧w.cell? ad=some (.int .i64 (iat l 0))∧∀j,j<l.length→w.cell? (ad.add j)=some (.int .i64 (iat l j)):=by
 obtain⟨A,c,rfl,hc1,hc2,hR⟩:=h
 obtain⟨ad,rfl,hb,h0⟩:=is_cell hR hl
 refine ⟨ad,c,rfl,hc1,hc2,hb,by simpa [Addr.add] using h0,fun j hj=>?_⟩
 obtain⟨ad',e,_,h⟩:=is_cell hR hj
 cases e;exact h
end Go.Proofs.YtdnjdglekifhpaaGreat

namespace Go.Proofs.YtdnjdglekifhpaaGreat
open Go.RowKit
def IArr (w:World) (g:Nat) (l:List Int):Prop:=w.heap[g]?=some (.cells (is l).toArray 2 (0,0))
section
variable {w w':World} {g:Nat} {l:List Int}
theorem IArr.lt (h:IArr w g l):g<w.heap.size:=(Array.getElem?_eq_some_iff.1 h).1
theorem IArr.cell (h:IArr w g l) {i:Nat} (hi:i<l.length):w.cell? ⟨g,i,none⟩=some (.int .i64 (iat l i)):=by
 rw[World.cell?];simp[show w.heap[g]?=_ from h,is,iat,hi]
theorem IArr.frozen (h:IArr w g l) (i:Nat):w.frozen? ⟨g,i,none⟩=false:=by simp[World.frozen?,show w.heap[g]?=_ from h]
theorem IArr.set (h:IArr w g l) (i:Nat) (x:Int):IArr (w.setCell ⟨g,i,none⟩ (.int .i64 x)) g (l.set i x):=by
 unfold IArr at h ⊢
 simp[World.setCell,Array.getElem?_modify,h,is,List.map_set]
theorem IArr.below {B:Nat} (h:IArr w g l) (hb:Below B w w') (hg:g<B):IArr w' g l:=(hb.block g hg).trans h
theorem IArr.far (h:IArr w g l) {p:Addr} (hp:g≠p.block) (u:Value):IArr (w.setCell p u) g l:=(Below.heap_setCell w p u g hp).trans h
theorem IArr.alloc (h:IArr w g l) (o:Obj):IArr (w.alloc o) g l:=(Below.heap_alloc w o g h.lt).trans h
theorem IArr.drew (h:IArr w g l):IArr w.drew g l:=h
theorem IArr.drewN (h:IArr w g l) (n:Nat):IArr (w.drewN n) g l:=h
theorem IArr.new (w:World) (l:List Int):IArr (w.alloc (.cells (is l).toArray 2)) w.heap.size l:=heap_alloc_new w _
end
end Go.Proofs.YtdnjdglekifhpaaGreat
namespace Go.Proofs.YtdnjdglekifhpaaGreat
open Go.RowKit
theorem IArr.b {w w' g l} (h:IArr w g l) (hb:Below w.heap.size w w'):IArr w' g l:=h.below hb h.lt
end Go.Proofs.YtdnjdglekifhpaaGreat
namespace Go.Proofs.YtdnjdglekifhpaaGreat
open Go.RowKit
attribute [local go_sem ↓] Go.wp_at_zero Go.wp_at_succ
section
variable {w w':World} {X B R:Nat} {u v:Value} {l:List Int}
theorem IsI.farB (h:IsI w v l) {p:Addr} (hp:v.ownBlock≠some p.block) (x:Value):IsI (w.setCell p x) v l:=by
 obtain⟨A,c,rfl,h1,h2,h4⟩:=h
 refine ⟨A,c,rfl,h1,h2,h4.1,fun hn=>?_⟩
 obtain⟨ad,rfl,hb,hc⟩:=h4.2 hn
 refine ⟨ad,rfl,by simpa [World.setCell] using hb,fun j y hj=>(World.cell?_setCell_other w p _ x (fun e=>hp ?_)).trans (hc j y hj)⟩
 show some ad.block=some p.block
 rw[e,block_of_add]
theorem IsY.farB {l:List Nat} (h:IsY w v l) {p:Addr} (hp:v.ownBlock≠some p.block) (x:Value):IsY (w.setCell p x) v l:=by
 obtain⟨A,c,rfl,h1,h2,h3,h4⟩:=h
 refine ⟨A,c,rfl,h1,h2,h3,h4.1,fun hn=>?_⟩
 obtain⟨ad,rfl,hb,hc⟩:=h4.2 hn
 refine ⟨ad,rfl,by simpa [World.setCell] using hb,fun j y hj=>(World.cell?_setCell_other w p _ x (fun e=>hp ?_)).trans (hc j y hj)⟩
 show some ad.block=some p.block
 rw[e,block_of_add]
theorem IsY.of_own {e:TypeId} {l:List Nat} (h:w.ownsRow B e 1 v l.length (ys l)) (hy:By l):IsY w v l:=by
 obtain⟨A,c,rfl,h1,h2,h3⟩:=own_form h
 exact⟨A,c,rfl,h1,h2,hy,h3⟩
theorem Fresh.nil (B:Nat):Fresh B (.slice none 0 0):=fun _ e=>nomatch e
end
end Go.Proofs.YtdnjdglekifhpaaGreat
namespace Go.Proofs.YtdnjdglekifhpaaGreat
abbrev Bk:=Int×Int×List Nat×List Int
abbrev St:=Int×Int×Int×Int×Int×List Bk
def bkLen (b:Bk):Nat:=b.2.2.1.length+b.2.2.2.length
def lenS:List Bk→Nat
 | []=>0
 | b::r=>bkLen b+lenS r
end Go.Proofs.YtdnjdglekifhpaaGreat
namespace Go.Proofs.YtdnjdglekifhpaaGreat
open Go.RowKit
abbrev Eb:=Bk×Value×Value
def cellsE (e:Eb):List Value:=[.int .i64 e.1.1,.int .i64 e.1.2.1,e.2.1,e.2.2]
def flatB (es:List Eb):List Value:=es.flatMap cellsE
def OkB (w:World) (es:List Eb):Prop:=∀e∈es,IsY w e.2.1 e.1.2.2.1∧IsI w e.2.2 e.1.2.2.2
def IsBs (w:World) (v:Value) (bs:List Bk):Prop:=∃(es:List Eb) (A:Option Addr) (c:Nat),es.map (·.1)=bs∧v= .slice A es.length c∧es.length≤c∧c≤9223372036854775807∧OkB w es∧Reads w w.heap.size 4 A es.length (flatB es)
section
variable {w w':World} {es:List Eb} {bs:List Bk} {v:Value}
theorem flatB_at:∀(es:List Eb) (i j:Nat) (e:Eb),es[i]?=some e→j<4→(flatB es)[i*4+j]?=(cellsE e)[j]?
 | [],_,_,_,h,_=>by simp at h
 | x :: r, 0, j, e, h, hj => by
   obtain rfl:x=e:=by simpa using h
   unfold flatB
   rw[List.flatMap_cons,List.getElem?_append_left (by simp[cellsE];omega),Nat.zero_mul,Nat.zero_add]
 | x :: r, i + 1, j, e, h, hj => by
   have h':r[i]?=some e:=by simpa using h
   have:=flatB_at r i j e h' hj
   unfold flatB at *
   rw[List.flatMap_cons,List.getElem?_append_right (by simp[cellsE];omega),←this]
   congr 1
   simp[cellsE];omega
theorem flatB_append (a b:List Eb):flatB (a++b)=flatB a++flatB b:=by simp[flatB]
theorem OkB.below (h:OkB w es) (hb:Below w.heap.size w w'):OkB w' es:=fun e he=>⟨(h e he).1.below hb,(h e he).2.below hb⟩
theorem OkB.append {a b:List Eb} (h:OkB w a) (k:OkB w b):OkB w (a++b):=fun e he=>(List.mem_append.1 he).elim (h e) (k e)
theorem IsBs.below (h:IsBs w v bs) (hb:Below w.heap.size w w'):IsBs w' v bs:=by
 obtain⟨es,A,c,h1,h2,h3,h4,h5,h6⟩:=h
 exact⟨es,A,c,h1,h2,h3,h4,h5.below hb,(h6.below hb).more hb.size⟩
theorem IsBs.nil (w:World):IsBs w (.slice none 0 0) []:=⟨[],none,0,rfl,rfl,Nat.le_refl _,by omega,fun _ h=>(nomatch h),Reads.none_⟩
theorem IsBs.len (h:IsBs w v bs):∃A c,v= .slice A bs.length c∧bs.length≤c∧c≤9223372036854775807:=by
 obtain⟨es,A,c,rfl,rfl,h3,h4,_⟩:=h
 exact⟨A,c,by rw[List.length_map],by rw[List.length_map];exact h3,h4⟩
theorem IsBs.at_ (h:IsBs w v bs) {i:Nat} (hi:i<bs.length):∃(ad:Addr) (c:Nat) (k s:Int) (cs:List Nat) (wd:List Int) (a b:Value),v= .slice (some ad) bs.length c∧ad.block<w.heap.size∧bs[i]?=some (k,s,cs,wd)∧
 w.cell? (ad.add (i*4))=some (.int .i64 k)∧w.cell? ⟨(ad.add (i*4)).block,(ad.add (i*4)).off+1,none⟩=some (.int .i64 s)∧w.cell? ⟨(ad.add (i*4)).block,(ad.add (i*4)).off+2,none⟩=some a∧w.cell? ⟨(ad.add (i*4)).block,(ad.add (i*4)).off+3,none⟩=some b∧IsY w a cs∧IsI w b wd:=by
 obtain⟨es,A,c,rfl,rfl,h3,h4,h5,h6⟩:=h
 rw[List.length_map] at hi ⊢
 obtain⟨ad,rfl,hb,hc⟩:=h6.2 (by omega)
 have he:=List.getElem?_eq_getElem hi
 have hm:es[i]∈es:=List.getElem_mem hi
 generalize es[i]=e at he hm
 obtain⟨⟨k,s,cs,wd⟩,a,b⟩:=e
 obtain⟨q1,q2⟩:=h5 _ hm
 have hx:∀j,0<j→(⟨(ad.add (i*4)).block,(ad.add (i*4)).off+j,none⟩:Addr)=ad.add (i*4+j):=fun j hj=>by
  rw[←add_of_add];generalize ad.add (i*4)=q
  unfold Addr.add;rw[if_neg (by omega)]
 refine ⟨ad,c,k,s,cs,wd,a,b,rfl,hb,by rw[List.getElem?_map,he];rfl,hc _ _ ?_,(congrArg w.cell? (hx 1 (by omega))).trans (hc _ _ ?_),(congrArg w.cell? (hx 2 (by omega))).trans (hc _ _ ?_),(congrArg w.cell? (hx 3 (by omega))).trans (hc _ _ ?_),q1,q2⟩
 ·have:=flatB_at es i 0 _ he (by omega)
  rw[Nat.add_zero] at this
  rw[this];rfl
 all_goals rw[flatB_at es i _ _ he (by omega)];rfl
end
def AwayE (v:Value) (e:Eb):Prop:=∀g,v.ownBlock=some g→(e.1.2.2.1=[]∨e.2.1.ownBlock≠some g)∧(e.1.2.2.2=[]∨e.2.2.ownBlock≠some g)
def OwnBs (w:World) (base fl:Nat) (v:Value) (bs:List Bk):Prop:=∃es:List Eb,es.map (·.1)=bs∧OkB w es∧(∀e∈es,AwayE v e∧Fresh fl e.2.1∧Fresh fl e.2.2)∧w.ownsRow base 103 4 v es.length (flatB es)
section
variable {w w':World} {base fl:Nat} {bs:List Bk} {v:Value}
theorem IsI.grownF {l:List Int} {row:Option Nat} (h:IsI w v l) (hg:w.grownBy w' row) (hne:∀g,row=some g→l=[]∨v.ownBlock≠some g):IsI w' v l:=by
 obtain⟨A,c,rfl,h1,h2,h4⟩:=h
 refine ⟨A,c,rfl,h1,h2,h4.1,fun hn=>?_⟩
 obtain⟨ad,rfl,hb,hc⟩:=h4.2 hn
 refine ⟨ad,rfl,Nat.lt_of_lt_of_le hb hg.size,fun j y hj=>(World.cell?_of_block (hg.block _ (by rw[block_of_add];exact hb) fun e=>?_)).trans (hc j y hj)⟩
 rw[block_of_add] at e
 rcases hne _ e.symm with rfl | h
 ·simp at hn
 ·exact h rfl
theorem IsY.grownF {l:List Nat} {row:Option Nat} (h:IsY w v l) (hg:w.grownBy w' row) (hne:∀g,row=some g→l=[]∨v.ownBlock≠some g):IsY w' v l:=by
 obtain⟨A,c,rfl,h1,h2,h3,h4⟩:=h
 refine ⟨A,c,rfl,h1,h2,h3,h4.1,fun hn=>?_⟩
 obtain⟨ad,rfl,hb,hc⟩:=h4.2 hn
 refine ⟨ad,rfl,Nat.lt_of_lt_of_le hb hg.size,fun j y hj=>(World.cell?_of_block (hg.block _ (by rw[block_of_add];exact hb) fun e=>?_)).trans (hc j y hj)⟩
 rw[block_of_add] at e
 rcases hne _ e.symm with rfl | h
 ·simp at hn
 ·exact h rfl
theorem IsI.lower {l:List Int} (h:IsI w v l):l=[]∨v.ownBlock≠some w.heap.size:=by
 obtain⟨A,c,rfl,h1,h2,h4⟩:=h
 rcases List.eq_nil_or_concat l with rfl | ⟨_,_,rfl⟩
 ·exact .inl rfl
 ·obtain⟨ad,rfl,hb,_⟩:=h4.2 (by simp)
  exact .inr fun e=>by
   have :ad.block=w.heap.size:=by simpa [Value.ownBlock] using e
   omega
theorem IsY.lower {l:List Nat} (h:IsY w v l):l=[]∨v.ownBlock≠some w.heap.size:=by
 obtain⟨A,c,rfl,h1,h2,h3,h4⟩:=h
 rcases List.eq_nil_or_concat l with rfl | ⟨_,_,rfl⟩
 ·exact .inl rfl
 ·obtain⟨ad,rfl,hb,_⟩:=h4.2 (by simp)
  exact .inr fun e=>by
   have :ad.block=w.heap.size:=by simpa [Value.ownBlock] using e
   omega
theorem OwnBs.push {es ns:List Eb} {v':Value} {n:Nat} (hok:OkB w es) (haw:∀e∈es,AwayE v e∧Fresh fl e.2.1∧Fresh fl e.2.2) (hnk:OkB w ns) (hna:∀e∈ns,AwayE v e∧Fresh fl e.2.1∧Fresh fl e.2.2) (hn:n=es.length+ns.length)
 (hown:w'.ownsRow base 103 4 v' n (flatB es++flatB ns)) (hg:w.grownBy w' v.ownBlock) (hat:v'.ownBlock=v.ownBlock∨v'.ownBlock=some w.heap.size):OwnBs w' base fl v' (es.map (·.1)++ns.map (·.1)):=by
 have hall:∀e∈es++ns,(IsY w e.2.1 e.1.2.2.1∧IsI w e.2.2 e.1.2.2.2)∧AwayE v e∧Fresh fl e.2.1∧Fresh fl e.2.2:=fun e he=>(List.mem_append.1 he).elim (fun h=>⟨hok e h,haw e h⟩) (fun h=>⟨hnk e h,hna e h⟩)
 refine ⟨es++ns,by rw[List.map_append],fun e he=>?_,fun e he=>⟨fun g hgv=>?_,(hall e he).2.2⟩,by rw[flatB_append,List.length_append,←hn];exact hown⟩
 ·obtain⟨⟨h1,h2⟩,h3,_⟩:=hall e he
  exact⟨h1.grownF hg fun g e=>(h3 g e).1,h2.grownF hg fun g e=>(h3 g e).2⟩
 ·obtain⟨⟨h1,h2⟩,h3,_⟩:=hall e he
  rcases hat with h | h
  ·exact h3 g (h ▸ hgv)
  ·rw[h] at hgv
   obtain rfl:=Option.some.inj hgv
   exact⟨h1.lower,h2.lower⟩
theorem own4_form {e:TypeId} {n:Nat} {xs:List Value} (h:w.ownsRow base e 4 v n xs):∃(A:Option Addr) (c:Nat),v= .slice A n c∧n≤c∧c≤9223372036854775807∧Reads w w.heap.size 4 A n xs:=by
 have h0:=h
 rcases h.2 with ⟨rfl,rfl⟩ | ⟨g,cap,cur,rfl,hg,hh,hn,hcap,hs,ht⟩
 ·have :xs=[]:=List.eq_nil_of_length_eq_zero (by simpa using h.1)
  subst this
  exact⟨none,0,rfl,Nat.le_refl _,by omega,Reads.none_⟩
 ·exact⟨_,_,rfl,hn,hcap,Reads.of_own h0⟩
theorem OwnBs.is (h:OwnBs w base fl v bs):IsBs w v bs:=by
 obtain⟨es,h1,h2,_,h3⟩:=h
 obtain⟨A,c,e,k1,k2,k3⟩:=own4_form h3
 exact⟨es,A,c,h1,e,k1,k2,h2,k3⟩
theorem OwnBs.nil (w:World) (base fl:Nat):OwnBs w base fl (.slice none 0 0) []:=⟨[],rfl,fun _ h=>(nomatch h),fun _ h=>(nomatch h),World.ownsRow_nil _ _ _ _⟩
theorem OwnBs.below (h:OwnBs w base fl v bs) (hb:Below w.heap.size w w'):OwnBs w' base fl v bs:=by
 obtain⟨es,h1,h2,h2',h3⟩:=h
 exact⟨es,h1,h2.below hb,h2',h3.kept (row:=none) ⟨hb.os,hb.tape,hb.output,hb.size,fun k hk _=>hb.block k hk⟩ (by cases v.ownBlock<;>simp)⟩
end
theorem OwnBs.set {X i base fl:Nat} {w:World} {v:Value} {bs:List Bk} (h:OwnBs w base fl v bs) (h1:X<base) (h2:X<fl) (u:Value):OwnBs (w.setCell ⟨X,i,none⟩ u) base fl v bs:=by
 obtain⟨es,e1,e2,e3,e4⟩:=h
 refine ⟨es,e1,fun e he=>⟨(e2 e he).1.farB (p:=⟨X,i,none⟩) ((e3 e he).2.1.ne h2) u,(e2 e he).2.farB (p:=⟨X,i,none⟩) ((e3 e he).2.2.ne h2) u⟩,e3,?_⟩
 refine e4.kept (row:=some X) ⟨rfl,rfl,rfl,by simp[World.setCell],fun k _ hne=>Below.heap_setCell w ⟨X,i,none⟩ u k (fun e=>hne (by rw[e]))⟩ (.inr fun e=>?_)
 have:=(e4.lt X e).1;omega
theorem OwnBs.lower {base fl base' fl':Nat} {w:World} {v:Value} {bs:List Bk} (h:OwnBs w base fl v bs) (hb:base'≤base) (hf:fl'≤fl):OwnBs w base' fl' v bs:=by
 obtain⟨es,e1,e2,e3,e4⟩:=h
 refine ⟨es,e1,e2,fun e he=>⟨(e3 e he).1,(e3 e he).2.1.more hf,(e3 e he).2.2.more hf⟩,e4.1,?_⟩
 rcases e4.2 with h | ⟨g,cap,cur,q1,q2,q3⟩
 ·exact .inl h
 ·exact .inr ⟨g,cap,cur,q1,by omega,q3⟩
end Go.Proofs.YtdnjdglekifhpaaGreat
namespace Go.Proofs.YtdnjdglekifhpaaGreat
open Go.RowKit
abbrev OkB.b:= @OkB.below
abbrev IsBs.b:= @IsBs.below
abbrev OwnBs.b:= @OwnBs.below
end Go.Proofs.YtdnjdglekifhpaaGreat
namespace Go.Proofs.YtdnjdglekifhpaaGreat
open Go.ChangeShapes Go.WideShapes Go.ChangeAt Go.RowKit Go.Joins Go.Deep
def IsSt (w:World) (v:Value) (s:St):Prop:=∃x,v= .agg #[.int .i64 s.1,.int .i64 s.2.1,.int .i64 s.2.2.1,.int .i64 s.2.2.2.1,.int .i64 s.2.2.2.2.1,x]∧IsBs w x s.2.2.2.2.2
theorem IsSt.below {w w':World} {v:Value} {s:St} (h:IsSt w v s) (hb:Below w.heap.size w w'):IsSt w' v s:=by
 obtain⟨x,e,h⟩:=h;exact⟨x,e,h.below hb⟩
end Go.Proofs.YtdnjdglekifhpaaGreat
namespace Go.Proofs.YtdnjdglekifhpaaGreat
open Go.RowKit
abbrev IsSt.b:= @IsSt.below
end Go.Proofs.YtdnjdglekifhpaaGreat
namespace Go.Proofs.YtdnjdglekifhpaaGreat
open Go.RowKit
attribute [local go_sem ↓] Go.wp_at_zero Go.wp_at_succ
def FewB (bs:List Bk):Prop:=bs.length≤5000∧∀b∈bs,bkLen b≤5000
theorem take_bk {bs:List Bk} {j:Nat} {b:Bk} (h:bs[j]?=some b):bs.take (j+1)=bs.take j++[b]:=by
 obtain⟨hj,rfl⟩:=List.getElem?_eq_some_iff.1 h
 exact List.take_succ_eq_append_getElem hj
theorem mem_at {α:Type} {l:List α} {j:Nat} {b:α} (h:l[j]?=some b):b∈l:=List.mem_of_getElem? h
theorem FewB.take {bs:List Bk} (h:FewB bs) (j:Nat):∀b∈bs.take j,bkLen b≤5000:=fun b hb=>h.2 b (List.mem_of_mem_take hb)
def LoadB (b:Bk):Prop:=b.1=4∨(0≤b.1∧b.1≤3∧0≤b.2.1∧b.2.1≤9223372036854775807)
theorem _root_.Go.RowKit.Below.mono2 {X Y:Nat} {w w':World} (h:Below X w w') (e:Y=X):Below Y w w':=by subst e;exact h
theorem OwnQs.filled {w W:World} {base R:Nat} {v:Value} {rs:List Rat} (h:OwnQs w base v rs) (hR:v.ownBlock≠some R) (kz:∀v l,IsL w v l→IsL W v l) (kb:∀g t cs,Blk w g t cs→g≠R→Blk W g t cs):OwnQs W base v rs:=by
 obtain⟨es,h1,h2,h3⟩:=h
 rcases h2.2 with ⟨rfl,e⟩ | ⟨g,cap,cur,rfl,hg,hh,hr⟩
 ·exact⟨es,h1.kept (fun v n hn=>kz v _ hn),⟨h2.1,.inl ⟨rfl,e⟩⟩,fun g cs t fr e1 _=>by simp[Value.ownBlock] at e1⟩
 ·have hne:g≠R:=fun e=>hR (by subst e;rfl)
  have hW:Blk W g _ cur:=kb _ _ _ hh hne
  refine ⟨es,h1.kept (fun v n hn=>kz v _ hn),⟨h2.1,.inr ⟨g,cap,cur,rfl,hg,hW,hr⟩⟩,fun g' cs t fr e1 e2=>h3 g' cs t fr e1 ?_⟩
  have e3:g'=g:=by simpa [Value.ownBlock] using e1.symm
  subst e3
  have hW':W.heap[g']?=_:=hW
  rw[hW'] at e2;rw[hh];exact e2
theorem OwnQs.lower {w:World} {b b':Nat} {v:Value} {rs:List Rat} (h:OwnQs w b v rs) (hb:b'≤b):OwnQs w b' v rs:=by
 obtain⟨es,h1,h2,h3⟩:=h
 exact⟨es,h1,own_lower h2 hb,h3⟩
def boundQ (k s:Int):Rat:=if k=4 then 0 else (s:Rat)*mkRat (gz k) (2*den k).natAbs+mkRat 1 2
def rowQ (b:Bk):List Rat:=List.replicate (bkLen b) (boundQ b.1 b.2.1)
def quantS (bs:List Bk):List Rat:=bs.flatMap rowQ
theorem quantS_snoc (l:List Bk) (b:Bk):quantS (l++[b])=quantS l++rowQ b:=by simp[quantS]
theorem quantS_len:∀bs:List Bk,(quantS bs).length=lenS bs
 | []=>rfl
 | b :: r => by
   have:=quantS_len r
   simp only[quantS,List.flatMap_cons,List.length_append,lenS] at *
   rw[this];simp[rowQ]
theorem lenS_append:∀(a b:List Bk),lenS (a++b)=lenS a+lenS b
 | [],b=>by simp[lenS]
 | x::r,b=>by have:=lenS_append r b;simp only[List.cons_append,lenS];omega
theorem lenS_take (bs:List Bk) (j:Nat):lenS (bs.take j)≤lenS bs:=by
 have:=lenS_append (bs.take j) (bs.drop j)
 rw[List.take_append_drop] at this;omega
theorem den_in {k:Int} (h0:0≤k) (h1:k≤3):0<den k∧den k≤2560000000:=by
 obtain⟨n,rfl⟩:=Int.eq_ofNat_of_zero_le h0
 have :n<4:=by omega
 unfold den;(repeat' split)<;>omega
theorem gz_in {k:Int} (h0:0≤k) (h1:k≤3):0≤gz k∧gz k≤2560000000:=by
 obtain⟨n,rfl⟩:=Int.eq_ofNat_of_zero_le h0
 exact gz_bound n (by omega)
theorem quant_own (v:Value) (s:St) (w:World) (h:IsSt w v s) (hf:FewB s.2.2.2.2.2) (hn:lenS s.2.2.2.2.2≤5000) (hld:∀b∈s.2.2.2.2.2,LoadB b):
 Calls Tryz.prog 15 #[v] w fun e w'=>∃v',e= .returned v'∧OwnQs w' w.heap.size v' (quantS s.2.2.2.2.2)∧Below w.heap.size w w':=by
 obtain⟨k,z,m,o,n,bs⟩:=s
 obtain⟨x,rfl,hb⟩:=h
 simp only at *
 obtain⟨A,c,rfl,hc1,hc2⟩:=hb.len
 obtain⟨W0,hW,hR,hB⟩:=box1 w 26 #[.int .i64 k,.int .i64 z,.int .i64 m,.int .i64 o,.int .i64 n,.slice A bs.length c]
 obtain⟨g,hg⟩:∃g,g=w.heap.size:=⟨_,rfl⟩
 have z0:W0.heap.size=g+1:=by rw[hW,World.size_alloc,←hg]
 obtain⟨W1,hW1,hO,hB1⟩:=box1 W0 40 #[.slice none 0 0]
 obtain⟨X,hX⟩:∃X,X=g+1:=⟨_,rfl⟩
 have hXe:W0.heap.size=X:=by omega
 rw[←hg] at hR
 rw[hXe] at hO hB1
 have hXg:w.heap.size≤X:=by omega
 have hR1:=hR.below (hB1.mono2 hXe) hR.lt
 have hbk:=fun wr (h:Below X W0 wr)=>(hb.below hB).below (h.mono2 hXe)
 have hW':=Lib.hid (And.intro hW (And.intro hg (And.intro hW1 hX)))
 have hO0:=fun w=>pof_any 0 (by omega) (by omega) w
 have hOh:=fun w=>pover_any 1 2 w ⟨by omega,by omega⟩ ⟨by omega,by omega⟩ (by omega)
 rw[show (2:Int).natAbs=2 from rfl] at hOh
 clear hW hg hW1 hX z0 hR hb hXe
 have c5:=hR1.cell 5
 have hOc:=hO.cell 0
 go_enter Tryz.func15,Tryz.ntmps15
 go_upto_region 2 with fail
 rw[←hW'.out.1,←hW'.out.2.2.1,←hW'.out.2.1,←hW'.out.2.2.2]
 go_wp2_with fail
 clear c5 hOc
 go_loopw [12] (fun i wr=>∃(j:Nat) (vo:Value),i= .int .i64 j∧j≤bs.length∧Blk wr X 40 #[vo]∧OwnQs wr (X+1) vo (quantS (bs.take j))∧Below X W0 wr) (fun i _=>bs.length - (intOf i).toNat)
 case atStart=>exact⟨0,_,rfl,by omega,hO,by rw[List.take_zero];exact OwnQs.nil _ _,hB1⟩
 case round=>
  clear hO
  obtain⟨j,vo,rfl,hj,hO,ho,bl⟩:=hrel
  have hXr:X+1≤wr.heap.size:=hO.lt
  by_cases hlt:j<bs.length
  ·obtain⟨ad,c',k1,s1,cs,wd,a1,b1,e1,_,hat,x0,x1,x2,x3,hy,hi⟩:=(hbk _ bl).at_ hlt
   obtain⟨rfl,_,rfl⟩:=Value.slice.inj e1
   obtain⟨A2,C2,rfl,_,_⟩:=id hy.form
   obtain⟨A3,C3,rfl,_,_⟩:=id hi.form
   have hk:IsBk wr (.agg #[.int .i64 k1,.int .i64 s1,.slice A2 cs.length C2,.slice A3 wd.length C3]) k1 s1 cs wd:=⟨_,_,rfl,hy,hi⟩
   obtain⟨rs,ers⟩:∃rs,rs=quantS (bs.take j):=⟨_,rfl⟩
   have HS:=Lib.hid (show quantS (bs.take (j+1))=rs++List.replicate (cs.length+wd.length) (boundQ k1 s1) by rw[ers,take_bk hat,quantS_snoc];rfl)
   have hrl:rs.length≤5000:=by rw[ers,quantS_len];exact Nat.le_trans (lenS_take _ _) hn
   have hl:=hf.2 _ (mem_at hat)
   have hL:=hld _ (mem_at hat)
   simp only[bkLen] at hl
   rw[←ers] at ho
   clear ers e1
   have i0:(0:Int)≤(j:Int):=by omega
   have i1:(j:Int)<(bs.length:Int):=by omega
   have hLe:=fun v w h=>blen_any v k1 s1 cs wd w h (by omega) (by omega)
   obtain⟨nl,enl⟩:∃nl,nl=cs.length+wd.length:=⟨_,rfl⟩
   rw[show (cs.length:Int)+wd.length=(nl:Int) by omega] at hLe
   rw[←enl] at HS hl
   have ho6:∀g,wr.heap.size≤g→vo.ownBlock≠some g:=fun g hg e=>by have:=(ho.lt g e).2;omega
   have hQ1:=fun s p q r w hq hX ho hw=>quant1_any s p q r nl X (X+1) vo rs w hq hX ho (by omega) (Nat.le_trans hXr hw) (by omega)
   have hB:=Below.refl wr.heap.size wr
   clear hy hi hat enl hrl
   by_cases hk4:k1=4
   ·subst hk4
    rw[show boundQ 4 s1=((0:Int):Rat) from rfl] at HS
    generalize ((0:Int):Rat)=r0 at *
    clear hL hl
    obtain⟨X12,V12,h6,bV12,lX12,nX12,EV12⟩:=boxL hB 103 #[.int .i64 4,.int .i64 s1,.slice A2 cs.length C2,.slice A3 wd.length C3]
    clear nX12
    go_upto_region 6 with fail
    rw[←EV12.out.1,←EV12.out.2]
    replace hB:=bOn hB bV12
    obtain⟨c0,c1,c2,c3⟩:=h6.q4
    go_wp2_with fail
    refine (hO0 _).mono ?_
    rintro e w14 ⟨v4,rfl,q4,b14⟩
    replace h6:=h6.b b14
    replace hB:=bOn hB b14
    clear c0 c1 c2 c3
    obtain⟨c4,c5,c6,c7⟩:=h6.q4
    obtain⟨s4,A4,L4,C4,D4,M4,E4,rfl,q4⟩:=q4.opn
    obtain⟨X16,V16,h7,bV16,lX16,nX16,EV16⟩:=boxL hB 32 #[.bool s4,.slice A4 L4 C4,.slice D4 M4 E4]
    have dX16_h6:=nX16 _ h6.lt
    clear nX16
    go_upto_region 7 with fail
    rw[←EV16.out.1,←EV16.out.2]
    replace h6:=h6.b bV16
    replace q4:=q4.b bV16
    replace hB:=bOn hB bV16
    clear c4 c5 c6 c7
    obtain⟨c8,c9,c10,c11⟩:=h6.q4
    obtain⟨c12,c13,c14⟩:=h7.q3
    go_upto_region 10 with fail
    replace hB:=hB.drew
    replace h6:=h6.drew
    replace q4:=q4.b (bdrew _)
    replace h7:=h7.drew
    clear c8 c9 c10 c11 c12 c13 c14
    refine wp_region_noPanic ?_
    refine wp_region_held_drew (S:=fun w'=>w'.cell? ⟨X12,0,none⟩=some (.int .i64 4)∧w'.cell? ⟨X12,1,none⟩=some (.int .i64 s1)∧w'.cell? ⟨X12,2,none⟩=some (.slice A2 cs.length C2)∧w'.cell? ⟨X12,3,none⟩=some (.slice A3 wd.length C3)∧w'.cell? ⟨X16,0,none⟩=some (.bool s4)∧w'.cell? ⟨X16,1,none⟩=some (.slice A4 L4 C4)∧w'.cell? ⟨X16,2,none⟩=some (.slice D4 M4 E4)) (by kernel_rfl) ?_ (fun hHeld=>?_)
    ·exact⟨h6.cell 0,h6.cell 1,h6.cell 2,h6.cell 3,h7.cell 0,h7.cell 1,h7.cell 2⟩
    obtain⟨wd10_1,hwd⟩:∃q,q=V16.drew:=⟨_,rfl⟩
    rw[←hwd] at hB h6 q4 h7 hHeld ⊢
    clear hwd
    refine tkA 0 rfl ?_
    refine tkA 1 rfl ?_
    refine tkA 2 rfl ?_
    try simp only[lay]
    refine rd1 3 rfl fun K hK=>?_
    go_simp
    refine (hLe _ _ (hk.below hB)).mono ?_
    rintro e u10_1 ⟨rfl,b10_1⟩
    replace h6:=h6.b b10_1
    replace q4:=q4.b b10_1
    replace h7:=h7.b b10_1
    replace hB:=bOn hB b10_1
    go_wp2_with fail
    refine hK.out _ _ ?_ fun hHeld=>?_
    ·exact⟨h6.cell 0,h6.cell 1,h6.cell 2,h6.cell 3,h7.cell 0,h7.cell 1,h7.cell 2⟩
    clear hK K
    try simp only[lay]
    refine rd1 4 rfl fun K hK=>?_
    go_simp
    refine (hQ1 _ _ _ _ _ q4 (hO.below hB hO.lt) (ho.below hB) hB.size).mono ?_
    rintro e u10_2 ⟨⟨x1,rfl⟩,⟨v12,hO2,ho2,ha2⟩,hb2⟩
    replace h6:=ha2.blk h6 (by omega) (ho6 _ (by assumption))
    replace h7:=ha2.blk h7 (by omega) (ho6 _ (by assumption))
    go_wp2_with fail
    refine hK.out _ _ ?_ fun hHeld=>?_
    ·exact⟨h6.cell 0,h6.cell 1,h6.cell 2,h6.cell 3,h7.cell 0,h7.cell 1,h7.cell 2⟩
    clear hK K
    try simp only[lay]
    refine wpAnyH_done (by kernel_rfl) ?_ _
    refine NoPanic.normal ?_
    skip
    obtain⟨c15,c16,c17,c18⟩:=h6.q4
    obtain⟨c19,c20,c21⟩:=h7.q3
    go_wp2
    refine ⟨⟨j+1,v12,by go_num,by omega,hO2,?_,bl.trans ((hB.mono (by omega)).trans hb2)⟩,by simp[intOf];omega⟩
    rw[HS.out];exact ho2
   ·obtain⟨k0,k3,s0,s3⟩:=hL.resolve_left hk4
    simp only at k0 k3 s0 s3
    have hOs:=fun w=>pof_any s1 (by omega) s3 w
    have hGa:=fun w=>gap_any k1 w
    have hDe:=fun w=>den_any k1 w
    obtain⟨d0,d1⟩:=den_in k0 k3
    obtain⟨g0,g1⟩:=gz_in k0 k3
    have hOv:=fun w=>pover_any (gz k1) (2*den k1) w ⟨by omega,by omega⟩ ⟨by omega,by omega⟩ (by omega)
    have sg:BQ (mkRat (gz k1) (2*den k1).natAbs) 1:=BQ.mk (Sz.u64 (by unfold W64;omega)) (Sz.u64 (by unfold W64;omega)) (by omega)
    have ss:BQ (s1:Rat) 1:=BQ.int (by unfold W64;omega)
    have hMu:=fun u v w hu hv=>pmul_any u v (s1:Rat) (mkRat (gz k1) (2*den k1).natAbs) w hu hv (ss.more (by omega)) (sg.more (by omega))
    have sm:=ss.mul sg
    have sh:BQ (mkRat 1 2) 1:=BQ.mk Sz.one (Sz.u64 (by unfold W64;omega)) (by omega)
    have hAd:=fun u v w hu hv=>pradd_any u v ((s1:Rat)*mkRat (gz k1) (2*den k1).natAbs) (mkRat 1 2) w hu hv (sm.more (by omega)) (sh.more (by omega))
    rw[show (s1:Rat)*mkRat (gz k1) (2*den k1).natAbs+mkRat 1 2=boundQ k1 s1 from (if_neg hk4).symm] at hAd
    have w2:IntKind.i64.wrap (2*den k1)=2*den k1:=by rw[IntKind.wrap_i64];omega
    clear sg ss sm sh
    generalize boundQ k1 s1=rb at *
    generalize (s1:Rat)*mkRat (gz k1) (2*den k1).natAbs=rm at *
    generalize mkRat (gz k1) (2*den k1).natAbs=rg at *
    generalize mkRat 1 2=rh at *
    generalize gz k1=G at *
    generalize den k1=D at *
    generalize ((0:Int):Rat)=r0 at *
    generalize (s1:Rat)=rq at *
    clear hL hl
    obtain⟨X12,V12,h6,bV12,lX12,nX12,EV12⟩:=boxL hB 103 #[.int .i64 k1,.int .i64 s1,.slice A2 cs.length C2,.slice A3 wd.length C3]
    clear nX12
    go_upto_region 6 with fail
    rw[←EV12.out.1,←EV12.out.2]
    replace hB:=bOn hB bV12
    obtain⟨c0,c1,c2,c3⟩:=h6.q4
    go_wp2_with fail
    refine (hO0 _).mono ?_
    rintro e w14 ⟨v4,rfl,q4,b14⟩
    replace h6:=h6.b b14
    replace hB:=bOn hB b14
    clear c0 c1 c2 c3
    obtain⟨c4,c5,c6,c7⟩:=h6.q4
    obtain⟨s4,A4,L4,C4,D4,M4,E4,rfl,q4⟩:=q4.opn
    obtain⟨X16,V16,h7,bV16,lX16,nX16,EV16⟩:=boxL hB 32 #[.bool s4,.slice A4 L4 C4,.slice D4 M4 E4]
    have dX16_h6:=nX16 _ h6.lt
    clear nX16
    go_upto_region 7 with fail
    rw[←EV16.out.1,←EV16.out.2]
    replace h6:=h6.b bV16
    replace q4:=q4.b bV16
    replace hB:=bOn hB bV16
    clear c4 c5 c6 c7
    obtain⟨c8,c9,c10,c11⟩:=h6.q4
    obtain⟨c12,c13,c14⟩:=h7.q3
    go_upto_region 8 with fail
    replace hB:=hB.drew
    replace h6:=h6.drew
    replace q4:=q4.b (bdrew _)
    replace h7:=h7.drew
    clear c8 c9 c10 c11 c12 c13 c14
    refine wp_region_noPanic ?_
    refine wp_region_held_drew (S:=fun w'=>w'.cell? ⟨X12,0,none⟩=some (.int .i64 k1)∧w'.cell? ⟨X12,1,none⟩=some (.int .i64 s1)∧w'.cell? ⟨X12,2,none⟩=some (.slice A2 cs.length C2)∧w'.cell? ⟨X12,3,none⟩=some (.slice A3 wd.length C3)) (by kernel_rfl) ?_ (fun hHeld=>?_)
    ·exact⟨h6.cell 0,h6.cell 1,h6.cell 2,h6.cell 3⟩
    obtain⟨wd8_1,hwd⟩:∃q,q=V16.drew:=⟨_,rfl⟩
    rw[←hwd] at hB h6 q4 h7 hHeld ⊢
    clear hwd
    refine tkA 0 rfl ?_
    refine tkA 1 rfl ?_
    refine tkA 3 rfl ?_
    refine tkA 4 rfl ?_
    refine tkA 6 rfl ?_
    refine tkA 7 rfl ?_
    try simp only[lay]
    refine rd1 2 rfl fun K hK=>?_
    go_simp
    refine (hOs _).mono ?_
    rintro e u8_1 ⟨v5,rfl,q5,b8_1⟩
    replace h6:=h6.b b8_1
    replace q4:=q4.b b8_1
    replace h7:=h7.b b8_1
    replace hB:=bOn hB b8_1
    obtain⟨s5,A5,L5,C5,D5,M5,E5,rfl,q5⟩:=q5.opn
    go_wp2_with fail
    refine hK.out _ _ ?_ fun hHeld=>?_
    ·exact⟨h6.cell 0,h6.cell 1,h6.cell 2,h6.cell 3⟩
    clear hK K
    try simp only[lay]
    refine rd1 5 rfl fun K hK=>?_
    go_simp
    refine (hGa _).mono ?_
    rintro e u8_2 ⟨rfl,b8_2⟩
    replace h6:=h6.b b8_2
    replace q4:=q4.b b8_2
    replace h7:=h7.b b8_2
    replace q5:=q5.b b8_2
    replace hB:=bOn hB b8_2
    go_wp2_with fail
    refine hK.out _ _ ?_ fun hHeld=>?_
    ·exact⟨h6.cell 0,h6.cell 1,h6.cell 2,h6.cell 3⟩
    clear hK K
    try simp only[lay]
    refine rd1 8 rfl fun K hK=>?_
    go_simp
    refine (hDe _).mono ?_
    rintro e u8_3 ⟨rfl,rfl⟩
    go_wp2_with fail
    refine hK.out _ _ ?_ fun hHeld=>?_
    ·exact⟨h6.cell 0,h6.cell 1,h6.cell 2,h6.cell 3⟩
    clear hK K
    refine tkA 9 rfl ?_
    try simp only[lay]
    refine rd1 10 rfl fun K hK=>?_
    go_simp
    refine (hOv _).mono ?_
    rintro e u8_4 ⟨v8,rfl,q8,b8_4⟩
    replace h6:=h6.b b8_4
    replace q4:=q4.b b8_4
    replace h7:=h7.b b8_4
    replace q5:=q5.b b8_4
    replace hB:=bOn hB b8_4
    obtain⟨s8,A8,L8,C8,D8,M8,E8,rfl,q8⟩:=q8.opn
    go_wp2_with fail
    refine hK.out _ _ ?_ fun hHeld=>?_
    ·exact⟨h6.cell 0,h6.cell 1,h6.cell 2,h6.cell 3⟩
    clear hK K
    try simp only[lay]
    refine rd1 11 rfl fun K hK=>?_
    go_simp
    refine (hMu _ _ _ q5 q8).mono ?_
    rintro e u8_5 ⟨v9,rfl,q9,b8_5⟩
    replace h6:=h6.b b8_5
    replace q4:=q4.b b8_5
    replace h7:=h7.b b8_5
    replace q5:=q5.b b8_5
    replace q8:=q8.b b8_5
    replace hB:=bOn hB b8_5
    obtain⟨s9,A9,L9,C9,D9,M9,E9,rfl,q9⟩:=q9.opn
    go_wp2_with fail
    refine hK.out _ _ ?_ fun hHeld=>?_
    ·exact⟨h6.cell 0,h6.cell 1,h6.cell 2,h6.cell 3⟩
    clear hK K
    try simp only[lay]
    refine rd1 12 rfl fun K hK=>?_
    obtain⟨u8_6,eu,h7',kz,kb,kB⟩:=fill3 h7 (.bool s9) (.slice A9 L9 C9) (.slice D9 M9 E9) (by simp[noU])
    obtain⟨x0,x1,x2⟩:=h7.q3
    have xf:=h7.frozen
    go_simp
    rw[←eu]
    replace h6:=kb _ _ _ h6 (by omega)
    replace q4:=q4.filled kz
    replace q5:=q5.filled kz
    replace q8:=q8.filled kz
    replace q9:=q9.filled kz
    replace hB:=kB _ _ (by omega) hB
    replace h7:=h7'
    clear h7' kz kb kB eu xf x0 x1 x2
    refine hK.out _ _ ?_ fun hHeld=>?_
    ·exact⟨h6.cell 0,h6.cell 1,h6.cell 2,h6.cell 3⟩
    clear hK K
    try simp only[lay]
    refine wpAnyH_done (by kernel_rfl) ?_ _
    refine NoPanic.normal ?_
    skip
    obtain⟨c15,c16,c17,c18⟩:=h6.q4
    obtain⟨c19,c20,c21⟩:=h7.q3
    go_upto_region 9 with fail
    replace hB:=hB.drew
    replace h6:=h6.drew
    replace h7:=h7.drew
    replace q9:=q9.b (bdrew _)
    clear c15 c16 c17 c18 c19 c20 c21
    go_cut [] (fun wx=>∃s11 A11 L11 C11 D11 M11 E11,Blk wx X12 103 #[.int .i64 k1,.int .i64 s1,.slice A2 cs.length C2,.slice A3 wd.length C3]∧Blk wx X16 32 #[.bool s11,.slice A11 L11 C11,.slice D11 M11 E11]∧IsQ wx (.agg #[.bool s11,.slice A11 L11 C11,.slice D11 M11 E11]) rb∧Below wr.heap.size wr wx)
    case first=>
     refine wp_region_noPanic ?_
     refine wp_region_held_drew (S:=fun w'=>True) (by kernel_rfl) ?_ (fun hHeld=>?_)
     ·trivial
     obtain⟨wd9_2,hwd⟩:∃q,q=u8_6.drew:=⟨_,rfl⟩
     rw[←hwd] at hB h6 h7 q9 ⊢
     clear hwd
     refine rd2 0 1 rfl rfl (fun K hK=>?_) fun K hK=>?_
     ·have x0:World.cell? _ ⟨X16,0,none⟩=some (.bool s9):=h7.cell 0
      have x1:World.cell? _ ⟨X16,1,none⟩=some (.slice A9 L9 C9):=h7.cell 1
      have x2:World.cell? _ ⟨X16,2,none⟩=some (.slice D9 M9 E9):=h7.cell 2
      go_simp
      clear x0 x1 x2
      refine hK.out _ _ ?_ fun hHeld=>?_
      ·trivial
      clear hK K
      try simp only[lay]
      refine rd1 1 rfl fun K hK=>?_
      go_simp
      refine (hOh _).mono ?_
      rintro e u9_2 ⟨v10,rfl,q10,b9_2⟩
      replace h6:=h6.b b9_2
      replace h7:=h7.b b9_2
      replace q9:=q9.b b9_2
      replace hB:=bOn hB b9_2
      obtain⟨s10,A10,L10,C10,D10,M10,E10,rfl,q10⟩:=q10.opn
      go_wp2_with fail
      refine hK.out _ _ ?_ fun hHeld=>?_
      ·trivial
      clear hK K
      try simp only[lay]
      refine rd1 2 rfl fun K hK=>?_
      go_simp
      refine (hAd _ _ _ q9 q10).mono ?_
      rintro e u9_3 ⟨v11,rfl,q11,b9_3⟩
      replace h6:=h6.b b9_3
      replace h7:=h7.b b9_3
      replace q9:=q9.b b9_3
      replace q10:=q10.b b9_3
      replace hB:=bOn hB b9_3
      obtain⟨s11,A11,L11,C11,D11,M11,E11,rfl,q11⟩:=q11.opn
      go_wp2_with fail
      refine hK.out _ _ ?_ fun hHeld=>?_
      ·trivial
      clear hK K
      try simp only[lay]
      refine rd1 3 rfl fun K hK=>?_
      obtain⟨u9_4,eu,h7',kz,kb,kB⟩:=fill3 h7 (.bool s11) (.slice A11 L11 C11) (.slice D11 M11 E11) (by simp[noU])
      obtain⟨x0,x1,x2⟩:=h7.q3
      have xf:=h7.frozen
      go_simp
      rw[←eu]
      replace h6:=kb _ _ _ h6 (by omega)
      replace q9:=q9.filled kz
      replace q10:=q10.filled kz
      replace q11:=q11.filled kz
      replace hB:=kB _ _ (by omega) hB
      replace h7:=h7'
      clear h7' kz kb kB eu xf x0 x1 x2
      refine hK.out _ _ ?_ fun hHeld=>?_
      ·trivial
      clear hK K
      try simp only[lay]
      refine wpAnyH_done (by kernel_rfl) ?_ _
      refine NoPanic.normal ?_
      go_wp2_with fail
      go_meet
      exact⟨s11,A11,L11,C11,D11,M11,E11,h6,h7,q11,hB⟩
     ·go_simp
      refine (hOh _).mono ?_
      rintro e u9_5 ⟨v10,rfl,q10,b9_5⟩
      replace h6:=h6.b b9_5
      replace h7:=h7.b b9_5
      replace q9:=q9.b b9_5
      replace hB:=bOn hB b9_5
      obtain⟨s10,A10,L10,C10,D10,M10,E10,rfl,q10⟩:=q10.opn
      go_wp2_with fail
      refine hK.out _ _ ?_ fun hHeld=>?_
      ·trivial
      clear hK K
      try simp only[lay]
      refine rd1 0 rfl fun K hK=>?_
      obtain⟨x0,x1,x2⟩:=h7.q3
      go_simp
      clear x0 x1 x2
      refine hK.out _ _ ?_ fun hHeld=>?_
      ·trivial
      clear hK K
      try simp only[lay]
      refine rd1 2 rfl fun K hK=>?_
      go_simp
      refine (hAd _ _ _ q9 q10).mono ?_
      rintro e u9_7 ⟨v11,rfl,q11,b9_7⟩
      replace h6:=h6.b b9_7
      replace h7:=h7.b b9_7
      replace q9:=q9.b b9_7
      replace q10:=q10.b b9_7
      replace hB:=bOn hB b9_7
      obtain⟨s11,A11,L11,C11,D11,M11,E11,rfl,q11⟩:=q11.opn
      go_wp2_with fail
      refine hK.out _ _ ?_ fun hHeld=>?_
      ·trivial
      clear hK K
      try simp only[lay]
      refine rd1 3 rfl fun K hK=>?_
      obtain⟨u9_8,eu,h7',kz,kb,kB⟩:=fill3 h7 (.bool s11) (.slice A11 L11 C11) (.slice D11 M11 E11) (by simp[noU])
      obtain⟨x0,x1,x2⟩:=h7.q3
      have xf:=h7.frozen
      go_simp
      rw[←eu]
      replace h6:=kb _ _ _ h6 (by omega)
      replace q9:=q9.filled kz
      replace q10:=q10.filled kz
      replace q11:=q11.filled kz
      replace hB:=kB _ _ (by omega) hB
      replace h7:=h7'
      clear h7' kz kb kB eu xf x0 x1 x2
      refine hK.out _ _ ?_ fun hHeld=>?_
      ·trivial
      clear hK K
      try simp only[lay]
      refine wpAnyH_done (by kernel_rfl) ?_ _
      refine NoPanic.normal ?_
      go_wp2_with fail
      go_meet
      exact⟨s11,A11,L11,C11,D11,M11,E11,h6,h7,q11,hB⟩
    obtain⟨s11,A11,L11,C11,D11,M11,E11,h6,h7,q11,hB⟩:=hcut
    obtain⟨c22,c23,c24,c25⟩:=h6.q4
    obtain⟨c26,c27,c28⟩:=h7.q3
    go_upto_region 10 with fail
    replace hB:=hB.drew
    replace h6:=h6.drew
    replace h7:=h7.drew
    replace q11:=q11.b (bdrew _)
    clear c22 c23 c24 c25 c26 c27 c28
    refine wp_region_noPanic ?_
    refine wp_region_held_drew (S:=fun w'=>w'.cell? ⟨X12,0,none⟩=some (.int .i64 k1)∧w'.cell? ⟨X12,1,none⟩=some (.int .i64 s1)∧w'.cell? ⟨X12,2,none⟩=some (.slice A2 cs.length C2)∧w'.cell? ⟨X12,3,none⟩=some (.slice A3 wd.length C3)∧w'.cell? ⟨X16,0,none⟩=some (.bool s11)∧w'.cell? ⟨X16,1,none⟩=some (.slice A11 L11 C11)∧w'.cell? ⟨X16,2,none⟩=some (.slice D11 M11 E11)) (by kernel_rfl) ?_ (fun hHeld=>?_)
    ·exact⟨h6.cell 0,h6.cell 1,h6.cell 2,h6.cell 3,h7.cell 0,h7.cell 1,h7.cell 2⟩
    obtain⟨wd10_3,hwd⟩:∃q,q=wc.drew:=⟨_,rfl⟩
    rw[←hwd] at hB h6 h7 q11 hHeld ⊢
    clear hwd
    refine tkA 0 rfl ?_
    refine tkA 1 rfl ?_
    refine tkA 2 rfl ?_
    try simp only[lay]
    refine rd1 3 rfl fun K hK=>?_
    go_simp
    refine (hLe _ _ (hk.below hB)).mono ?_
    rintro e u10_1 ⟨rfl,b10_1⟩
    replace h6:=h6.b b10_1
    replace h7:=h7.b b10_1
    replace q11:=q11.b b10_1
    replace hB:=bOn hB b10_1
    go_wp2_with fail
    refine hK.out _ _ ?_ fun hHeld=>?_
    ·exact⟨h6.cell 0,h6.cell 1,h6.cell 2,h6.cell 3,h7.cell 0,h7.cell 1,h7.cell 2⟩
    clear hK K
    try simp only[lay]
    refine rd1 4 rfl fun K hK=>?_
    go_simp
    refine (hQ1 _ _ _ _ _ q11 (hO.below hB hO.lt) (ho.below hB) hB.size).mono ?_
    rintro e u10_2 ⟨⟨x1,rfl⟩,⟨v12,hO2,ho2,ha2⟩,hb2⟩
    replace h6:=ha2.blk h6 (by omega) (ho6 _ (by assumption))
    replace h7:=ha2.blk h7 (by omega) (ho6 _ (by assumption))
    go_wp2_with fail
    refine hK.out _ _ ?_ fun hHeld=>?_
    ·exact⟨h6.cell 0,h6.cell 1,h6.cell 2,h6.cell 3,h7.cell 0,h7.cell 1,h7.cell 2⟩
    clear hK K
    try simp only[lay]
    refine wpAnyH_done (by kernel_rfl) ?_ _
    refine NoPanic.normal ?_
    skip
    obtain⟨c29,c30,c31,c32⟩:=h6.q4
    obtain⟨c33,c34,c35⟩:=h7.q3
    go_wp2
    refine ⟨⟨j+1,v12,by go_num,by omega,hO2,?_,bl.trans ((hB.mono (by omega)).trans hb2)⟩,by simp[intOf];omega⟩
    rw[HS.out];exact ho2
  ·obtain rfl:j=bs.length:=by omega
   rw[List.take_length] at ho
   have ho0:=hO.cell 0
   go_wp2
   go_ret
   exact⟨_,rfl,ho.lower (by omega),hB.trans (bl.mono hXg)⟩
theorem quant_any (v:Value) (s:St) (w:World) (h:IsSt w v s) (hf:FewB s.2.2.2.2.2) (hn:lenS s.2.2.2.2.2≤5000) (hld:∀b∈s.2.2.2.2.2,LoadB b):
 Calls Tryz.prog 15 #[v] w fun e w'=>∃v',e= .returned v'∧IsQs w' v' (quantS s.2.2.2.2.2)∧Below w.heap.size w w':=
 (quant_own v s w h hf hn hld).mono fun _ _ ⟨_,e,ho,hB⟩=>⟨_,e,ho.is,hB⟩
end Go.Proofs.YtdnjdglekifhpaaGreat
namespace Go.Proofs.YtdnjdglekifhpaaGreat
open Go.RowKit
section
variable {P:Program} {ops:Array Oper} {Q:Exit→Act→World→Prop} {md:Region.Mode} {S:World→Prop}
theorem getD_true {l:Array Bool} {i:Nat} (h:l.getD i true=false):∃h':i<l.size,l[i]=false:=by
 rcases Nat.lt_or_ge i l.size with h' | h'
 ·exact⟨h',by simpa [h'] using h⟩
 ·rw[Array.getD_eq_getD_getElem?,Array.getElem?_eq_none h'] at h;cases h
theorem wpAnyH_until (I:Array Bool→Act→World→Prop) (T:Array Bool→Bool)
 (hord:∀(i:Nat) (o:Oper),ops[i]?=some o→∀e∈o.after,Region.binds md e=true→e.on<i)
 (hsz:∀l a w,I l a w→l.size=ops.size)
 (hT:∀l a w,I l a w→(∀i,i<ops.size→l.getD i false=true)→T l=true)
 (hgo:∀fuel l a w,I l a w→T l=true→l.count false≤fuel→wpAnyH P md ops Q S fuel l a w)
 (hstep : ∀ (l : Array Bool) (a : Act) (w : World) (i : Nat) (o : Oper), I l a w → T l = false → ops[i]? = some o → l.getD i true = false → (∀ e ∈ o.after, Region.binds md e = true → l.getD e.on false = true) →
  ∀K:Act→World→Prop,Shut (∀a' w',S w'→I (l.setIfInBounds i true) a' w'→K a' w')→if Region.wanted o (yielded ops a.tmps)=true then Oper.wp P o a w K Q else K (a.put o.dst undef) w):
 ∀fuel l a w,I l a w→l.count false≤fuel→wpAnyH P md ops Q S fuel l a w:=by
 have hall:∀l a w,I l a w→Region.ready md ops l=[]→∀i,i<ops.size→l.getD i false=true:=by
  intro l a w hI hr i
  induction i using Nat.strongRecOn with
  | _ i ih =>
    intro hi
    cases h:l.getD i true
    ·exfalso
     have ho:ops[i]?=some ops[i]:=Array.getElem?_eq_getElem hi
     have :i∈Region.ready md ops l:=mem_ready.2 ⟨h,_,ho,fun e he hb=>ih e.on (hord i _ ho e he hb) (Nat.lt_trans (hord i _ ho e he hb) hi)⟩
     rw[hr] at this;cases this
    ·have hs:=hsz l a w hI
     have hi':i<l.size:=by omega
     simp[hi'] at h ⊢
     exact h
 intro fuel
 induction fuel with
 | zero =>
   intro l a w hI hc
   cases hTl:T l
   ·exfalso
    have hr:Region.ready md ops l=[]:=by
     rw[List.eq_nil_iff_forall_not_mem]
     intro i hi
     obtain⟨h',hf⟩:=getD_true (mem_ready.1 hi).1
     have :0<l.count false:=Array.count_pos_iff.2 (hf ▸ Array.getElem_mem h')
     omega
    rw[hT l a w hI (hall l a w hI hr)] at hTl;cases hTl
   ·exact hgo 0 l a w hI hTl hc
 | succ fuel ih =>
   intro l a w hI hc
   cases hTl:T l
   ·refine ⟨fun hr=>?_,fun i hi=>?_⟩
    ·rw[hT l a w hI (hall l a w hI hr)] at hTl;cases hTl
    ·obtain⟨h1,o,ho,h2⟩:=mem_ready.1 hi
     obtain⟨h',hf⟩:=getD_true h1
     refine wpOp_step ho (fun K hK=>hstep l a w i o hI hTl ho h1 h2 K (fun a' w' hS hI=>hK a' w' ⟨hS,ih _ a' w' hI ?_⟩))
     rw[Array.setIfInBounds_def,dif_pos h']
     have:=Array.count_set (a:=true) (b:=false) h'
     rw[this,hf]
     have :0<l.count false:=Array.count_pos_iff.2 (hf ▸ Array.getElem_mem h')
     simp
     omega
   ·exact hgo (fuel+1) l a w hI hTl hc
end
theorem hord_of {ops:Array Oper} {md:Region.Mode} (h:((List.range ops.size).all fun i=>((ops[i]?).map fun o=>o.after.all fun e=> !Region.binds md e || decide (e.on<i)).getD true)=true):∀(i:Nat) (o:Oper),ops[i]?=some o→∀e∈o.after,Region.binds md e=true→e.on<i:=by
 intro i o ho e he hb
 have hi:i<ops.size:=by
  rcases Nat.lt_or_ge i ops.size with h' | h'
  ·exact h'
  ·rw[Array.getElem?_eq_none h'] at ho;cases ho
 have:=List.all_eq_true.1 h i (List.mem_range.2 hi)
 rw[ho] at this
 simp only[Option.map_some,Option.getD_some] at this
 have:=Array.all_eq_true_iff_forall_mem.1 this e he
 rw[hb] at this
 exact of_decide_eq_true (by simpa using this)
def Got (t:TypeId) (c:Array Value) (B:Nat) (w:World) (b:Bool) (x:Value) (n:Nat):Prop:=b=true→x= .pointer (some ⟨n,0,none⟩)∧B≤n∧Blk w n t c
section
variable {t t':TypeId} {c c':Array Value} {B n n':Nat} {w w':World} {b b':Bool} {x y:Value}
theorem Got.below (h:Got t c B w b x n) (hb:Below w.heap.size w w'):Got t c B w' b x n:=fun e=>⟨(h e).1,(h e).2.1,(h e).2.2.below hb (h e).2.2.lt⟩
theorem Got.alloc (h:Got t c B w b x n) (o:Obj):Got t c B (w.alloc o) b x n:=fun e=>⟨(h e).1,(h e).2.1,(h e).2.2.alloc o⟩
theorem Got.drew (h:Got t c B w b x n):Got t c B w.drew b x n:=h
theorem Got.new (h:B≤w.heap.size):Got t c B (w.alloc (.cells c t)) true (.pointer (some ⟨w.heap.size,0,none⟩)) w.heap.size:=fun _=>⟨rfl,h,Blk.new w t c⟩
end
end Go.Proofs.YtdnjdglekifhpaaGreat
namespace Go.Proofs.YtdnjdglekifhpaaGreat
open Go.RowKit
abbrev Got.b:= @Got.below
end Go.Proofs.YtdnjdglekifhpaaGreat
namespace Go.Proofs.YtdnjdglekifhpaaGreat
open Go.RowKit
def dstOf (ops:Array Oper) (i:Nat):Option Nat:=(ops[i]?).bind (·.dst)
def waits (md:Region.Mode) (o:Oper) (j:Nat):Bool:=o.after.any fun e=>Region.binds md e && e.on == j
def putAll:List Value→List (Nat×Value)→List Value
 | t,[]=>t
 | t,(d,v)::r=>putAll (t.set d v) r
theorem tmps_of (x:Array Value):∀(ds:List (Nat×Value)) (t:List Value),(∀p∈ds,x[p.1]?=some p.2)→(∀s,(ds.map (·.1)).contains s=false→x[s]?=t[s]?)→x.size=t.length→x=(putAll t ds).toArray
 | [], t, _, h2, _ => by
   apply Array.ext_getElem?
   intro i
   rw[h2 i rfl];simp[putAll]
 | (d, v) :: r, t, h1, h2, h3 => by
   unfold putAll
   refine tmps_of x r (t.set d v) (fun p hp=>h1 p (List.mem_cons_of_mem _ hp)) (fun s hs=>?_) (by simp[h3])
   by_cases e:d=s
   ·subst e
    have hx:x[d]?=some v:=h1 (d,v) (by simp)
    have hd:d<t.length:=by
     have:=(Array.getElem?_eq_some_iff.1 hx).1
     omega
    rw[hx,List.getElem?_set_self hd]
   ·rw[List.getElem?_set_ne e]
    refine h2 s ?_
    rw[List.map_cons,List.contains_cons,hs,Bool.or_false,beq_eq_false_iff_ne]
    exact fun h=>e h.symm
section
variable {P:Program} {ops:Array Oper} {Q:Exit→Act→World→Prop} {md:Region.Mode}
abbrev Env (md:Region.Mode) (w0:World) (base:List Value) (part:List (Nat×Nat)) (F:Nat→Value→World→Prop) (o:Oper) (a:Act) (w:World):Prop:=
 Below w0.heap.size w0 w∧(∀s v,(part.map (·.2)).contains s=false→base[s]?=some v→a.tmps[s]?=some v)∧(∀j e,(part.contains (j,e) && waits md o j)=true→∃v,a.tmps[e]?=some v∧F j v w)
inductive AllOps (P:Program) (ops:Array Oper) (Q:Exit→Act→World→Prop) (md:Region.Mode) (w0:World) (base:List Value) (part:List (Nat×Nat)) (F:Nat→Value→World→Prop):List (Nat×Nat)→Prop
 | nil:AllOps P ops Q md w0 base part F []
 | cons {i d:Nat} {r:List (Nat×Nat)} {o:Oper} (ho:ops[i]?=some o)
  (h:∀(a:Act) (w:World),Env md w0 base part F o a w→∀K:Act→World→Prop,(∀v w',F i v w'→Below w.heap.size w w'→K (a.put o.dst v) w')→Oper.wp P o a w K Q)
  (hr:AllOps P ops Q md w0 base part F r):AllOps P ops Q md w0 base part F ((i,d)::r)
theorem AllOps.get {w0:World} {base:List Value} {part:List (Nat×Nat)} {F:Nat→Value→World→Prop}:∀{l:List (Nat×Nat)},AllOps P ops Q md w0 base part F l→∀i d,(i,d)∈l→∃o,ops[i]?=some o∧
 ∀(a:Act) (w:World),Env md w0 base part F o a w→∀K:Act→World→Prop,(∀v w',F i v w'→Below w.heap.size w w'→K (a.put o.dst v) w')→Oper.wp P o a w K Q
 | _,.nil,_,_,h=>by cases h
 | _, .cons ho h hr, i, d, hm => by
   rcases List.mem_cons.1 hm with e | hm
   ·cases e;exact⟨_,ho,h⟩
   ·exact hr.get i d hm
inductive AllPure (P:Program) (ops:Array Oper) (md:Region.Mode) (w0:World) (base:List Value) (part:List (Nat×Nat)) (F:Nat→Value→World→Prop):List (Nat×Nat)→Prop
 | nil:AllPure P ops md w0 base part F []
 | cons {i d:Nat} {r:List (Nat×Nat)} {o:Oper} (ho:ops[i]?=some o)
  (h:∀(a:Act) (w:World),Env md w0 base part F o a w→∃v,(∀w',(execOp a.eval o).run P w'= .ok (.value v) w')∧F i v w)
  (hr:AllPure P ops md w0 base part F r):AllPure P ops md w0 base part F ((i,d)::r)
theorem AllPure.get {w0:World} {base:List Value} {part:List (Nat×Nat)} {F:Nat→Value→World→Prop}:∀{l:List (Nat×Nat)},AllPure P ops md w0 base part F l→∀i d,(i,d)∈l→∃o,ops[i]?=some o∧
 ∀(a:Act) (w:World),Env md w0 base part F o a w→∃v,(∀w',(execOp a.eval o).run P w'= .ok (.value v) w')∧F i v w
 | _,.nil,_,_,h=>by cases h
 | _, .cons ho h hr, i, d, hm => by
   rcases List.mem_cons.1 hm with e | hm
   ·cases e;exact⟨_,ho,h⟩
   ·exact hr.get i d hm
def partOk (ops:Array Oper) (md:Region.Mode) (l0:Array Bool) (part:List (Nat×Nat)) (lazy:List Nat):Bool:=
 decide (l0.size=ops.size) && decide (part.map (·.1)).Nodup && decide (part.map (·.2)).Nodup &&
 (part.all fun p=>dstOf ops p.1 == some p.2 && ((ops[p.1]?).map fun o=>o.guard.isNone).getD false && !(l0.getD p.1 true)) &&
 ((List.range ops.size).all fun i=>l0.getD i true || (part.map (·.1)).contains i || (part.all fun p=>lazy.contains p.1 || ((ops[i]?).map fun o=>waits md o p.1).getD false))
def lazyOk (ops:Array Oper) (md:Region.Mode) (l0 Lm:Array Bool) (part pur:List (Nat×Nat)) (lazy:List Nat):Bool:=
 Region.noSelect ops && (lazy.all fun i=>(pur.map (·.1)).contains i && Region.free md ops Lm i && ((ops[i]?).map fun o=>o.after.all fun e=> !Region.binds md e || l0.getD e.on false || ((part.map (·.1)).contains e.on && !lazy.contains e.on)).getD false)
def lift (l0:Array Bool) (ps:List Nat):Array Bool:=ps.foldl (fun l i=>l.setIfInBounds i true) l0
theorem lift_at (ps:List Nat):∀(l:Array Bool),(lift l ps).size=l.size∧∀i,i<l.size→(lift l ps)[i]?=some (ps.contains i || l.getD i true):=by
 induction ps with
 | nil=>intro l;refine ⟨rfl,fun i hi=>?_⟩;simp[lift,hi]
 | cons p r ih =>
   intro l
   obtain⟨k1,k2⟩:=ih (l.setIfInBounds p true)
   refine ⟨by unfold lift at *;rw[List.foldl_cons,k1];simp,fun i hi=>?_⟩
   have:=k2 i (by simpa using hi)
   unfold lift at *
   rw[List.foldl_cons,this,List.contains_cons]
   congr 1
   by_cases e:p=i
   ·subst e;simp[hi]
   ·have e':(i == p)=false:=by simpa using fun h=>e h.symm
    rw[e',Bool.false_or]
    simp[Array.getElem?_setIfInBounds_ne e]
theorem wpAnyH_facts {S:World→Prop} {w0:World} {base:List Value} {ds:List Deferred} (eff pur:List (Nat×Nat)) (lazy:List Nat) (F:Nat→Value→World→Prop) (L1:Array Bool)
 (hS0:∀w',Below w0.heap.size w0 w'→S w') (hpers:∀i v w w',Below w.heap.size w w'→F i v w→F i v w')
 (hord:∀(i:Nat) (o:Oper),ops[i]?=some o→∀e∈o.after,Region.binds md e=true→e.on<i)
 {l0:Array Bool} (hchk:partOk ops md l0 (eff++pur) lazy=true) (hlz:lazyOk ops md l0 (lift l0 (((eff++pur).map (·.1)).filter fun i=> !lazy.contains i)) (eff++pur) pur lazy=true)
 (hbl:((eff++pur).all fun p=>decide (p.2<base.length))=true) (hL1:lift l0 ((eff++pur).map (·.1))=L1)
 (hQ:∀c (a:Act) d v w,Q (.panic c) (a.put d v) w→Q (.panic c) a w)
 (hops:AllOps P ops Q md w0 base (eff++pur) F eff) (hpur:AllPure P ops md w0 base (eff++pur) F pur)
 (hdone : ∀ fuel (a : Act) (w : World), L1.count false ≤ fuel → Below w0.heap.size w0 w → a.defers = ds → a.tmps.size = base.length → (∀ s, ((eff ++ pur).map (·.2)).contains s = false → a.tmps[s]? = base[s]?) → (∀ j e, (eff ++ pur).contains (j, e) = true → ∃ v, a.tmps[e]? = some v ∧ F j v w) →
  wpAnyH P md ops Q S fuel L1 a w)
 {fuel:Nat} {w:World} (hw:Below w0.heap.size w0 w) (hc:l0.count false≤fuel):wpAnyH P md ops Q S fuel l0 ⟨base.toArray,ds⟩ w:=by
 have hpe:∀p,p∈pur→p∈eff++pur:=fun p h=>List.mem_append_right _ h
 have hcase:∀p,p∈eff++pur→p∈eff∨p∈pur:=fun p h=>List.mem_append.1 h
 generalize eff++pur=part at *
 unfold partOk at hchk
 unfold lazyOk at hlz
 simp only[Bool.and_eq_true,decide_eq_true_eq,List.all_eq_true,Bool.not_eq_true',Bool.or_eq_true,List.mem_range,beq_iff_eq] at hchk hlz
 obtain⟨⟨⟨⟨hsz,hnd⟩,hnd2⟩,hp⟩,hrest⟩:=hchk
 obtain⟨hsel,hlz⟩:=hlz
 have hin:∀i d,(i,d)∈part→i<ops.size∧dstOf ops i=some d∧l0.getD i true=false:=fun i d hm=>by
  obtain⟨⟨h1,_⟩,h3⟩:=hp (i,d) hm
  refine ⟨?_,h1,h3⟩
  rcases Nat.lt_or_ge i ops.size with h | h
  ·exact h
  ·unfold dstOf at h1;rw[Array.getElem?_eq_none h] at h1;cases h1
 have hmem:∀i,(part.map (·.1)).contains i=true↔∃d,(i,d)∈part:=fun i=>by
  rw[List.contains_iff_mem,List.mem_map]
  constructor
  ·rintro ⟨⟨a,b⟩,h1,rfl⟩;exact⟨b,h1⟩
  ·rintro ⟨d,h⟩;exact⟨(i,d),h,rfl⟩
 have hone:∀i d e,(i,d)∈part→(i,e)∈part→d=e:=fun i d e h1 h2=>by
  have:=(hin i d h1).2.1.symm.trans (hin i e h2).2.1
  exact Option.some.inj this
 have hslot:∀i j d,(i,d)∈part→(j,d)∈part→i=j:=by
  clear hops hpur hdone hrest hp hin hmem hone hL1 hbl hlz hpe hcase
  intro i j d h1 h2
  induction part with
  | nil=>cases h1
  | cons x r ih =>
    rw[List.map_cons,List.nodup_cons] at hnd2 hnd
    rcases List.mem_cons.1 h1 with e1 | m1
    ·rcases List.mem_cons.1 h2 with e2 | m2
     ·rw[←e1] at e2;exact (Prod.mk.inj e2).1.symm
     ·exfalso;subst e1;exact hnd2.1 (List.mem_map.2 ⟨_,m2,rfl⟩)
    ·rcases List.mem_cons.1 h2 with e2 | m2
     ·exfalso;subst e2;exact hnd2.1 (List.mem_map.2 ⟨_,m1,rfl⟩)
     ·exact ih hnd2.2 hnd.2 m1 m2
 let I:Array Bool→Act→World→Prop:=fun l a w=>l.size=ops.size∧(∀i,(part.map (·.1)).contains i=false→l.getD i true=l0.getD i true)∧Below w0.heap.size w0 w∧a.defers=ds∧a.tmps.size=base.length∧(∀s,(part.map (·.2)).contains s=false→a.tmps[s]?=base[s]?)∧
  (∀i d,(i,d)∈part→l.getD i false=true→∃v,a.tmps[d]?=some v∧F i v w)
 have hdn:∀(l:Array Bool) (o:Oper),(∀e∈o.after,Region.binds md e=true→l.getD e.on false=true)→∀j,waits md o j=true→l.getD j false=true:=fun l o hd j hw=>by
  unfold waits at hw
  obtain⟨e,he,hb⟩:=Array.any_eq_true'.1 hw
  simp only[Bool.and_eq_true,beq_iff_eq] at hb
  have:=hd e he hb.1
  rwa [hb.2] at this
 have henv:∀l a w o,I l a w→(∀e∈o.after,Region.binds md e=true→l.getD e.on false=true)→Env md w0 base part F o a w:=by
  rintro l a w o ⟨h1,h2,h3,h4,h5,h6,h7⟩ hd
  refine ⟨h3,fun s v hs hv=>(h6 s hs).trans hv,fun j e hj=>?_⟩
  rw[Bool.and_eq_true] at hj
  exact h7 j e (List.contains_iff_mem.1 hj.1) (hdn l o hd j hj.2)
 have hnext:∀l a w w' i d o v,I l a w→(i,d)∈part→ops[i]?=some o→o.dst=some d→F i v w'→Below w.heap.size w w'→I (l.setIfInBounds i true) (a.put o.dst v) w':=by
  rintro l a w w' i d o v ⟨h1,h2,h3,h4,h5,h6,h7⟩ hm ho hdst hF hB
  have hi:=(hin i d hm).1
  refine ⟨by simp[h1],fun k hk=>?_,h3.trans (hB.mono h3.size),?_,?_,fun s hs=>?_,fun k e hke hkl=>?_⟩
  ·have hne:i≠k:=fun e=>by
    rw[←e,(hmem i).2 ⟨d,hm⟩] at hk;cases hk
   rw[←h2 k hk]
   simp[Array.getElem?_setIfInBounds_ne hne]
  ·rw[hdst];exact h4
  ·rw[hdst];simp[Act.put,h5]
  ·rw[←h6 s hs,hdst]
   have hne:d≠s:=fun e=>by
    subst e
    rw[List.contains_iff_mem.2 (List.mem_map.2 ⟨_,hm,rfl⟩)] at hs;cases hs
   simp[Act.put,Array.getElem?_setIfInBounds_ne hne]
  ·by_cases e1:k=i
   ·subst e1
    obtain rfl:=hone k e d hke hm
    refine ⟨v,?_,hF⟩
    rw[hdst]
    have hds:e<a.tmps.size:=by
     have:=List.all_eq_true.1 hbl _ hm
     rw[decide_eq_true_eq] at this
     rw[h5];exact this
    simp[Act.put,hds]
   ·have hkl':l.getD k false=true:=by
     rw[←hkl]
     simp[Array.getElem?_setIfInBounds_ne (Ne.symm e1)]
    obtain⟨u,hu,hFu⟩:=h7 k e hke hkl'
    refine ⟨u,?_,hpers _ _ _ _ hB hFu⟩
    rw[hdst]
    have hne:d≠e:=fun e2=>by subst e2;exact e1 (hslot k i d hke hm)
    simp[Act.put,Array.getElem?_setIfInBounds_ne hne,hu]
 have hop:∀i d,(i,d)∈part→∃o,ops[i]?=some o∧o.dst=some d∧o.guard=none:=fun i d hm=>by
  obtain⟨hi,h2,_⟩:=hin i d hm
  obtain⟨⟨_,hg⟩,_⟩:=hp (i,d) hm
  have ho:ops[i]?=some ops[i]:=Array.getElem?_eq_getElem hi
  rw[ho] at hg
  unfold dstOf at h2
  rw[ho] at h2
  exact⟨_,ho,h2,by simpa using hg⟩
 refine wpAnyH_until (S:=S) I (fun l=>part.all fun p=>lazy.contains p.1 || l.getD p.1 false) hord (fun l a w h=>h.1) ?_ ?_ ?_ _ _ _ _ ?_ hc
 ·intro l a w h hall
  exact List.all_eq_true.2 fun p hm=>by rw[hall p.1 (hin p.1 p.2 hm).1,Bool.or_true]
 ·have key:∀(z:List Nat),(∀i∈z,i∈lazy)→∀fuel l a w,I l a w→(∀i d,(i,d)∈part→z.contains i=false→l.getD i false=true)→l.count false≤fuel→wpAnyH P md ops Q S fuel l a w:=by
   intro z
   induction z with
   | nil =>
     rintro - fuel l a w ⟨h1,h2,h3,h4,h5,h6,h7⟩ hT hc
     have hT':∀i d,(i,d)∈part→l.getD i false=true:=fun i d hm=>hT i d hm rfl
     have hl:l=L1:=by
      rw[←hL1]
      obtain⟨k1,k2⟩:=lift_at (part.map (·.1)) l0
      apply Array.ext_getElem?
      intro i
      rcases Nat.lt_or_ge i l.size with hi | hi
      ·rw[k2 i (by omega)]
       cases hc:(part.map (·.1)).contains i
       ·have:=h2 i hc
        rw[Bool.false_or,←this]
        simp[hi]
       ·obtain⟨d,hm⟩:=(hmem i).1 hc
        have:=hT' i d hm
        simp[hi] at this
        simp[hi,this]
      ·rw[Array.getElem?_eq_none hi,Array.getElem?_eq_none (by omega)]
     subst hl
     exact hdone fuel a w hc h3 h4 h5 h6 (fun j e hc=>h7 j e (List.contains_iff_mem.1 hc) (hT' j e (List.contains_iff_mem.1 hc)))
   | cons i r ih =>
     intro hz fuel l a w hI hT hc
     have hir:=hz i (by simp)
     by_cases hli:l.getD i false=true
     ·refine ih (fun j hj=>hz j (by simp[hj])) fuel l a w hI (fun j d hm hr=>?_) hc
      by_cases e:j=i
      ·subst e;exact hli
      ·exact hT j d hm (by rw[List.contains_cons,hr,Bool.or_false];simpa using e)
     ·obtain⟨⟨hpu,hfr⟩,hdeps⟩:=hlz i hir
      rw[List.contains_iff_mem,List.mem_map] at hpu
      obtain⟨⟨i',d⟩,hm,rfl⟩:=hpu
      have hmp:=hpe _ hm
      obtain⟨o,ho,hdst,hg⟩:=hop i' d hmp
      have hi:=(hin i' d hmp).1
      have hls:=hI.1
      have hl0:l.getD i' true=false:=by simp[show i'<l.size by omega] at hli ⊢;exact hli
      rw[ho] at hdeps
      simp only[Option.map_some,Option.getD_some,Array.all_eq_true',Bool.or_eq_true,Bool.not_eq_true',Bool.and_eq_true] at hdeps
      have hd:∀e∈o.after,Region.binds md e=true→l.getD e.on false=true:=fun e he hb=>by
       rcases hdeps e he with (h | h) | ⟨h,h'⟩
       ·rw[hb] at h;cases h
       ·cases hc2:(part.map (·.1)).contains e.on
        ·have h9:=hI.2.1 e.on hc2
         have hlt:e.on<l0.size:=by
          rcases Nat.lt_or_ge e.on l0.size with h8 | h8
          ·exact h8
          ·simp[h8] at h
         simp[hlt,show e.on<l.size by omega] at h h9 ⊢
         rw[h9];exact h
        ·obtain⟨d2,hm2⟩:=(hmem _).1 hc2
         have:=(hin _ _ hm2).2.2
         have hlt:e.on<l0.size:=by have:=(hin _ _ hm2).1;omega
         simp[hlt] at this h
         rw[this] at h;cases h
       ·obtain⟨d2,hm2⟩:=(hmem _).1 h
        refine hT _ d2 hm2 ?_
        cases hz2:(i'::r).contains e.on
        ·rfl
        ·have:=hz e.on (List.contains_iff_mem.1 hz2)
         rw[List.contains_iff_mem.2 this] at h';cases h'
      obtain⟨o',ho',hpu⟩:=hpur.get i' d hm
      obtain rfl:o=o':=by rw[ho] at ho';exact Option.some.inj ho'
      obtain⟨v,hv,hF⟩:=hpu a w (henv l a w o hI hd)
      have hcnt:0<l.count false:=Array.count_pos_iff.2 (by
       obtain⟨h',hf⟩:=getD_true hl0
       exact hf ▸ Array.getElem_mem h')
      obtain⟨n,rfl⟩:∃n,fuel=n+1:=⟨fuel - 1,by omega⟩
      have hready:i'∈Region.ready md ops l:=mem_ready.2 ⟨hl0,o,ho,hd⟩
      have hfree:=Region.free_spec ho hfr
      refine wpAnyH_first ho (Region.noSelect_spec hsel) (fun c a w h=>hQ c a _ _ w h) n l a w (fun j oj hj hji hjl hno=>hfree j oj hj hji ?_ hno) hready (.inl ⟨by unfold Region.wanted;rw[hg],fun w' _=>hv w'⟩) (hS0 _ hI.2.2.1) ?_
      ·obtain⟨k1,k2⟩:=lift_at ((part.map (·.1)).filter fun i=> !lazy.contains i) l0
       have hj':j<ops.size:=(Array.getElem?_eq_some_iff.1 hj).1
       have:=k2 j (by omega)
       rw[Array.getD_eq_getD_getElem?,this,Option.getD_some]
       cases hc2:(part.map (·.1)).contains j
       ·have h9:=hI.2.1 j hc2
        rw[hjl] at h9
        rw[←h9,Bool.or_false]
        cases h10:((part.map (·.1)).filter fun i=> !lazy.contains i).contains j
        ·rfl
        ·have:=(List.mem_filter.1 (List.contains_iff_mem.1 h10)).1
         rw[List.contains_iff_mem.2 this] at hc2;cases hc2
       ·obtain⟨d2,hm2⟩:=(hmem _).1 hc2
        rw[(hin _ _ hm2).2.2,Bool.or_false]
        cases h10:((part.map (·.1)).filter fun i=> !lazy.contains i).contains j
        ·rfl
        ·exfalso
         have h11:=(List.mem_filter.1 (List.contains_iff_mem.1 h10)).2
         have h12:l.getD j false=true:=hT j d2 hm2 (by
          cases hz2:(i'::r).contains j
          ·rfl
          ·have:=hz j (List.contains_iff_mem.1 hz2)
           rw[List.contains_iff_mem.2 this] at h11;cases h11)
         simp[show j<l.size by omega] at h12 hjl
         rw[h12] at hjl;cases hjl
      ·refine ih (fun j hj=>hz j (by simp[hj])) n _ _ w (hnext l a w w i' d o v hI hmp ho hdst hF (Below.refl _ _)) (fun j d2 hm2 hr=>?_) ?_
       ·by_cases e:j=i'
        ·subst e;simp[show j<l.size by omega]
        ·have:=hT j d2 hm2 (by rw[List.contains_cons,hr,Bool.or_false];simpa using e)
         simp only[Array.getD_eq_getD_getElem?] at this ⊢
         rw[Array.getElem?_setIfInBounds_ne (Ne.symm e)];exact this
       ·obtain⟨h',hf⟩:=getD_true hl0
        rw[Array.setIfInBounds_def,dif_pos h']
        have:=Array.count_set (a:=true) (b:=false) h'
        rw[this,hf]
        simp
        omega
  rintro fuel l a w hI hT hc
  refine key lazy (fun _ h=>h) fuel l a w hI (fun i d hm hz=>?_) hc
  have:=List.all_eq_true.1 hT (i,d) hm
  rw[hz,Bool.false_or] at this;exact this
 ·rintro l a w i o hI hT ho hl hd K hK
  have hi:i<ops.size:=(Array.getElem?_eq_some_iff.1 ho).1
  cases hc:(part.map (·.1)).contains i
  ·exfalso
   have h0:=hI.2.1 i hc
   rw[hl] at h0
   rcases hrest i hi with (h | h) | h
   ·rw[h] at h0;cases h0
   ·rw[hc] at h;cases h
   ·have :part.all (fun p=>lazy.contains p.1 || l.getD p.1 false)=true:=List.all_eq_true.2 fun p hm=>by
     rcases h p hm with h | h
     ·rw[h,Bool.true_or]
     ·rw[ho] at h
      rw[hdn l o hd p.1 h,Bool.or_true]
    rw[this] at hT;cases hT
  ·obtain⟨d,hm⟩:=(hmem i).1 hc
   obtain⟨o2,ho2,hdst,hg⟩:=hop i d hm
   obtain rfl:o=o2:=by rw[ho] at ho2;exact Option.some.inj ho2
   have hwant:Region.wanted o (yielded ops a.tmps)=true:=by unfold Region.wanted;rw[hg]
   rw[if_pos hwant]
   have hgo:∀v w',F i v w'→Below w.heap.size w w'→K (a.put o.dst v) w':=fun v w' hF hB=>
    hK.out _ _ (hS0 _ (hI.2.2.1.trans (hB.mono hI.2.2.1.size))) (hnext l a w w' i d o v hI hm ho hdst hF hB)
   rcases hcase _ hm with he | hpu
   ·obtain⟨o',ho',h⟩:=hops.get i d he
    obtain rfl:o=o':=by rw[ho] at ho';exact Option.some.inj ho'
    exact h a w (henv l a w o hI hd) K hgo
   ·obtain⟨o',ho',h⟩:=hpur.get i d hpu
    obtain rfl:o=o':=by rw[ho] at ho';exact Option.some.inj ho'
    obtain⟨v,hv,hF⟩:=h a w (henv l a w o hI hd)
    unfold Oper.wp
    rw[hv w]
    exact hgo v w hF (Below.refl _ _)
 ·refine ⟨hsz,fun i _=>rfl,hw,rfl,by simp,fun s _=>by simp,fun i d hm h=>?_⟩
  have:=(hin i d hm).2.2
  have hi:=(hin i d hm).1
  simp[show i<l0.size by omega] at this h
  rw[this] at h;cases h
def pick:List (Nat×(Value→World→Prop))→Nat→Value→World→Prop
 | [],_=>fun _ _=>True
 | (j,A)::r,i=>if i=j then A else pick r i
def Pers (A:Value→World→Prop):Prop:=∀v w w',Below w.heap.size w w'→A v w→A v w'
def PersAll:List (Nat×(Value→World→Prop))→Prop
 | []=>True
 | p::r=>Pers p.2∧PersAll r
theorem pick_pers:∀{l:List (Nat×(Value→World→Prop))},PersAll l→∀i v w w',Below w.heap.size w w'→pick l i v w→pick l i v w'
 | [],_,_,_,_,_,_,_=>trivial
 | (j, A) :: r, h, i, v, w, w', hb, hf => by
   unfold pick at *
   split at hf
   ·rename_i e;rw[if_pos e];exact h.1 v w w' hb hf
   ·rename_i e;rw[if_neg e];exact pick_pers h.2 i v w w' hb hf
def AllAt (x:Array Value):List (Nat×Value)→Prop
 | []=>True
 | (d,v)::r=>x[d]?=some v∧AllAt x r
theorem AllAt.mem {x:Array Value}:∀{l:List (Nat×Value)},AllAt x l→∀p∈l,x[p.1]?=some p.2
 | (d, v) :: r, h, p, hp => by
   rcases List.mem_cons.1 hp with e | hp
   ·subst e;exact h.1
   ·exact h.2.mem p hp
theorem act_of {a:Act} {base:List Value} {ds:List Deferred} (l:List (Nat×Value)) (h:AllAt a.tmps l) (hd:a.defers=ds) (hz:a.tmps.size=base.length) (ho:∀s,(l.map (·.1)).contains s=false→a.tmps[s]?=base[s]?):a=⟨(putAll base l).toArray,ds⟩:=by
 obtain⟨t,d⟩:=a
 dsimp only at *
 rw[tmps_of t l base h.mem ho hz,hd]
theorem grown_of {w w':World} (h:Below w.heap.size w w') (row:Option Nat):w.grownBy w' row:=⟨h.os,h.tape,h.output,h.size,fun i hi _=>h.block i hi⟩
theorem grown_set {a w:World} {g:Nat} (h:a.grownBy w (some g)) {p:Addr} (hp:p.block=g∨a.heap.size≤p.block) (u:Value):a.grownBy (w.setCell p u) (some g):=
 ⟨h.os, h.tape, h.output, Nat.le_trans h.size (by simp [World.setCell]), fun i hi hne => (Below.heap_setCell w p u i (fun e => by
  rcases hp with hp | hp
  ·exact hne (by rw[e,hp])
  ·omega)).trans (h.block i hi hne)⟩
end
theorem Blk.grownT {w w':World} {g:Nat} {t:TypeId} {cs:Array Value} {row:Option Nat} (h:Blk w g t cs) (hg:w.grownBy w' row) (hne:some g≠row):Blk w' g t cs:=(hg.block g h.lt hne).trans h
end Go.Proofs.YtdnjdglekifhpaaGreat
