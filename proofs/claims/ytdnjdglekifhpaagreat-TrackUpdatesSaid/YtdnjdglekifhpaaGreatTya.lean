/- A part of the proof of: The live question of layer 20. Printed by gen_alive20.py. -/
import Derived.Deep.RegionHeld3
import Derived.OrdersHeld
import Derived.Below
import Derived.Tactics
import Derived.Test.YtdnjdglekifhpaaGreatChecked
import Derived.WalkKit
import Derived.Laws.OwnMore
import Derived.Deep.AppendLies
import Derived.Deep.Draws
import Derived.Lib.Hide
import Derived.Deep.QuietTactic
import Derived.BigQuiet
import Derived.Laws.Rows
import Derived.Laws.AppendOwn
import Derived.Maps.AppendAt
import Derived.RegionTactic
import Derived.OwnWalk
import Derived.Outline
import Derived.LoopTactic
import Derived.StillTailTactics
import Derived.Laws.MakeOwn
import Derived.ChangeKeysEq
import Derived.Laws.StructEq
import Derived.Deep.RegionLaw
import Derived.Deep.DeepMust
import Derived.Laws.Externs
import Derived.Shelf.Bits.Mul64
import Derived.Shelf.Strconv.Itoa0
import Derived.Deep.DrawnRows
import Derived.Deep.LoopGhost
import Derived.Laws.Shifts
import Derived.Laws.BitsAllLaws
import Derived.Laws.BitsLemmas
import Derived.Deep.CutBlock
import Derived.Deep.DeepCutAuto
import Derived.WalkMore
import Derived.RangeFuncWrites
import Derived.Lib.SliceRun
import Derived.RangeFuncNested
import Derived.RangeFuncBound
import Derived.RangeFuncCalls
import Derived.RangeFuncLeaves
import Derived.Shelf.Abstract
import Derived.Shelf.RegionOpen
import Derived.OwnWalkIn
import Derived.TacticsInMore
import Derived.LoopNIn
import Derived.LoopIn
import Derived.RangeFuncBox
import Derived.RangeFuncFrom
import Derived.StillTail
import Derived.StillTactics
import Derived.OrdersIn
import Derived.TacticsIn
import Derived.CallsIn
import Derived.Laws.EntriesVeiled
import Derived.Deep.RegionHeld
import Derived.Shelf.SortG.Plain
import Derived.Laws.BytesArg
import Derived.Lib.Bytes
import Derived.Handy
import Derived.ChangeSame
import Derived.ProofKit
import Derived.SizedLaws
import Derived.Carry
import Derived.OpenShut
import Derived.Lib.SmallJoins
import Derived.Deep.Slices
import Derived.Deep.RegionWith
set_option maxRecDepth 100000
set_option maxHeartbeats 8000000
namespace Go.Proofs.YtdnjdglekifhpaaGreat
theorem tkH {P:Program} {ops:Array Oper} {Q:Exit→Act→World→Prop} {md:Region.Mode} {S:World→Prop} (i:Nat) {oi:Oper} (hi:ops[i]?=some oi) {v:Value} {fuel:Nat} {listed:Array Bool} {a:Act} {w:World}
 (hy:∀w,S w→(execOp a.eval oi).run P w= .ok (.value v) w) (h:wpAnyH P md ops Q S fuel (listed.setIfInBounds i true) (a.put oi.dst v) w)
 (hs:Region.noSelect ops=true:=by kernel_rfl) (hf:Region.free md ops listed i=true:=by kernel_rfl) (hr:(Region.ready md ops listed).contains i=true:=by kernel_rfl)
 (hQ:∀c a w,Q (.panic c) (a.put oi.dst v) w→Q (.panic c) a w:=by exact fun _ _ _ h=>h) (hw:Region.wanted oi (yielded ops a.tmps)=true:=by kernel_rfl) (hS:S w:=by assumption):wpAnyH P md ops Q S (fuel+1) listed a w:=
 wpAnyH_take hi hs hf hr hQ (.inl ⟨hw,hy⟩) hS h
end Go.Proofs.YtdnjdglekifhpaaGreat
namespace Go.Proofs.YtdnjdglekifhpaaGreat
theorem tkA {P:Program} {ops:Array Oper} {Q:Exit→Act→World→Prop} {md:Region.Mode} {S:World→Prop} (i:Nat) {oi:Oper} (hi:ops[i]?=some oi) {v:Value} {fuel:Nat} {listed:Array Bool} {a:Act} {w:World}
 (h:wpAnyH P md ops Q S fuel (listed.setIfInBounds i true) (a.put oi.dst v) w) (hy:∀w,S w→(execOp a.eval oi).run P w= .ok (.value v) w:=by intro w hSw;(try dsimp only at hSw);go_simp;try (with_reducible rfl))
 (hs:Region.noSelect ops=true:=by kernel_rfl) (hf:Region.free md ops listed i=true:=by kernel_rfl) (hr:(Region.ready md ops listed).contains i=true:=by kernel_rfl)
 (hQ:∀c a w,Q (.panic c) (a.put oi.dst v) w→Q (.panic c) a w:=by exact fun _ _ _ h=>h) (hw:Region.wanted oi (yielded ops a.tmps)=true:=by kernel_rfl) (hS:S w:=by assumption):wpAnyH P md ops Q S (fuel+1) listed a w:=
 wpAnyH_take hi hs hf hr hQ (.inl ⟨hw,hy⟩) hS h
end Go.Proofs.YtdnjdglekifhpaaGreat
namespace Go.Proofs.YtdnjdglekifhpaaGreat
theorem rd1 {P:Program} {ops:Array Oper} {Q:Exit→Act→World→Prop} {md:Region.Mode} {S:World→Prop} {fuel:Nat} {listed:Array Bool} {a:Act} {w:World} (i:Nat) {o:Oper} (ho:ops[i]?=some o)
 (h:∀K':Act→World→Prop,Shut (∀a w,S w→(S w→wpAnyH P md ops Q S fuel (listed.setIfInBounds i true) a w)→K' a w)→if Region.wanted o (yielded ops a.tmps)=true then Oper.wp P o a w K' Q else K' (a.put o.dst undef) w)
 (hr:Region.ready md ops listed=[i]:=by kernel_rfl):wpAnyH P md ops Q S (fuel+1) listed a w:=wpAnyH_ready hr (by simp) (AllReadyH.cons ho h AllReadyH.nil)
theorem rd2 {P:Program} {ops:Array Oper} {Q:Exit→Act→World→Prop} {md:Region.Mode} {S:World→Prop} {fuel:Nat} {listed:Array Bool} {a:Act} {w:World} (i j:Nat) {o o':Oper} (ho:ops[i]?=some o) (ho':ops[j]?=some o')
 (h:∀K':Act→World→Prop,Shut (∀a w,S w→(S w→wpAnyH P md ops Q S fuel (listed.setIfInBounds i true) a w)→K' a w)→if Region.wanted o (yielded ops a.tmps)=true then Oper.wp P o a w K' Q else K' (a.put o.dst undef) w)
 (h':∀K':Act→World→Prop,Shut (∀a w,S w→(S w→wpAnyH P md ops Q S fuel (listed.setIfInBounds j true) a w)→K' a w)→if Region.wanted o' (yielded ops a.tmps)=true then Oper.wp P o' a w K' Q else K' (a.put o'.dst undef) w)
 (hr:Region.ready md ops listed=[i,j]:=by kernel_rfl):wpAnyH P md ops Q S (fuel+1) listed a w:=wpAnyH_ready hr (by simp) (AllReadyH.cons ho h (AllReadyH.cons ho' h' AllReadyH.nil))
end Go.Proofs.YtdnjdglekifhpaaGreat
namespace Go.Proofs.YtdnjdglekifhpaaGreat
def W64:Nat:=18446744073709551616
theorem W64_pos:0<W64:=by unfold W64;omega
def num:List Nat→Nat
 | []=>0
 | x::r=>x+W64*num r
def Bd (l:List Nat):Prop:=∀x∈l,x<W64
def lat (l:List Nat) (i:Nat):Nat:=l[i]?.getD 0
def Rt (l:List Nat):Prop:=l=[]∨lat l (l.length - 1)≠0
theorem num_append (a b:List Nat):num (a++b)=num a+W64^a.length*num b:=by
 induction a with
 | nil=>simp[num]
 | cons x r ih=>simp only[List.cons_append,num,ih,List.length_cons,Nat.pow_succ,Nat.mul_add];rw[Nat.mul_comm (W64^r.length) W64,Nat.mul_assoc];omega
theorem num_single (x:Nat):num [x]=x:=by simp[num]
theorem Bd.nil:Bd []:=by simp[Bd]
theorem Bd.cons {x:Nat} {l:List Nat} (h:x<W64) (hl:Bd l):Bd (x::l):=by
 intro y hy;rcases List.mem_cons.1 hy with rfl | h';exact h;exact hl _ h'
theorem Bd.snoc {x:Nat} {l:List Nat} (hl:Bd l) (h:x<W64):Bd (l++[x]):=by
 intro y hy;rcases List.mem_append.1 hy with h' | h';exact hl _ h';rw[List.mem_singleton.1 h'];exact h
theorem Bd.take {l:List Nat} (hl:Bd l) (k:Nat):Bd (l.take k):=fun x hx=>hl x (List.mem_of_mem_take hx)
theorem Bd.tail {x:Nat} {l:List Nat} (h:Bd (x::l)):Bd l:=fun y hy=>h y (List.mem_cons_of_mem _ hy)
theorem Bd.head {x:Nat} {l:List Nat} (h:Bd (x::l)):x<W64:=h x (List.mem_cons_self ..)
theorem Bd.lat {l:List Nat} (h:Bd l) (i:Nat):lat l i<W64:=by
 unfold Go.Proofs.YtdnjdglekifhpaaGreat.lat
 by_cases hi:i<l.length
 ·rw[List.getElem?_eq_getElem hi];exact h _ (List.getElem_mem hi)
 ·rw[List.getElem?_eq_none (by omega)];exact W64_pos
theorem lat_ge {l:List Nat} {i:Nat} (h:l.length≤i):lat l i=0:=by unfold lat;rw[List.getElem?_eq_none h];rfl
theorem num_lt (l:List Nat) (h:Bd l):num l<W64^l.length:=by
 induction l with
 | nil=>simp[num]
 | cons x r ih =>
   have h1:=ih h.tail
   have h2:=h.head
   simp only[num,List.length_cons,Nat.pow_succ]
   have :W64*num r+W64≤W64*W64^r.length:=by
    have:=Nat.mul_le_mul_left W64 (Nat.succ_le_of_lt h1)
    rw[Nat.mul_succ] at this;exact this
   rw[Nat.mul_comm (W64^r.length) W64];omega
theorem num_take_succ (l:List Nat) (k:Nat):num (l.take (k+1))=num (l.take k)+W64^k*lat l k:=by
 by_cases hk:k<l.length
 ·rw[List.take_succ_eq_append_getElem hk,num_append,num_single]
  have :(l.take k).length=k:=by simp;omega
  rw[this];simp[lat,hk]
 ·rw[lat_ge (by omega),List.take_of_length_le (by omega),List.take_of_length_le (by omega)];simp
theorem num_take_ge (l:List Nat) (k:Nat) (h:l.length≤k):num (l.take k)=num l:=by rw[List.take_of_length_le h]
theorem div_W64_lt {n:Nat} (h:n≠0):n / W64<n:=Nat.div_lt_self (by omega) (by unfold W64;omega)
def limbsF:Nat→Nat→List Nat
 | 0,_=>[]
 | f+1,n=>if n=0 then [] else (n % W64)::limbsF f (n / W64)
theorem limbsF_eq (f g n:Nat) (hf:n≤f) (hg:n≤g):limbsF f n=limbsF g n:=by
 induction f generalizing g n with
 | zero =>
   have :n=0:=by omega
   subst this
   cases g with
   | zero=>rfl
   | succ g=>rw[limbsF,limbsF,if_pos rfl]
 | succ f ih =>
   cases g with
   | zero =>
     have :n=0:=by omega
     subst this
     rw[limbsF,limbsF,if_pos rfl]
   | succ g =>
     rw[limbsF,limbsF]
     by_cases h:n=0
     ·rw[if_pos h,if_pos h]
     ·have:=div_W64_lt h
      rw[if_neg h,if_neg h,ih g _ (by omega) (by omega)]
def limbs (n:Nat):List Nat:=limbsF n n
theorem limbs_zero:limbs 0=[]:=rfl
theorem limbs_pos {n:Nat} (h:n≠0):limbs n=(n % W64)::limbs (n / W64):=by
 have h2:=div_W64_lt h
 obtain⟨m,rfl⟩:=Nat.exists_eq_succ_of_ne_zero h
 unfold limbs
 rw[limbsF,if_neg h,limbsF_eq m _ _ (by omega) (Nat.le_refl _)]
theorem num_limbs (n:Nat):num (limbs n)=n:=by
 induction n using Nat.strongRecOn with
 | _ n ih =>
   by_cases h:n=0
   ·subst h;rw[limbs_zero];rfl
   ·rw[limbs_pos h,num,ih _ (div_W64_lt h)];exact Nat.mod_add_div n W64
theorem limbs_bd (n:Nat):Bd (limbs n):=by
 induction n using Nat.strongRecOn with
 | _ n ih =>
   by_cases h:n=0
   ·subst h;rw[limbs_zero];exact Bd.nil
   ·rw[limbs_pos h];exact Bd.cons (Nat.mod_lt _ W64_pos) (ih _ (div_W64_lt h))
theorem limbs_nil {n:Nat}:limbs n=[]↔n=0:=by
 constructor
 ·intro h;have:=num_limbs n;rw[h] at this;exact this.symm
 ·rintro rfl;exact limbs_zero
theorem lat_cons_succ (x:Nat) (l:List Nat) (i:Nat):lat (x::l) (i+1)=lat l i:=by simp[lat]
theorem limbs_rt (n:Nat):Rt (limbs n):=by
 induction n using Nat.strongRecOn with
 | _ n ih =>
   by_cases h:n=0
   ·subst h;exact .inl limbs_zero
   ·right
    rw[limbs_pos h]
    by_cases h2:n / W64=0
    ·rw[h2,limbs_zero];simp[lat]
     have:=(Nat.div_eq_zero_iff_lt W64_pos).1 h2
     rw[Nat.mod_eq_of_lt this];exact h
    ·rcases ih _ (div_W64_lt h) with h3 | h3
     ·exact absurd (limbs_nil.1 h3) h2
     ·have :(limbs (n / W64)).length≠0:=by
       intro e;exact h2 (limbs_nil.1 (List.eq_nil_of_length_eq_zero e))
      obtain⟨m,hm⟩:=Nat.exists_eq_succ_of_ne_zero this
      rw[List.length_cons,hm]
      rw[hm] at h3
      simpa [lat_cons_succ] using h3
theorem num_zero_of_rt {l:List Nat} (hr:Rt l) (h:num l=0):l=[]:=by
 rcases hr with h' | h'
 ·exact h'
 ·exfalso
  have :l.length≠0:=by intro e;rw[List.eq_nil_of_length_eq_zero e] at h';simp[lat] at h'
  have e:l.take (l.length - 1+1)=l:=List.take_of_length_le (by omega)
  have h2:=num_take_succ l (l.length - 1)
  rw[e,h] at h2
  have h3:0<W64^(l.length - 1)*lat l (l.length - 1):=Nat.mul_pos (Nat.pow_pos W64_pos) (Nat.pos_of_ne_zero h')
  omega
theorem Rt.tail {x:Nat} {l:List Nat} (h:Rt (x::l)):Rt l:=by
 rcases h with h | h
 ·cases h
 ·by_cases hl:l=[]
  ·exact .inl hl
  ·right
   have :l.length≠0:=by intro e;exact hl (List.eq_nil_of_length_eq_zero e)
   obtain⟨m,hm⟩:=Nat.exists_eq_succ_of_ne_zero this
   rw[List.length_cons,hm] at h
   rw[hm]
   simpa [lat_cons_succ] using h
theorem limbs_num (l:List Nat) (hb:Bd l) (hr:Rt l):limbs (num l)=l:=by
 induction l with
 | nil=>exact limbs_zero
 | cons x r ih =>
   have h0:num (x::r)≠0:=fun e=>by have:=num_zero_of_rt hr e;cases this
   have hx:=hb.head
   rw[limbs_pos h0]
   have e1:num (x::r) % W64=x:=by rw[num,Nat.add_mul_mod_self_left,Nat.mod_eq_of_lt hx]
   have e2:num (x::r) / W64=num r:=by rw[num,Nat.add_mul_div_left _ _ W64_pos,Nat.div_eq_of_lt hx,Nat.zero_add]
   rw[e1,e2,ih hb.tail hr.tail]
theorem limbs_len_le {n k:Nat} (h:n<W64^k):(limbs n).length≤k:=by
 induction k generalizing n with
 | zero => have : n = 0 := by simpa using h
           subst this;simp[limbs_zero]
 | succ k ih =>
   by_cases h0:n=0
   ·subst h0;simp[limbs_zero]
   ·rw[limbs_pos h0,List.length_cons]
    have :n / W64<W64^k:=by rw[Nat.div_lt_iff_lt_mul W64_pos,←Nat.pow_succ];exact h
    have:=ih this;omega
theorem lt_of_limbs_len {n k:Nat} (h:(limbs n).length≤k):n<W64^k:=by
 have:=num_lt _ (limbs_bd n)
 rw[num_limbs] at this
 exact Nat.lt_of_lt_of_le this (Nat.pow_le_pow_right W64_pos h)
theorem limbs_len_mono {a b:Nat} (h:a≤b):(limbs a).length≤(limbs b).length:=
 limbs_len_le (Nat.lt_of_le_of_lt h (lt_of_limbs_len (Nat.le_refl _)))
theorem le_of_limbs_len {n k:Nat} (h:k<(limbs n).length):W64^k≤n:=by
 rcases Nat.lt_or_ge n (W64^k) with h1 | h1
 ·have:=limbs_len_le h1;omega
 ·exact h1
theorem limbs_len_add (a b:Nat):(limbs (a+b)).length≤max (limbs a).length (limbs b).length+1:=by
 apply limbs_len_le
 have h1:=lt_of_limbs_len (Nat.le_max_left (limbs a).length (limbs b).length)
 have h2:=lt_of_limbs_len (Nat.le_max_right (limbs a).length (limbs b).length)
 rw[Nat.pow_succ]
 have :W64^max (limbs a).length (limbs b).length*2≤W64^max (limbs a).length (limbs b).length*W64:=Nat.mul_le_mul_left _ (by unfold W64;omega)
 omega
theorem limbs_len_mul (a b:Nat):(limbs (a*b)).length≤(limbs a).length+(limbs b).length:=by
 apply limbs_len_le
 rw[Nat.pow_add]
 exact Nat.mul_lt_mul_of_lt_of_le (lt_of_limbs_len (Nat.le_refl _)) (Nat.le_of_lt (lt_of_limbs_len (Nat.le_refl _))) (Nat.pow_pos W64_pos)
theorem limbs_single {x:Nat} (h0:x≠0) (h:x<W64):limbs x=[x]:=by
 rw[limbs_pos h0,Nat.mod_eq_of_lt h,Nat.div_eq_of_lt h,limbs_zero]
theorem limbs_of_take {l:List Nat} {k:Nat} (hb:Bd l) (he:num (l.take k)=num l) (hk:k≤l.length) (hr:k=0∨lat l (k - 1)≠0):limbs (num l)=l.take k:=by
 rw[←he]
 apply limbs_num _ (hb.take k)
 by_cases hk0:k=0
 ·subst hk0;exact .inl (by simp)
 ·right
  have hr:=hr.resolve_left hk0
  rw[List.length_take,Nat.min_eq_left hk]
  unfold lat at *
  rw[List.getElem?_take,if_pos (by omega)];exact hr
theorem num_take_pred {l:List Nat} {k:Nat} (h0:0<k) (h:lat l (k - 1)=0):num (l.take (k - 1))=num (l.take k):=by
 have:=num_take_succ l (k - 1)
 rw[h,Nat.mul_zero,Nat.add_zero,Nat.sub_add_cancel h0] at this
 exact this.symm
def cmpI (a b:Int):Int:=if a<b then -1 else if b<a then 1 else 0
theorem cmpI_lt {a b:Int} (h:a<b):cmpI a b= -1:=by simp[cmpI,h]
theorem cmpI_gt {a b:Int} (h:b<a):cmpI a b=1:=by simp[cmpI,h];omega
theorem cmpI_eq (a:Int):cmpI a a=0:=by simp[cmpI]
theorem cmpI_zero {a b:Int}:cmpI a b=0↔a=b:=by unfold cmpI;split<;>(try split)<;>omega
theorem num_split (l:List Nat) (k:Nat) (h:k≤l.length):num l=num (l.take k)+W64^k*num (l.drop k):=by
 have:=num_append (l.take k) (l.drop k)
 rw[List.take_append_drop,List.length_take,Nat.min_eq_left h] at this
 exact this
theorem drop_lat (l:List Nat) (k:Nat) (h:k<l.length):l.drop k=lat l k::l.drop (k+1):=by
 rw[List.drop_eq_getElem_cons h];simp[lat,h]
theorem num_lt_of_top {a b:List Nat} (ha:Bd a) (_:Bd b) (i:Nat) (hi:i<a.length) (hl:a.length=b.length) (htop:a.drop (i+1)=b.drop (i+1)) (h:lat a i<lat b i):num a<num b:=by
 rw[num_split a i (by omega),num_split b i (by omega),drop_lat a i hi,drop_lat b i (by omega),htop,num,num]
 have h1:=num_lt _ (ha.take i)
 rw[List.length_take,Nat.min_eq_left (by omega)] at h1
 have h2:W64^i*(lat a i+1)≤W64^i*lat b i:=Nat.mul_le_mul_left _ h
 simp only[Nat.mul_add,Nat.mul_one] at *
 omega
theorem num_lt_of_len {a b:List Nat} (ha:Bd a) (rb:Rt b) (h:a.length<b.length):num a<num b:=by
 have h1:=num_lt _ ha
 have h2:lat b (b.length - 1)≠0:=rb.resolve_left (by intro e;subst e;simp at h)
 have h3:=num_take_succ b (b.length - 1)
 rw[Nat.sub_add_cancel (by omega),List.take_length] at h3
 have h4:W64^(b.length - 1)*1≤W64^(b.length - 1)*lat b (b.length - 1):=Nat.mul_le_mul_left _ (by omega)
 have h5:W64^a.length≤W64^(b.length - 1):=Nat.pow_le_pow_right W64_pos (by omega)
 omega
def cmpL (a b:List Nat):Int:=if a.length=b.length then cmpI (num a) (num b) else cmpI a.length b.length
theorem cmpL_limbs (a b:Nat):cmpL (limbs a) (limbs b)=cmpI a b:=by
 unfold cmpL
 rw[num_limbs,num_limbs]
 split
 ·rfl
 ·rename_i h
  rcases Nat.lt_or_gt_of_ne h with h' | h'
  ·have:=num_lt_of_len (limbs_bd a) (limbs_rt b) h'
   rw[num_limbs,num_limbs] at this
   rw[cmpI_lt (by omega),cmpI_lt (by omega)]
  ·have:=num_lt_of_len (limbs_bd b) (limbs_rt a) h'
   rw[num_limbs,num_limbs] at this
   rw[cmpI_gt (by omega),cmpI_gt (by omega)]
def blF:Nat→Nat→Nat
 | 0,_=>0
 | f+1,n=>if n=0 then 0 else blF f (n / 2)+1
theorem blF_eq (f g n:Nat) (hf:n≤f) (hg:n≤g):blF f n=blF g n:=by
 induction f generalizing g n with
 | zero =>
   have :n=0:=by omega
   subst this
   cases g with
   | zero=>rfl
   | succ g=>rw[blF,blF,if_pos rfl]
 | succ f ih =>
   cases g with
   | zero =>
     have :n=0:=by omega
     subst this
     rw[blF,blF,if_pos rfl]
   | succ g =>
     rw[blF,blF]
     by_cases h:n=0
     ·rw[if_pos h,if_pos h]
     ·rw[if_neg h,if_neg h,ih g _ (by omega) (by omega)]
def bl (n:Nat):Nat:=blF n n
theorem bl_zero:bl 0=0:=rfl
theorem bl_pos {n:Nat} (h:n≠0):bl n=bl (n / 2)+1:=by
 obtain⟨m,rfl⟩:=Nat.exists_eq_succ_of_ne_zero h
 unfold bl
 rw[blF,if_neg h,blF_eq m _ _ (by omega) (Nat.le_refl _)]
theorem lt_bl (n:Nat):n<2^bl n:=by
 induction n using Nat.strongRecOn with
 | _ n ih =>
   by_cases h:n=0
   ·subst h;simp[bl_zero]
   ·rw[bl_pos h,Nat.pow_succ]
    have:=ih _ (Nat.div_lt_self (by omega:0<n) (by omega:1<2))
    omega
theorem bl_le {n:Nat} (h:n≠0):2^(bl n - 1)≤n:=by
 induction n using Nat.strongRecOn with
 | _ n ih =>
   rw[bl_pos h,Nat.add_sub_cancel]
   by_cases h2:n / 2=0
   ·rw[h2,bl_zero];omega
   ·have h3:=ih _ (Nat.div_lt_self (by omega:0<n) (by omega:1<2)) h2
    have h4:bl (n / 2)=bl (n / 2) - 1+1:=by rw[bl_pos h2];omega
    rw[h4,Nat.pow_succ];omega
theorem bl_eq_zero {n:Nat}:bl n=0↔n=0:=by
 constructor
 ·intro h;have:=lt_bl n;rw[h] at this;omega
 ·rintro rfl;exact bl_zero
theorem bl_le_iff {n k:Nat}:bl n≤k↔n<2^k:=by
 constructor
 ·intro h;exact Nat.lt_of_lt_of_le (lt_bl n) (Nat.pow_le_pow_right (by omega) h)
 ·intro h
  by_cases h0:n=0
  ·subst h0;simp[bl_zero]
  ·rcases Nat.lt_or_ge k (bl n) with h1 | h1
   ·have h2:=bl_le h0
    have h3:2^k≤2^(bl n - 1):=Nat.pow_le_pow_right (by omega) (by omega)
    omega
   ·exact h1
theorem bl_unique {n b:Nat} (h1:2^b≤n) (h2:n<2^(b+1)):bl n=b+1:=by
 have h3:=bl_le_iff.2 h2
 rcases Nat.lt_or_ge (bl n) (b+1) with h | h
 ·have:=bl_le_iff.1 (Nat.le_of_lt_succ h);omega
 ·omega
theorem bl_mono {a b:Nat} (h:a≤b):bl a≤bl b:=bl_le_iff.2 (Nat.lt_of_le_of_lt h (lt_bl b))
theorem W64_pow (k:Nat):W64^k=2^(64*k):=by rw[Nat.pow_mul];rfl
theorem bl_shift {x r k:Nat} (hx:x≠0) (hr:r<W64^k):bl (r+W64^k*x)=64*k+bl x:=by
 obtain⟨m,hm⟩:=Nat.exists_eq_succ_of_ne_zero (show bl x≠0 from fun e=>hx (bl_eq_zero.1 e))
 have h1:=bl_le hx
 have h2:=lt_bl x
 rw[hm] at h1 h2 ⊢
 rw[Nat.succ_sub_one] at h1
 rw[W64_pow] at *
 rw[show 64*k+m.succ=(64*k+m)+1 from rfl]
 refine bl_unique ?_ ?_
 ·rw[Nat.pow_add];have:=Nat.mul_le_mul_left (2^(64*k)) h1;omega
 ·rw[Nat.add_assoc,Nat.pow_add]
  have h3:=Nat.mul_le_mul_left (2^(64*k)) (Nat.succ_le_of_lt h2)
  rw[Nat.mul_succ] at h3
  have :m.succ=m+1:=rfl
  rw[this] at h3
  omega
theorem bl_num {l:List Nat} (hb:Bd l) (hr:Rt l) (h:l≠[]):bl (num l)=64*(l.length - 1)+bl (lat l (l.length - 1)):=by
 have h0:0<l.length:=List.length_pos_iff.2 h
 have e:=num_take_succ l (l.length - 1)
 rw[Nat.sub_add_cancel h0,List.take_length] at e
 rw[e]
 have h1:=num_lt _ (hb.take (l.length - 1))
 rw[List.length_take,Nat.min_eq_left (by omega)] at h1
 exact bl_shift (hr.resolve_left h) h1
end Go.Proofs.YtdnjdglekifhpaaGreat
namespace Go.Proofs.YtdnjdglekifhpaaGreat
def sided (neg:Bool) (n:Nat):Int:=if neg then -(n:Int) else n
end Go.Proofs.YtdnjdglekifhpaaGreat
namespace Go.Proofs.YtdnjdglekifhpaaGreat
theorem W32_ex:∃n:Nat,n=4294967296:=⟨_,rfl⟩
noncomputable def W32:Nat:=Classical.choose W32_ex
theorem W32_eq:W32=4294967296:=Classical.choose_spec W32_ex
theorem q_ok {u v1 v0 n q r y:Nat} (hy:y=v1*W32+v0) (hq:q*v1+r=u) (hc:q*v0≤W32*r+n):q*y≤u*W32+n:=by
 subst hy;subst hq;simp only[W32_eq] at *;grind
theorem q_big {u v1 v0 n q r y:Nat} (hy:y=v1*W32+v0) (hq:q*v1+r=u) (hc:W32*r+n<q*v0):u*W32+n<q*y:=by
 subst hy;subst hq;simp only[W32_eq] at *;grind
theorem q_huge {u n q y:Nat} (hu:u<y) (hn:n<W32) (hc:W32≤q):u*W32+n<q*y:=by
 have h1:W32*y≤q*y:=Nat.mul_le_mul_right _ hc
 have h2:(u+1)*W32≤y*W32:=Nat.mul_le_mul_right _ hu
 simp only[W32_eq] at *;omega
theorem q_break {v0 n q r:Nat} (hr:W32≤r) (hq:q≤W32) (hv:v0<W32):q*v0≤W32*r+n:=by
 have h1:q*v0≤W32*v0:=Nat.mul_le_mul_right _ hq
 have h2:W32*W32≤W32*r:=Nat.mul_le_mul_left _ hr
 simp only[W32_eq] at *;omega
theorem q_first {u v1 v0 n y:Nat} (hy:y=v1*W32+v0) (h1:2147483648≤v1) (hv:v0<W32) (hu:u<y) (hn:n<W32):
 u / v1≤W32+1∧u / v1*v1+u % v1=u∧u*W32+n<(u / v1+1)*y:=by
 have hp:0<v1:=by omega
 have hd:=Nat.div_add_mod u v1
 have hm:=Nat.mod_lt u hp
 have hc:u / v1*v1+u % v1=u:=by rw[Nat.mul_comm];exact hd
 refine ⟨?_,hc,?_⟩
 ·have :u / v1<W32+2:=by
   rw[Nat.div_lt_iff_lt_mul hp]
   simp only[W32_eq] at *;omega
  omega
 ·have h2:u+1≤(u / v1+1)*v1:=by rw[Nat.add_mul];omega
  have h3:(u+1)*W32≤(u / v1+1)*v1*W32:=Nat.mul_le_mul_right _ h2
  have h4:(u / v1+1)*y=(u / v1+1)*v1*W32+(u / v1+1)*v0:=by rw[hy,Nat.mul_add,Nat.mul_assoc]
  rw[h4]
  rw[Nat.add_mul,Nat.one_mul] at h3
  omega
theorem q_down {q v1 r u:Nat} (h:q*v1+r=u) (hq:0<q):(q - 1)*v1+(r+v1)=u:=by
 obtain⟨p,rfl⟩:∃p,q=p+1:=⟨q - 1,by omega⟩
 rw[Nat.add_mul,Nat.one_mul] at h
 simp only[Nat.add_sub_cancel]
 omega
theorem q_is {a q y:Nat} (h1:q*y≤a) (h2:a<(q+1)*y):q=a / y:=by
 have hy:0<y:=by
  rcases Nat.eq_zero_or_pos y with h | h
  ·subst h;omega
  ·exact h
 exact (Nat.div_eq_of_lt_le h1 h2).symm
theorem q_lt {u n y:Nat} (hu:u<y) (hn:n<W32):(u*W32+n) / y<W32:=by
 have hy:0<y:=by omega
 rw[Nat.div_lt_iff_lt_mul hy]
 have h2:(u+1)*W32≤y*W32:=Nat.mul_le_mul_right _ hu
 rw[Nat.mul_comm W32 y]
 simp only[W32_eq] at *;omega
theorem rem_wrap {a q y:Nat} (hq:q=a / y) (hy:0<y) (hy2:y≤W64):((a % W64+W64 - (q*y) % W64) % W64)=a % y:=by
 have h:=Nat.div_add_mod a y
 rw[←hq,Nat.mul_comm] at h
 have hm:=Nat.mod_lt a hy
 unfold W64 at *
 omega
end Go.Proofs.YtdnjdglekifhpaaGreat
namespace Go.Proofs.YtdnjdglekifhpaaGreat
theorem lat_set (l:List Nat) (i j v:Nat):lat (l.set i v) j=if i=j∧i<l.length then v else lat l j:=by
 unfold lat
 rw[List.getElem?_set]
 by_cases h:i=j
 ·subst h
  by_cases h2:i<l.length
  ·simp[h2]
  ·simp[h2]
 ·simp[h]
theorem Bd.set {l:List Nat} (h:Bd l) (i:Nat) {v:Nat} (hv:v<W64):Bd (l.set i v):=by
 intro x hx
 rcases List.mem_or_eq_of_mem_set hx with h' | h'
 ·exact h x h'
 ·rw[h'];exact hv
theorem num_set (l:List Nat) (i v:Nat) (h:i<l.length):num (l.set i v)+W64^i*lat l i=num l+W64^i*v:=by
 have e1:=num_split l i (by omega)
 have e2:=num_split (l.set i v) i (by simp;omega)
 rw[drop_lat l i h,num] at e1
 rw[drop_lat (l.set i v) i (by simp;omega),num,lat_set,if_pos ⟨rfl,h⟩,List.take_set_of_le (Nat.le_refl _),List.drop_set_of_lt (by omega)] at e2
 rw[e1,e2]
 simp only[Nat.mul_add]
 omega
def zeros (n:Nat):List Nat:=List.replicate n 0
theorem zeros_len (n:Nat):(zeros n).length=n:=by simp[zeros]
theorem num_replicate (n:Nat):num (List.replicate n 0)=0:=by
 induction n with
 | zero=>rfl
 | succ n ih=>rw[List.replicate_succ,num,ih];simp
theorem lat_replicate (n j:Nat):lat (List.replicate n 0) j=0:=by
 unfold lat;rw[List.getElem?_replicate];split<;>rfl
theorem Bd.replicate (n:Nat):Bd (List.replicate n 0):=fun x hx=>by rw[List.eq_of_mem_replicate hx];exact W64_pos
theorem num_zeros (n:Nat):num (zeros n)=0:=num_replicate n
theorem lat_zeros (n j:Nat):lat (zeros n) j=0:=lat_replicate n j
theorem Bd.zeros (n:Nat):Bd (zeros n):=Bd.replicate n
theorem mul_digit {x y o c lo hi s1 c1 h1 s2 c2 r:Nat} (hx:x<W64) (hy:y<W64) (ho:o<W64) (hc:c<W64) (e1:hi=x*y / W64) (e2:lo=x*y % W64) (e3:s1=(lo+o) % W64) (e4:c1=(lo+o) / W64)
 (e5:h1=hi+c1) (e6:s2=(s1+c) % W64) (e7:c2=(s1+c) / W64) (e8:r=h1+c2):s2+W64*r=x*y+o+c∧r<W64∧h1<W64∧s2<W64∧c1≤1∧c2≤1:=by
 have d1:=Nat.mod_add_div (x*y) W64
 have d2:=Nat.mod_add_div (lo+o) W64
 have d3:=Nat.mod_add_div (s1+c) W64
 rw[←e1,←e2] at d1
 rw[←e3,←e4] at d2
 rw[←e6,←e7] at d3
 have hs2:s2<W64:=e6 ▸ Nat.mod_lt _ W64_pos
 have total:s2+W64*r=x*y+o+c:=by rw[e8,e5];simp only[Nat.mul_add];omega
 have hp:x*y≤(W64 - 1)*(W64 - 1):=Nat.mul_le_mul (by omega) (by omega)
 have hp2:(W64 - 1)*(W64 - 1)+2*(W64 - 1)+1=W64*W64:=by unfold W64;rfl
 have hr:r<W64:=by
  rcases Nat.lt_or_ge r W64 with h | h
  ·exact h
  ·have:=Nat.mul_le_mul_left W64 h;omega
 have hlo:lo<W64:=e2 ▸ Nat.mod_lt _ W64_pos
 have hs1:s1<W64:=e3 ▸ Nat.mod_lt _ W64_pos
 refine ⟨total,hr,by omega,hs2,?_,?_⟩
 ·rw[e4];have:=Nat.div_lt_of_lt_mul (m:=lo+o) (n:=W64) (k:=2) (by omega);omega
 ·rw[e7];have:=Nat.div_lt_of_lt_mul (m:=s1+c) (n:=W64) (k:=2) (by omega);omega
theorem mul_inner {l b:List Nat} {i k N x c o s2 r:Nat} (hl:i+k<l.length) (ho:o=lat l (i+k)) (hinv:num l+W64^(i+k)*c=N+W64^i*(x*num (b.take k))) (hd:s2+W64*r=x*lat b k+o+c):
 num (l.set (i+k) s2)+W64^(i+k+1)*r=N+W64^i*(x*num (b.take (k+1))):=by
 have e1:=num_set l (i+k) s2 hl
 rw[←ho] at e1
 rw[num_take_succ,Nat.mul_add x,Nat.mul_add (W64^i),←Nat.add_assoc,←hinv,Nat.pow_succ]
 have e2:=congrArg (W64^(i+k)* ·) hd
 simp only[Nat.mul_add] at e2
 have e3:W64^i*(x*(W64^k*lat b k))=W64^(i+k)*(x*lat b k):=by
  rw[Nat.pow_add,Nat.mul_left_comm x,Nat.mul_assoc]
 have e4:W64^(i+k)*W64*r=W64^(i+k)*(W64*r):=by rw[Nat.mul_assoc]
 rw[e3,e4]
 omega
theorem mul_outer {l a b:List Nat} {i c:Nat} (hl:i+b.length<l.length) (h0:lat l (i+b.length)=0) (hinv:num l+W64^(i+b.length)*c=num (a.take i)*num b+W64^i*(lat a i*num b)):
 num (l.set (i+b.length) c)=num (a.take (i+1))*num b:=by
 have e1:=num_set l (i+b.length) c hl
 rw[h0] at e1
 rw[num_take_succ,Nat.add_mul,Nat.mul_assoc,←hinv]
 omega
end Go.Proofs.YtdnjdglekifhpaaGreat
namespace Go.Proofs.YtdnjdglekifhpaaGreat
def H32:Nat:=4294967296
theorem H32_pos:0<H32:=by unfold H32;omega
theorem two_le_H32:2≤H32:=by unfold H32;omega
theorem W64_H32:W64=H32*H32:=by unfold W64 H32;rfl
def nuh:List Nat→Nat
 | []=>0
 | x::r=>x+H32*nuh r
def Bh (l:List Nat):Prop:=∀x∈l,x<H32
theorem Bh.bd {l:List Nat} (h:Bh l):Bd l:=fun x hx=>by have:=h x hx;unfold H32 at this;unfold W64;omega
theorem Bh.nil:Bh []:=by simp[Bh]
theorem Bh.snoc {x:Nat} {l:List Nat} (hl:Bh l) (h:x<H32):Bh (l++[x]):=by
 intro y hy;rcases List.mem_append.1 hy with h' | h';exact hl _ h';rw[List.mem_singleton.1 h'];exact h
theorem Bh.lat {l:List Nat} (h:Bh l) (i:Nat):lat l i<H32:=by
 unfold Go.Proofs.YtdnjdglekifhpaaGreat.lat
 by_cases hi:i<l.length
 ·rw[List.getElem?_eq_getElem hi];exact h _ (List.getElem_mem hi)
 ·rw[List.getElem?_eq_none (by omega)];exact H32_pos
theorem Bh.set {l:List Nat} (h:Bh l) (i:Nat) {v:Nat} (hv:v<H32):Bh (l.set i v):=by
 intro x hx
 rcases List.mem_or_eq_of_mem_set hx with h' | h'
 ·exact h x h'
 ·rw[h'];exact hv
theorem Bh.zeros (n:Nat):Bh (zeros n):=fun x hx=>by rw[List.eq_of_mem_replicate hx];exact H32_pos
theorem Bh.tail {x:Nat} {l:List Nat} (h:Bh (x::l)):Bh l:=fun y hy=>h y (List.mem_cons_of_mem _ hy)
theorem nuh_append (a b:List Nat):nuh (a++b)=nuh a+H32^a.length*nuh b:=by
 induction a with
 | nil=>simp[nuh]
 | cons x r ih=>simp only[List.cons_append,nuh,ih,List.length_cons,Nat.pow_succ,Nat.mul_add];rw[Nat.mul_comm (H32^r.length) H32,Nat.mul_assoc];omega
theorem nuh_single (x:Nat):nuh [x]=x:=by simp[nuh]
theorem nuh_take_succ (l:List Nat) (k:Nat):nuh (l.take (k+1))=nuh (l.take k)+H32^k*lat l k:=by
 by_cases hk:k<l.length
 ·rw[List.take_succ_eq_append_getElem hk,nuh_append,nuh_single]
  have :(l.take k).length=k:=by simp;omega
  rw[this];simp[lat,hk]
 ·rw[lat_ge (by omega),List.take_of_length_le (by omega),List.take_of_length_le (by omega)];simp
theorem nuh_take_ge (l:List Nat) (k:Nat) (h:l.length≤k):nuh (l.take k)=nuh l:=by rw[List.take_of_length_le h]
theorem nuh_lt (l:List Nat) (h:Bh l):nuh l<H32^l.length:=by
 induction l with
 | nil=>simp[nuh]
 | cons x r ih =>
   have h1:=ih h.tail
   have h2:=h x (List.mem_cons_self ..)
   simp only[nuh,List.length_cons,Nat.pow_succ]
   have :H32*nuh r+H32≤H32*H32^r.length:=by
    have:=Nat.mul_le_mul_left H32 (Nat.succ_le_of_lt h1)
    rw[Nat.mul_succ] at this;exact this
   rw[Nat.mul_comm (H32^r.length) H32];omega
def hv:List Nat→List Nat
 | []=>[]
 | x::r=>x % H32::x / H32::hv r
theorem hv_len (l:List Nat):(hv l).length=2*l.length:=by
 induction l with
 | nil=>rfl
 | cons x r ih=>simp only[hv,List.length_cons,ih];omega
theorem hv_snoc (l:List Nat) (x:Nat):hv (l++[x])=hv l++[x % H32,x / H32]:=by
 induction l with
 | nil=>rfl
 | cons y r ih=>simp[hv,ih]
theorem hv_take_succ (l:List Nat) (k:Nat) (h:k<l.length):hv (l.take (k+1))=hv (l.take k)++[lat l k % H32,lat l k / H32]:=by
 rw[List.take_succ_eq_append_getElem h,hv_snoc];simp[lat,h]
theorem hv_bh (l:List Nat) (h:Bd l):Bh (hv l):=by
 induction l with
 | nil=>exact Bh.nil
 | cons x r ih =>
   intro y hy
   simp only[hv,List.mem_cons] at hy
   rcases hy with rfl | rfl | hy
   ·exact Nat.mod_lt _ H32_pos
   ·rw[Nat.div_lt_iff_lt_mul H32_pos,←W64_H32];exact h.head
   ·exact ih h.tail y hy
theorem nuh_hv (l:List Nat):nuh (hv l)=num l:=by
 induction l with
 | nil=>rfl
 | cons x r ih =>
   simp only[hv,nuh,num,ih]
   have:=Nat.mod_add_div x H32
   rw[W64_H32,Nat.mul_add,←Nat.mul_assoc];omega
def wh (l:List Nat):Nat→List Nat
 | 0=>[]
 | k+1=>wh l k++[lat l (2*k)+lat l (2*k+1)*H32]
theorem wh_len (l:List Nat) (k:Nat):(wh l k).length=k:=by
 induction k with
 | zero=>rfl
 | succ k ih=>simp[wh,ih]
theorem wh_bd (l:List Nat) (h:Bh l) (k:Nat):Bd (wh l k):=by
 induction k with
 | zero=>exact Bd.nil
 | succ k ih =>
   refine ih.snoc ?_
   have h1:=h.lat (2*k)
   have h2:=h.lat (2*k+1)
   rw[W64_H32]
   have :(lat l (2*k+1)+1)*H32≤H32*H32:=Nat.mul_le_mul_right _ h2
   rw[Nat.add_mul,Nat.one_mul] at this;omega
theorem num_wh (l:List Nat) (k:Nat):num (wh l k)=nuh (l.take (2*k)):=by
 induction k with
 | zero=>simp[wh,num,nuh]
 | succ k ih =>
   rw[wh,num_append,num_single,wh_len,ih,show 2*(k+1)=2*k+1+1 from by omega,nuh_take_succ,nuh_take_succ]
   rw[W64_H32,Nat.pow_succ,Nat.pow_mul,Nat.pow_two,Nat.mul_add,Nat.mul_comm (lat l (2*k+1)) H32,←Nat.mul_assoc,Nat.add_assoc]
def haddF (s:List Nat×Nat) (p:Nat×Nat):List Nat×Nat:=(s.1++[(p.1+p.2+s.2) % H32],(p.1+p.2+s.2) / H32)
def haddTo (a b:List Nat):Nat→List Nat×Nat
 | 0=>([],0)
 | k+1=>haddF (haddTo a b k) (lat a k,lat b k)
theorem haddTo_ok (a b:List Nat) (ha:Bh a) (hb:Bh b) (k:Nat):nuh (haddTo a b k).1+H32^k*(haddTo a b k).2=nuh (a.take k)+nuh (b.take k)∧(haddTo a b k).1.length=k∧(haddTo a b k).2≤1∧Bh (haddTo a b k).1:=by
 induction k with
 | zero=>simp[haddTo,nuh,Bh.nil]
 | succ k ih =>
   obtain⟨h1,h2,h3,h4⟩:=ih
   simp only[haddTo,haddF]
   generalize haddTo a b k=s at *
   have hx:=ha.lat k
   have hy:=hb.lat k
   refine ⟨?_,by simp[h2],?_,h4.snoc (Nat.mod_lt _ H32_pos)⟩
   ·rw[nuh_append,nuh_single,h2,nuh_take_succ,nuh_take_succ,Nat.pow_succ]
    have:=Nat.mod_add_div (lat a k+lat b k+s.2) H32
    have e:H32^k*((lat a k+lat b k+s.2) % H32)+H32^k*H32*((lat a k+lat b k+s.2) / H32)=H32^k*(lat a k+lat b k+s.2):=by
     rw[Nat.mul_assoc,←Nat.mul_add,this]
    simp only[Nat.mul_add] at *
    omega
   ·have:=Nat.div_lt_of_lt_mul (m:=lat a k+lat b k+s.2) (n:=H32) (k:=2) (by omega)
    omega
theorem carry_core {P H n a b:Nat} (h2:2≤H) (la:a<P) (lb:b<P) (h1:n+P*H=a+b):False:=by
 have :P*2≤P*H:=Nat.mul_le_mul_left _ h2
 omega
theorem haddTo_end (a b:List Nat) (ha:Bh a) (hb:Bh b):nuh (haddTo a b (max a.length b.length+1)).1=nuh a+nuh b:=by
 obtain⟨h1,h2,h3,h4⟩:=haddTo_ok a b ha hb (max a.length b.length+1)
 rw[nuh_take_ge _ _ (by omega),nuh_take_ge _ _ (by omega)] at h1
 have la:=nuh_lt a ha
 have lb:=nuh_lt b hb
 have pa:H32^a.length≤H32^max a.length b.length:=Nat.pow_le_pow_right H32_pos (by omega)
 have pb:H32^b.length≤H32^max a.length b.length:=Nat.pow_le_pow_right H32_pos (by omega)
 generalize haddTo a b (max a.length b.length+1)=s at *
 generalize max a.length b.length=m at *
 clear h2 h4
 obtain⟨s1,s2⟩:=s
 dsimp only at *
 have hs:s2=0∨s2=1:=by omega
 rcases hs with e | e
 ·rw[e,Nat.mul_zero] at h1;exact h1
 ·exfalso
  rw[e,Nat.pow_succ,Nat.mul_one] at h1
  exact carry_core two_le_H32 (Nat.lt_of_lt_of_le la pa) (Nat.lt_of_lt_of_le lb pb) h1
def hsubF (s:List Nat×Nat) (p:Nat×Nat):List Nat×Nat:=(s.1++[(H32+p.1 - p.2 - s.2) % H32],1 - (H32+p.1 - p.2 - s.2) / H32)
def hsubTo (a b:List Nat):Nat→List Nat×Nat
 | 0=>([],0)
 | k+1=>hsubF (hsubTo a b k) (lat a k,lat b k)
theorem hsubTo_ok (a b:List Nat) (ha:Bh a) (hb:Bh b) (k:Nat):nuh (hsubTo a b k).1+nuh (b.take k)=nuh (a.take k)+H32^k*(hsubTo a b k).2∧(hsubTo a b k).1.length=k∧(hsubTo a b k).2≤1∧Bh (hsubTo a b k).1:=by
 induction k with
 | zero=>simp[hsubTo,nuh,Bh.nil]
 | succ k ih =>
   obtain⟨h1,h2,h3,h4⟩:=ih
   simp only[hsubTo,hsubF]
   generalize hsubTo a b k=s at *
   have hx:=ha.lat k
   have hy:=hb.lat k
   refine ⟨?_,by simp[h2],Nat.sub_le _ _,h4.snoc (Nat.mod_lt _ H32_pos)⟩
   rw[nuh_append,nuh_single,h2,nuh_take_succ,nuh_take_succ,Nat.pow_succ]
   generalize lat a k=x at *
   generalize lat b k=y at *
   have key:(H32+x - y - s.2) % H32+y+s.2=x+H32*(1 - (H32+x - y - s.2) / H32):=by
    by_cases h:x<y+s.2
    ·rw[Nat.mod_eq_of_lt (by omega),Nat.div_eq_of_lt (by omega)];omega
    ·have e:H32+x - y - s.2=(x - y - s.2)+H32:=by omega
     rw[e,Nat.add_mod_right,Nat.mod_eq_of_lt (by omega),Nat.add_div_right _ H32_pos,Nat.div_eq_of_lt (by omega)];omega
   have e:=congrArg (H32^k* ·) key
   simp only[Nat.mul_add,←Nat.mul_assoc] at e
   omega
theorem hsubTo_end (a b:List Nat) (ha:Bh a) (hb:Bh b) (hl:b.length≤a.length) (hle:nuh b≤nuh a):nuh (hsubTo a b a.length).1=nuh a - nuh b:=by
 obtain⟨h1,h2,h3,h4⟩:=hsubTo_ok a b ha hb a.length
 rw[nuh_take_ge _ _ (by omega),nuh_take_ge _ _ (by omega)] at h1
 have h5:=nuh_lt _ h4
 rw[h2] at h5
 have :(hsubTo a b a.length).2=0∨(hsubTo a b a.length).2=1:=by omega
 rcases this with e | e
 ·rw[e,Nat.mul_zero] at h1;omega
 ·rw[e,Nat.mul_one] at h1;omega
end Go.Proofs.YtdnjdglekifhpaaGreat
namespace Go.Proofs.YtdnjdglekifhpaaGreat
open Go.RowKit
theorem block_of_add (a:Addr) (n:Nat):(a.add n).block=a.block:=by unfold Addr.add;split<;>rfl
theorem add_of_add (a:Addr) (i j:Nat):(a.add i).add j=a.add (i+j):=by
 unfold Addr.add
 by_cases hi:i=0<;>by_cases hj:j=0<;>simp[hi,hj,Nat.add_assoc]
def Reads (w:World) (B size:Nat) (A:Option Addr) (n:Nat) (xs:List Value):Prop:=
 xs.length=n*size∧(0<n→∃ad,A=some ad∧ad.block<B∧∀j u,xs[j]?=some u→w.cell? (ad.add j)=some u)
section
variable {w w':World} {B B' size n:Nat} {A:Option Addr} {xs:List Value}
theorem Reads.none_:Reads w B size A 0 []:=⟨by simp,fun h=>absurd h (by omega)⟩
theorem Reads.at_ {k:Nat} (h:Reads w B 1 A n xs) (hk:k<n):∃ad u,A=some ad∧ad.block<B∧xs[k]?=some u∧w.cell? (ad.add k)=some u:=by
 obtain⟨ad,e,hb,hc⟩:=h.2 (by omega)
 have hl:k<xs.length:=by have:=h.1;omega
 exact⟨ad,xs[k],e,hb,List.getElem?_eq_getElem hl,hc k _ (List.getElem?_eq_getElem hl)⟩
theorem Reads.keep (h:Reads w B size A n xs) (hk:∀p:Addr,p.block<B→w'.cell? p=w.cell? p):Reads w' B size A n xs:=
 ⟨h.1, fun hn => by
  obtain⟨ad,e,hb,hc⟩:=h.2 hn
  exact⟨ad,e,hb,fun j u hu=>(hk _ (by rw[block_of_add];exact hb)).trans (hc j u hu)⟩⟩
theorem Reads.more (h:Reads w B size A n xs) (hB:B≤B'):Reads w B' size A n xs:=
 ⟨h.1, fun hn => by
  obtain⟨ad,e,hb,hc⟩:=h.2 hn
  exact⟨ad,e,by omega,hc⟩⟩
theorem Reads.below (h:Reads w B size A n xs) (hb:Below B w w'):Reads w' B size A n xs:=h.keep fun _ hp=>hb.cell hp
theorem Reads.drew (h:Reads w B size A n xs):Reads w.drew B size A n xs:=h
theorem Reads.drewN (h:Reads w B size A n xs) (k:Nat):Reads (w.drewN k) B size A n xs:=h
theorem Reads.alloc (h:Reads w B size A n xs) (hB:B≤w.heap.size) (o:Obj):Reads (w.alloc o) B size A n xs:=h.keep fun p hp=>World.cell?_alloc_lt w o p (by omega)
theorem Reads.setCell (h:Reads w B size A n xs) {p:Addr} (hB:B≤p.block) (u:Value):Reads (w.setCell p u) B size A n xs:=
 h.keep fun q hq=>World.cell?_setCell_other w p q u (fun e=>by subst e;omega)
theorem Reads.grown (h:Reads w B size A n xs) {row:Option Nat} (hg:w.grownBy w' row) (hB:B≤w.heap.size) (hr:∀g,row=some g→B≤g):Reads w' B size A n xs:=
 h.keep fun p hp=>World.cell?_of_block (hg.block p.block (by omega) (fun e=>by have:=hr _ e.symm;omega))
theorem Reads.of_own {base:Nat} {e:TypeId} {c:Nat} (h:w.ownsRow base e size (.slice A n c) n xs):Reads w w.heap.size size A n xs:=by
 refine ⟨h.1,fun hn=>?_⟩
 obtain⟨g,cap,hv,_,hlt⟩:=h.form hn
 have hA:A=some ⟨g,0,none⟩:=by injection hv
 subst hA
 exact⟨_,rfl,hlt,h.cells (g:=g) rfl⟩
end
theorem below_drewN {B:Nat} {a w:World} (h:Below B a w) (n:Nat):Below B a (w.drewN n):=⟨h.os,h.tape,h.output,h.size,h.block⟩
theorem ret_bool {a b:Bool} (h:a=b):Ending.returned (.bool a)=Ending.returned (.bool b):=by rw[h]
theorem ret_int {k:IntKind} {a b:Int} (h:a=b):Ending.returned (.int k a)=Ending.returned (.int k b):=by rw[h]
theorem nat_eq0 (x:Nat):(((x:Nat):Int) == 0)=decide (x=0):=by
 rcases Nat.eq_zero_or_pos x with h | h
 ·subst h;rfl
 ·rw[beq_eq_false_iff_ne.2 (by omega),decide_eq_false (by omega)]
def us (l:List Nat):List Value:=l.map fun (n:Nat)=>Value.int .u64 (n:Int)
theorem us_len (l:List Nat):(us l).length=l.length:=by simp[us]
theorem us_at (l:List Nat) (j:Nat) (h:j<l.length):(us l)[j]?=some (.int .u64 ((l[j]?.getD 0:Nat):Int)):=by simp[us,h]
def IsL (w:World) (v:Value) (l:List Nat):Prop:=
 ∃(A:Option Addr) (c:Nat),v= .slice A l.length c∧l.length≤c∧c≤9223372036854775807∧Bd l∧Reads w w.heap.size 1 A l.length (us l)
def IsN (w:World) (v:Value) (n:Nat):Prop:=IsL w v (limbs n)
section
variable {w w':World} {v:Value} {l:List Nat} {n:Nat}
theorem IsL.below (h:IsL w v l) (hb:Below w.heap.size w w'):IsL w' v l:=by
 obtain⟨A,c,e,h1,h2,h3,h4⟩:=h
 exact⟨A,c,e,h1,h2,h3,(h4.below hb).more hb.size⟩
theorem IsN.below (h:IsN w v n) (hb:Below w.heap.size w w'):IsN w' v n:=IsL.below h hb
theorem IsL.nil (w:World):IsL w (.slice none 0 0) []:=⟨none,0,rfl,by simp,by omega,Bd.nil,Reads.none_⟩
theorem IsN.zero (w:World):IsN w (.slice none 0 0) 0:=by unfold IsN;rw[limbs_zero];exact IsL.nil w
theorem IsL.at_ (h:IsL w v l):∃(A:Option Addr) (c:Nat),v= .slice A l.length c∧l.length≤c∧c≤9223372036854775807∧Bd l∧Reads w w.heap.size 1 A l.length (us l):=h
theorem us_cell {A:Option Addr} {k m B:Nat} (h:Reads w B 1 A m (us l)) (hk:k<m):∃ad,A=some ad∧ad.block<B∧w.cell? (ad.add k)=some (.int .u64 ((lat l k:Nat):Int)):=by
 obtain⟨ad,u,rfl,hb,hx,hc⟩:=h.at_ hk
 have hl:k<l.length:=by have:=h.1;rw[us_len] at this;omega
 rw[us_at _ _ hl] at hx
 obtain rfl:=Option.some.inj hx
 exact⟨ad,rfl,hb,hc⟩
theorem Reads.shorter {A:Option Addr} {m k B:Nat} (h:Reads w B 1 A m (us l)) (hk:k≤m):Reads w B 1 A k (us (l.take k)):=by
 have hl:=h.1
 rw[us_len] at hl
 refine ⟨by rw[us_len];simp;omega,fun h0=>?_⟩
 obtain⟨ad,e,hb,hc⟩:=h.2 (by omega)
 refine ⟨ad,e,hb,fun j u hu=>hc j u ?_⟩
 have hj:j<k:=by
  rcases Nat.lt_or_ge j k with h' | h'
  ·exact h'
  ·rw[List.getElem?_eq_none (by rw[us_len];simp;omega)] at hu;cases hu
 rw[←hu];unfold us
 rw[List.map_take,List.getElem?_take,if_pos hj]
def Fresh (B:Nat) (v:Value):Prop:=∀g,v.ownBlock=some g→B≤g
theorem Fresh.more {B B':Nat} {v:Value} (h:Fresh B v) (hB:B'≤B):Fresh B' v:=fun g e=>Nat.le_trans hB (h g e)
theorem Fresh.ne {B g:Nat} {v:Value} (h:Fresh B v) (hg:g<B):v.ownBlock≠some g:=fun e=>by have:=h g e;omega
theorem Fresh.of_own {base:Nat} {e:TypeId} {size n:Nat} {xs:List Value} (h:w.ownsRow base e size v n xs):Fresh base v:=fun g eg=>(h.lt g eg).1
theorem IsL.far (h:IsL w v l) {p:Addr} (hp:v.ownBlock≠some p.block) (u:Value):IsL (w.setCell p u) v l:=by
 obtain⟨A,c,rfl,h1,h2,h3,h4⟩:=h
 refine ⟨A,c,rfl,h1,h2,h3,h4.1,fun hn=>?_⟩
 obtain⟨ad,rfl,hb,hc⟩:=h4.2 hn
 refine ⟨ad,rfl,by simpa [World.setCell] using hb,fun j y hj=>(World.cell?_setCell_other w p _ u (fun e=>hp ?_)).trans (hc j y hj)⟩
 show some ad.block=some p.block
 rw[e,block_of_add]
theorem IsN.far (h:IsN w v n) {p:Addr} (hp:v.ownBlock≠some p.block) (u:Value):IsN (w.setCell p u) v n:=IsL.far h hp u
theorem Reads.fresh (w:World) (t:TypeId) (xs:List Value) (n:Nat) (h:n=xs.length):Reads (w.alloc (.cells xs.toArray t)) (w.heap.size+1) 1 (some ⟨w.heap.size,0,none⟩) n xs:=by
 refine ⟨by omega,fun _=>⟨_,rfl,by simp,fun j u hu=>?_⟩⟩
 have e:Addr.add ⟨w.heap.size,0,none⟩ j=⟨w.heap.size,j,none⟩:=by unfold Addr.add;split<;>simp_all
 rw[e,World.cell?_alloc_at _ _ _ _ rfl]
 simpa using hu
theorem IsL.fresh (w:World) (t:TypeId) (l:List Nat) (hb:Bd l) (hl:l.length≤9223372036854775807):IsL (w.alloc (.cells (us l).toArray t)) (.slice (some ⟨w.heap.size,0,none⟩) l.length l.length) l:=
 ⟨_,_,rfl,Nat.le_refl _,hl,hb,by simpa using Reads.fresh w t (us l) l.length (us_len l).symm⟩
end
end Go.Proofs.YtdnjdglekifhpaaGreat
namespace Go.Proofs.YtdnjdglekifhpaaGreat
open Go.RowKit
theorem quiet_left {P:Program} {f:FuncId} {args:Array Value} {w:World} {n:Nat} {v:Value}
 (h:Calls P f args (w.drewN n) fun e w'=>e= .returned v∧w.drewN n=w'):Calls P f args (w.drewN n) fun e w''=>e= .returned v∧∃m,w''=w.drewN m:=
 h.mono fun _ _ ⟨he,hm⟩=>⟨he,n,hm.symm⟩
end Go.Proofs.YtdnjdglekifhpaaGreat
namespace Go.Proofs.YtdnjdglekifhpaaGreat
open Go.RowKit
theorem lay1 {α:Type _} {xs:List α} {i:Nat} (h:i<xs.toArray.size):xs.toArray[i]=xs[i]'h:=rfl
theorem lay2 {α:Type _} {a:α} {xs:List α} {i:Nat} (h:i+1<(a::xs).length):(a::xs)[i+1]=xs[i]'(Nat.lt_of_succ_lt_succ h):=rfl
theorem lay3 {α:Type _} {a:α} {xs:List α} (h:0<(a::xs).length):(a::xs)[0]=a:=rfl
theorem lay4 {α:Type _} (l:List α) (i:Nat) (a:α):l.toArray.setIfInBounds i a=(l.set i a).toArray:=List.setIfInBounds_toArray l i a
theorem lay5 {α:Type _} {x:α} {xs:List α} {a:α}:(x::xs).set 0 a=a::xs:=rfl
theorem lay6 {α:Type _} {x:α} {xs:List α} {i:Nat} {a:α}:(x::xs).set (i+1) a=x::xs.set i a:=rfl
def Blk (w:World) (g:Nat) (t:TypeId) (cs:Array Value):Prop:=w.heap[g]?=some (.cells cs t (0,0))
section
variable {w w':World} {g:Nat} {t:TypeId} {cs:Array Value}
theorem Blk.lt (h:Blk w g t cs):g<w.heap.size:=by
 rcases Nat.lt_or_ge g w.heap.size with hlt | hge
 ·exact hlt
 ·unfold Blk at h;rw[Array.getElem?_eq_none hge] at h;cases h
theorem Blk.cell (h:Blk w g t cs) (i:Nat):w.cell? ⟨g,i,none⟩=cs[i]?:=cell_of_row w g i cs t (0,0) h
theorem Blk.frozen (h:Blk w g t cs) (i:Nat):w.frozen? ⟨g,i,none⟩=false:=by
 unfold Blk at h
 simp[World.frozen?,h]
theorem Blk.new (w:World) (t:TypeId) (cs:Array Value):Blk (w.alloc (.cells cs t)) w.heap.size t cs:=heap_alloc_new w _
theorem Blk.drew (h:Blk w g t cs):Blk w.drew g t cs:=h
theorem Blk.drewN (h:Blk w g t cs) (n:Nat):Blk (w.drewN n) g t cs:=h
theorem Blk.alloc (h:Blk w g t cs) (o:Obj):Blk (w.alloc o) g t cs:=(Below.heap_alloc w o g h.lt).trans h
theorem Blk.set_ (h:Blk w g t cs) (i:Nat) (u:Value):Blk (w.setCell ⟨g,i,none⟩ u) g t (cs.setIfInBounds i u):=by
 unfold Blk at h ⊢
 simp[World.setCell,Array.getElem?_modify,h]
theorem Blk.far (h:Blk w g t cs) {p:Addr} (hp:g≠p.block) (u:Value):Blk (w.setCell p u) g t cs:=(Below.heap_setCell w p u g hp).trans h
theorem Blk.below {B:Nat} (h:Blk w g t cs) (hb:Below B w w') (hg:g<B):Blk w' g t cs:=(hb.block g hg).trans h
theorem Blk.grown {row:Option Nat} (h:Blk w g t cs) (hb:w.grownBy w' row) (hg:some g≠row):Blk w' g t cs:=(hb.block g h.lt hg).trans h
end
end Go.Proofs.YtdnjdglekifhpaaGreat
namespace Go.Proofs.YtdnjdglekifhpaaGreat
open Go.RowKit
abbrev IsL.b:= @IsL.below
abbrev IsN.b:= @IsN.below
theorem Blk.b {w w' g t cs} (h:Blk w g t cs) (hb:Below w.heap.size w w'):Blk w' g t cs:=h.below hb h.lt
end Go.Proofs.YtdnjdglekifhpaaGreat
namespace Go.Proofs.YtdnjdglekifhpaaGreat
open Go.RowKit
section
variable {P:Program} (w:World)
theorem run_append_of_nil (base:Nat) (t ty e:TypeId) (i:TypeInfo) (size:Nat) (ht:P.underlying t=some (.slice e)) (hi:P.info? e=some i)
 (v:Value) (n:Nat) (xs:List Value) (hown:w.ownsRow base e size v n xs) (c:Nat):(Builtin.append_ #[t,t] ty #[v,.slice none 0 c]).run P w= .ok v w:=by
 rcases hown.2 with ⟨rfl,rfl⟩ | ⟨g,cap,cur,rfl,_,_,hnc,_⟩
 ·simp[Builtin.append_,run_underlying ht,sizeOf,typeInfo,hi,Builtin.lenOf,Builtin.firstCells]
 ·simp[Builtin.append_,run_underlying ht,sizeOf,typeInfo,hi,Builtin.lenOf,Builtin.firstCells,hnc,storeCells]
theorem run_append_any (base:Nat) (t ty e:TypeId) (i:TypeInfo) (z:Value) (size bytes:Nat) (ht:P.underlying t=some (.slice e)) (hi:P.info? e=some i) (hz:i.zero=some z)
 (hsize:i.size=size) (hby:i.bytes=bytes) (hzs:z.cells.size=size) (hsz:0<size)
 (v:Value) (n:Nat) (xs:List Value) (hown:w.ownsRow base e size v n xs)
 (B:Nat) (A:Option Addr) (m c:Nat) (news:List Value) (hr:Reads w B size A m news) (h1:∀u∈news,u.oneCell'=true)
 (h63:n+m≤maxLen) (hbytes:(n+m)*bytes≤140737488355328) (hbase:base≤w.heap.size):
 ∃v' w',(Builtin.append_ #[t,t] ty #[v,.slice A m c]).run P w= .ok v' w'∧w'.ownsRow base e size v' (n+m) (xs++news)∧w.grownBy w' v.ownBlock∧
  (v'.ownBlock=v.ownBlock∨v'.ownBlock=some w.heap.size):=by
 rcases A with _ | ad
 ·have hm:m=0:=by
   rcases Nat.eq_zero_or_pos m with h0 | h0
   ·exact h0
   ·obtain⟨ad,h,_⟩:=hr.2 h0
    cases h
  subst hm
  have hn:news=[]:=List.eq_nil_of_length_eq_zero (by simpa using hr.1)
  subst hn
  exact⟨v,w,run_append_of_nil w base t ty e i size ht hi v n xs hown c,by simpa using hown,World.grownBy.refl w _,.inl rfl⟩
 ·have hcells:∀j u,news[j]?=some u→w.cell? (ad.add j)=some u:=by
   intro j u hu
   rcases Nat.eq_zero_or_pos m with h0 | h0
   ·subst h0
    have hn:news=[]:=List.eq_nil_of_length_eq_zero (by simpa using hr.1)
    subst hn
    simp at hu
   ·obtain⟨ad',h,_,hc⟩:=hr.2 h0
    injection h with h
    subst h
    exact hc j u hu
  obtain⟨v',w',hrun,h2,h3,_,h5⟩:=run_append_own_at (P:=P) w base t ty e i z size bytes ht hi hz hsize hby hzs hsz v n xs hown ad m c news hr.1 hcells h1 h63 hbytes hbase
  exact⟨v',w',hrun,h2,h3,h5⟩
theorem wp_append_any {o:Oper} {a:Act} {K:Act→World→Prop} {Q:Exit→Act→World→Prop} (s x:Operand) (t:TypeId)
 (ho:o.op= .call { callee:= .builtin .append,args:= #[s,x],argTypes:= #[t,t] })
 (base:Nat) (e:TypeId) (i:TypeInfo) (z:Value) (size bytes:Nat) (ht:P.underlying t=some (.slice e)) (hi:P.info? e=some i) (hz:i.zero=some z)
 (hsize:i.size=size) (hby:i.bytes=bytes) (hzs:z.cells.size=size) (hsz:0<size)
 (v:Value) (n:Nat) (xs:List Value) (hs:a.eval s=v) (hown:w.ownsRow base e size v n xs)
 (B:Nat) (A:Option Addr) (m c:Nat) (news:List Value) (hx:a.eval x= .slice A m c) (hr:Reads w B size A m news) (h1:∀u∈news,u.oneCell'=true)
 (h63:n+m≤maxLen) (hbytes:(n+m)*bytes≤140737488355328) (hbase:base≤w.heap.size)
 (h:∀v' w',w'.ownsRow base e size v' (n+m) (xs++news)→w.grownBy w' v.ownBlock→(v'.ownBlock=v.ownBlock∨v'.ownBlock=some w.heap.size)→K (a.put o.dst v') w'):o.wp P a w K Q:=by
 obtain⟨v',w',hrun,h2,h3,h4⟩:=run_append_any (P:=P) w base t o.type e i z size bytes ht hi hz hsize hby hzs hsz v n xs hown B A m c news hr h1 h63 hbytes hbase
 unfold Oper.wp execOp
 simp only[ho,resolve,invoke,builtin,Sem.run_bind,Sem.run_pure,Result.andThen_ok,List.map_toArray,List.map_cons,List.map_nil,hs,hx,hrun]
 exact h v' w' h2 h3 h4
theorem wpList_append_any {ops:Array Oper} {rest:List Oper} {o:Oper} {a:Act} {Q:Exit→Act→World→Prop} (hgd:o.guard=none) (s x:Operand) (t:TypeId)
 (ho:o.op= .call { callee:= .builtin .append,args:= #[s,x],argTypes:= #[t,t] })
 (base:Nat) (e:TypeId) (i:TypeInfo) (z:Value) (size bytes:Nat) (ht:P.underlying t=some (.slice e)) (hi:P.info? e=some i) (hz:i.zero=some z)
 (hsize:i.size=size) (hby:i.bytes=bytes) (hzs:z.cells.size=size) (hsz:0<size)
 (v:Value) (n:Nat) (xs:List Value) (hs:a.eval s=v) (hown:w.ownsRow base e size v n xs)
 (B:Nat) (A:Option Addr) (m c:Nat) (news:List Value) (hx:a.eval x= .slice A m c) (hr:Reads w B size A m news) (h1:∀u∈news,u.oneCell'=true)
 (h63:n+m≤maxLen) (hbytes:(n+m)*bytes≤140737488355328) (hbase:base≤w.heap.size)
 (h:∀v' w',w'.ownsRow base e size v' (n+m) (xs++news)→w.grownBy w' v.ownBlock→(v'.ownBlock=v.ownBlock∨v'.ownBlock=some w.heap.size)→wpList P ops Q rest (a.put o.dst v') w'):wpList P ops Q (o::rest) a w:=
 wpList_plain hgd fun _ hK=>wp_append_any w s x t ho base e i z size bytes ht hi hz hsize hby hzs hsz v n xs hs hown B A m c news hx hr h1 h63 hbytes hbase fun v' w' h2 h3 h4=>hK _ _ (h v' w' h2 h3 h4)
theorem step_append_any {ops:Array Oper} {o:Oper} {a:Act} {K:Act→World→Prop} {Q:Exit→Act→World→Prop} {E:Prop} (hgd:o.guard=none) (s x:Operand) (t:TypeId)
 (ho:o.op= .call { callee:= .builtin .append,args:= #[s,x],argTypes:= #[t,t] })
 (base:Nat) (e:TypeId) (i:TypeInfo) (z:Value) (size bytes:Nat) (ht:P.underlying t=some (.slice e)) (hi:P.info? e=some i) (hz:i.zero=some z)
 (hsize:i.size=size) (hby:i.bytes=bytes) (hzs:z.cells.size=size) (hsz:0<size)
 (v:Value) (n:Nat) (xs:List Value) (hs:a.eval s=v) (hown:w.ownsRow base e size v n xs)
 (B:Nat) (A:Option Addr) (m c:Nat) (news:List Value) (hx:a.eval x= .slice A m c) (hr:Reads w B size A m news) (h1:∀u∈news,u.oneCell'=true)
 (h63:n+m≤maxLen) (hbytes:(n+m)*bytes≤140737488355328) (hbase:base≤w.heap.size)
 (h:∀v' w',w'.ownsRow base e size v' (n+m) (xs++news)→w.grownBy w' v.ownBlock→(v'.ownBlock=v.ownBlock∨v'.ownBlock=some w.heap.size)→K (a.put o.dst v') w'):
 if Region.wanted o (yielded ops a.tmps)=true then Oper.wp P o a w K Q else E:=by
 have hw:Region.wanted o (yielded ops a.tmps)=true:=by simp[Region.wanted,hgd]
 rw[if_pos hw]
 exact wp_append_any w s x t ho base e i z size bytes ht hi hz hsize hby hzs hsz v n xs hs hown B A m c news hx hr h1 h63 hbytes hbase h
end
section
variable {w:World} {base:Nat} {e:TypeId} {v:Value} {n:Nat} {xs:List Value}
theorem own_form (h:w.ownsRow base e 1 v n xs):∃(A:Option Addr) (c:Nat),v= .slice A n c∧n≤c∧c≤9223372036854775807∧Reads w w.heap.size 1 A n xs:=by
 have h0:=h
 rcases h.2 with ⟨rfl,rfl⟩ | ⟨g,cap,cur,rfl,hg,hh,hn,hcap,hs,ht⟩
 ·have :xs=[]:=List.eq_nil_of_length_eq_zero (by simpa using h.1)
  subst this
  exact⟨none,0,rfl,Nat.le_refl _,by omega,Reads.none_⟩
 ·exact⟨_,_,rfl,hn,hcap,Reads.of_own h0⟩
theorem IsN.of_own {m:Nat} (h:w.ownsRow base e 1 v (limbs m).length (us (limbs m))):IsN w v m:=by
 obtain⟨A,c,rfl,h1,h2,h3⟩:=own_form h
 exact⟨A,c,rfl,h1,h2,limbs_bd _,h3⟩
theorem IsL.of_own {l:List Nat} (h:w.ownsRow base e 1 v l.length (us l)) (hb:Bd l):IsL w v l:=by
 obtain⟨A,c,rfl,h1,h2,h3⟩:=own_form h
 exact⟨A,c,rfl,h1,h2,hb,h3⟩
end
theorem info_u64:(Tryz.prog.info? 141).map (fun i=>(i.zero,i.size,i.bytes))=some (some (.int .u64 0),1,8):=by kernel_rfl
theorem us_one (l:List Nat):∀u∈us l,u.oneCell'=true:=by
 intro u hu;obtain⟨n,_,rfl⟩:=List.mem_map.1 hu;rfl
theorem us_snoc (l:List Nat) (x:Nat):us (l++[x])=us l++[.int .u64 (x:Int)]:=by simp[us]
theorem wpList_app1 {P:Program} {ops:Array Oper} {rest:List Oper} {o:Oper} {a:Act} {Q:Exit→Act→World→Prop} (w:World) (hgd:o.guard=none) (s x:Operand) (t e:TypeId) (z:Value) (bytes:Nat)
 (ho:o.op= .call { callee:= .builtin .append,args:= #[s,x],argTypes:= #[t,t] }) (ht:P.underlying t=some (.slice e)) (hinfo:(P.info? e).map (fun i=>(i.zero,i.size,i.bytes))=some (some z,1,bytes)) (hzs:z.cells.size=1)
 (base:Nat) (u:Value) (hu:u.oneCell'=true) (v:Value) (n:Nat) (xs:List Value) (hs:a.eval s=v) (hown:w.ownsRow base e 1 v n xs) (ad:Addr) (hx:a.eval x= .slice (some ad) 1 1) (hc:w.cell? ad=some u)
 (h63:(n+1)*8≤140737488355328) (hby:bytes≤8) (hbase:base≤w.heap.size)
 (h:∀v' w',w'.ownsRow base e 1 v' (n+1) (xs++[u])→w.grownBy w' v.ownBlock→wpList P ops Q rest (a.put o.dst v') w'):wpList P ops Q (o::rest) a w:=by
 obtain⟨i0,hi,hz0,hz1,hz2⟩:=info_parts hinfo
 refine wpList_append_any w hgd s x t ho base e i0 z 1 bytes ht hi hz0 hz1 hz2 hzs (by omega) v n xs hs hown (ad.block+1) (some ad) 1 1 [u] hx ⟨rfl,fun _=>⟨ad,rfl,by omega,?_⟩⟩ (by simpa using hu) (by unfold maxLen;omega)
  (Nat.le_trans (Nat.mul_le_mul_left _ hby) h63) hbase (fun v' w' h1 h2 _=>h v' w' h1 h2)
 intro j y hj
 rcases j with _ | j
 ·simp at hj;subst hj;simpa [Addr.add] using hc
 ·simp at hj
end Go.Proofs.YtdnjdglekifhpaaGreat
namespace Go.Proofs.YtdnjdglekifhpaaGreat
open Go.RowKit
theorem info_i64:(Tryz.prog.info? 2).map (fun i=>(i.zero,i.size,i.bytes))=some (some (.int .i64 0),1,8):=by kernel_rfl
def is (l:List Int):List Value:=l.map (Value.int .i64)
def iat (l:List Int) (i:Nat):Int:=l[i]?.getD 0
theorem is_len (l:List Int):(is l).length=l.length:=by simp[is]
theorem is_at (l:List Int) (j:Nat) (h:j<l.length):(is l)[j]?=some (.int .i64 (iat l j)):=by simp[is,iat,h]
theorem is_snoc (l:List Int) (x:Int):is (l++[x])=is l++[.int .i64 x]:=by simp[is]
theorem iat_mem {l:List Int} {k:Nat} (h:k<l.length):iat l k∈l:=by
 unfold iat;rw[List.getElem?_eq_getElem h];exact List.getElem_mem h
def IsI (w:World) (v:Value) (l:List Int):Prop:=
 ∃(A:Option Addr) (c:Nat),v= .slice A l.length c∧l.length≤c∧c≤9223372036854775807∧Reads w w.heap.size 1 A l.length (is l)
section
variable {w w':World} {v:Value} {l:List Int}
theorem IsI.below (h:IsI w v l) (hb:Below w.heap.size w w'):IsI w' v l:=by
 obtain⟨A,c,e,h1,h2,h3⟩:=h
 exact⟨A,c,e,h1,h2,(h3.below hb).more hb.size⟩
theorem IsI.nil (w:World):IsI w (.slice none 0 0) []:=⟨none,0,rfl,by simp,by omega,Reads.none_⟩
theorem is_cell {A:Option Addr} {k m B:Nat} (h:Reads w B 1 A m (is l)) (hk:k<m):∃ad,A=some ad∧ad.block<B∧w.cell? (ad.add k)=some (.int .i64 (iat l k)):=by
 obtain⟨ad,u,rfl,hb,hx,hc⟩:=h.at_ hk
 have hl:k<l.length:=by have:=h.1;rw[is_len] at this;omega
 rw[is_at _ _ hl] at hx
 obtain rfl:=Option.some.inj hx
 exact⟨ad,rfl,hb,hc⟩
theorem IsI.of_own {base:Nat} {e:TypeId} (h:w.ownsRow base e 1 v l.length (is l)):IsI w v l:=by
 obtain⟨A,c,rfl,h1,h2,h3⟩:=own_form h
 exact⟨A,c,rfl,h1,h2,h3⟩
theorem IsI.fresh (w:World) (t:TypeId) (l:List Int) (hl:l.length≤9223372036854775807):IsI (w.alloc (.cells (is l).toArray t)) (.slice (some ⟨w.heap.size,0,none⟩) l.length l.length) l:=
 ⟨_,_,rfl,Nat.le_refl _,hl,by simpa using Reads.fresh w t (is l) l.length (is_len l).symm⟩
end
theorem own_lower {w:World} {base base':Nat} {e:TypeId} {size:Nat} {v:Value} {n:Nat} {xs:List Value} (h:w.ownsRow base e size v n xs) (hb:base'≤base):w.ownsRow base' e size v n xs:=
 ⟨h.1,h.2.imp id fun ⟨g,cap,cur,e1,h1,h2⟩=>⟨g,cap,cur,e1,Nat.le_trans hb h1,h2⟩⟩
end Go.Proofs.YtdnjdglekifhpaaGreat
namespace Go.Proofs.YtdnjdglekifhpaaGreat
open Go.RowKit
theorem bare_any (v:Value) (l:List Nat) (w:World) (h:IsL w v l):
 Calls Tryz.prog 177 #[v] w fun e w'=>∃v',e= .returned v'∧IsN w v' (num l)∧w=w':=by
 obtain⟨A,c,rfl,hlc,hc,hbd,hr⟩:=h
 go_enter Tryz.func177,Tryz.ntmps177
 go_wp2
 go_loop [0] (fun a=>∃k:Nat,k≤l.length∧a= .slice A k c∧Hid (num (l.take k)=num l)) (fun a=>match a with | .slice _ k _=>k | _=>0)
 case atStart=>exact⟨l.length,Nat.le_refl _,rfl,by rw[List.take_length];exact Lib.hid rfl⟩
 case round=>
  obtain⟨k,hk,rfl,hn⟩:=hrel
  have hcell:0<k→∃ad,A=some ad∧w.cell? (ad.add (k - 1))=some (.int .u64 ((lat l (k - 1):Nat):Int)):=fun h=>by
   obtain⟨ad,e,_,hx⟩:=us_cell hr (k:=k - 1) (by omega)
   exact⟨ad,e,hx⟩
  by_cases h0:0<k
  ·obtain⟨ad,rfl,hx⟩:=hcell h0
   clear hcell
   by_cases hz:lat l (k - 1)=0
   ·rw[hz] at hx
    go_wp2
    refine ⟨⟨k - 1,by omega,rfl,?_⟩,by dsimp only;omega⟩
    rw[Hid] at hn
    exact Lib.hid ((num_take_pred h0 hz).trans hn)
   ·have hz':(((lat l (k - 1):Nat):Int) == 0)=false:=by simp;omega
    go_wp2
    go_ret
    refine ⟨_,rfl,⟨some ad,c,?_,?_,hc,limbs_bd _,?_⟩,rfl⟩
    all_goals rw[limbs_of_take hbd hn hk (.inr hz)]
    ·simp[hk]
    ·simp;omega
    ·rw[List.length_take,Nat.min_eq_left hk];exact hr.shorter hk
  ·obtain rfl:k=0:=by omega
   go_wp2
   go_ret
   have e:num l=0:=by rw[←hn];rfl
   refine ⟨_,rfl,⟨A,c,?_,?_,hc,limbs_bd _,?_⟩,rfl⟩
   all_goals rw[e,limbs_zero]
   ·rfl
   ·simp
   ·exact Reads.none_
theorem of_any (n:Nat) (hn:n<W64) (w:World):
 Calls Tryz.prog 119 #[.int .u64 n] w fun e w'=>∃v',e= .returned v'∧IsN w' v' n∧Below w.heap.size w w':=by
 go_enter Tryz.func119,Tryz.ntmps119
 go_wp2_with fail
 refine (bare_any _ [n] _ (IsL.fresh w _ [n] (Bd.cons hn Bd.nil) (by simp))).mono ?_
 rintro e w' ⟨v',rfl,hv,rfl⟩
 go_wp2
 go_ret
 exact⟨_,rfl,by rwa [num_single] at hv,(Below.refl _ _).alloc (Nat.le_refl _) _⟩
theorem compare_int (a b:Int) (w:World):
 Calls Tryz.prog 231 #[.int .i64 a,.int .i64 b] w fun e w'=>e= .returned (.int .i64 (cmpI a b))∧w=w':=by
 rcases Int.lt_trichotomy a b with h | rfl | h
 ·go_enter Tryz.func231,Tryz.ntmps231
  go_wp2
  go_ret
  exact⟨ret_int (by simp[cmpI,h]),rfl⟩
 ·go_enter Tryz.func231,Tryz.ntmps231
  go_wp2
  go_ret
  exact⟨ret_int (by simp[cmpI]),rfl⟩
 ·have h':¬a<b:=by omega
  go_enter Tryz.func231,Tryz.ntmps231
  go_wp2
  go_ret
  exact⟨ret_int (by simp[cmpI,h,h']),rfl⟩
theorem compare_u64 (a b:Int) (w:World):
 Calls Tryz.prog 232 #[.int .u64 a,.int .u64 b] w fun e w'=>e= .returned (.int .i64 (cmpI a b))∧w=w':=by
 rcases Int.lt_trichotomy a b with h | rfl | h
 ·go_enter Tryz.func232,Tryz.ntmps232
  go_wp2
  go_ret
  exact⟨ret_int (by simp[cmpI,h]),rfl⟩
 ·go_enter Tryz.func232,Tryz.ntmps232
  go_wp2
  go_ret
  exact⟨ret_int (by simp[cmpI]),rfl⟩
 ·have h':¬a<b:=by omega
  go_enter Tryz.func232,Tryz.ntmps232
  go_wp2
  go_ret
  exact⟨ret_int (by simp[cmpI,h,h']),rfl⟩
end Go.Proofs.YtdnjdglekifhpaaGreat
namespace Go.Proofs.YtdnjdglekifhpaaGreat
open Go.RowKit
theorem rat_any (v:Value) (l:List Nat) (i:Nat) (w:World) (h:IsL w v l):
 Calls Tryz.prog 189 #[v,.int .i64 i] w fun e w'=>e= .returned (.int .u64 (lat l i:Nat))∧w=w':=by
 obtain⟨A,c,rfl,hlc,hc,hbd,hr⟩:=h
 by_cases h:i<l.length
 ·obtain⟨ad,rfl,hb,hc⟩:=us_cell hr h
  go_enter Tryz.func189,Tryz.ntmps189
  go_wp2
  go_ret
  exact⟨rfl,rfl⟩
 ·rw[lat_ge (by omega)]
  go_enter Tryz.func189,Tryz.ntmps189
  go_wp2
  go_ret
  exact⟨rfl,rfl⟩
theorem rcmp_any (va vb:Value) (a b:List Nat) (w:World) (ha:IsL w va a) (hb:IsL w vb b):
 Calls Tryz.prog 134 #[va,vb] w fun e w'=>e= .returned (.int .i64 (cmpL a b))∧∃n,w'=w.drewN n:=by
 obtain⟨A,ca,rfl,hac,hca,hba,hra⟩:=ha
 obtain⟨B,cb,rfl,hbc,hcb,hbb,hrb⟩:=hb
 by_cases hlen:a.length=b.length
 ·have e1:((a.length:Int) != (b.length:Int))=false:=by simp[hlen]
  have hl:=Lib.hid hlen
  clear hlen
  go_enter Tryz.func134,Tryz.ntmps134
  go_wp2
  go_loopw [5] (fun i wr=>∃(m n:Nat),m≤a.length∧i= .int .i64 ((m:Int) - 1)∧Hid (a.drop m=b.drop m)∧wr=w.drewN n) (fun i _=>(intOf i+1).toNat)
  case atStart=>exact⟨a.length,0,Nat.le_refl _,rfl,Lib.hid (by rw[List.drop_length,hl.out,List.drop_length]),rfl⟩
  case round=>
   obtain⟨m,n,hm,rfl,hd,rfl⟩:=hrel
   have hmb:m≤b.length:=by have:=hl.out;omega
   by_cases h0:0<m
   ·obtain⟨ad,rfl,_,hx⟩:=us_cell hra (k:=m - 1) (by omega)
    obtain⟨bd,rfl,_,hy⟩:=us_cell hrb (k:=m - 1) (by omega)
    have et:a.drop (m - 1+1)=b.drop (m - 1+1):=by rw[Nat.sub_add_cancel h0];exact hd.out
    rcases Nat.lt_trichotomy (lat a (m - 1)) (lat b (m - 1)) with h | h | h
    ·have hc:=num_lt_of_top hba hbb (m - 1) (by omega) hl.out et h
     have hcc:Hid (cmpL a b= -1):=by rw[Hid,cmpL,if_pos hl.out,cmpI_lt (by omega)]
     clear hc et
     go_wp2
     go_quiet (fail)
     go_wp2
     go_ret
     exact⟨ret_int hcc.out.symm,_,by first | rfl | (simp only[World.drewN_drewN];rfl)⟩
    ·have hd':Hid (a.drop (m - 1)=b.drop (m - 1)):=by rw[Hid,drop_lat a _ (by omega),drop_lat b _ (by omega),et,h]
     rw[h] at hx
     clear et h
     go_wp2
     go_quiet (fail)
     go_wp2
     go_quiet (fail)
     go_wp2
     exact⟨⟨m - 1,_,by omega,by go_num,hd',by first | rfl | (simp only[World.drewN_drewN];rfl)⟩,by simp[intOf];omega⟩
    ·have hc:=num_lt_of_top hbb hba (m - 1) (by omega) hl.out.symm et.symm h
     have hcc:Hid (cmpL a b=1):=by rw[Hid,cmpL,if_pos hl.out,cmpI_gt (by omega)]
     clear hc et
     have h':lat b (m - 1)≤lat a (m - 1):=by omega
     go_wp2
     go_quiet (fail)
     go_wp2
     go_quiet (fail)
     go_wp2
     go_ret
     exact⟨ret_int hcc.out.symm,_,by first | rfl | (simp only[World.drewN_drewN];rfl)⟩
   ·obtain rfl:m=0:=by omega
    go_wp2
    go_ret
    have :a=b:=by simpa using hd.out
    exact⟨ret_int (by rw[this];simp[cmpL,cmpI]),_,rfl⟩
 ·have e1:((a.length:Int) != (b.length:Int))=true:=by simp;omega
  have e0:cmpL a b=cmpI a.length b.length:=by rw[cmpL,if_neg hlen]
  rw[e0]
  clear e0
  rcases Nat.lt_or_gt_of_ne hlen with h | h
  ·rw[cmpI_lt (by omega)]
   go_enter Tryz.func134,Tryz.ntmps134
   go_wp2
   go_ret
   exact⟨rfl,0,rfl⟩
  ·rw[cmpI_gt (by omega)]
   have h':b.length≤a.length:=by omega
   go_enter Tryz.func134,Tryz.ntmps134
   go_wp2
   go_ret
   exact⟨rfl,0,rfl⟩
theorem rbare_f (v:Value) (l:List Nat) (w:World) (h:IsL w v l) (hl:l.length≤10000000):
 Calls Tryz.prog 164 #[v] w fun e w'=>∃v',e= .returned v'∧IsN w' v' (num l)∧Below w.heap.size w w'∧Fresh w.heap.size v':=by
 obtain⟨A,c,rfl,hlc,hc,hbd,hr⟩:=h
 obtain⟨i0,hi,hz0,hz1,hz2⟩:=info_parts info_u64
 go_enter Tryz.func164,Tryz.ntmps164
 go_wp2
 go_loop [3] (fun a=>∃k:Nat,k≤l.length∧a= .int .i64 k∧Hid (num (l.take k)=num l)) (fun a=>(intOf a).toNat)
 case atStart=>exact⟨l.length,Nat.le_refl _,rfl,by rw[List.take_length];exact Lib.hid rfl⟩
 case round=>
  obtain⟨k,hk,rfl,hn⟩:=hrel
  have fin:(k=0∨lat l (k - 1)≠0)→limbs (num l)=l.take k:=fun h=>limbs_of_take hbd hn.out hk h
  by_cases h0:0<k
  ·obtain⟨ad,rfl,_,hx⟩:=us_cell hr (k:=k - 1) (by omega)
   by_cases hz:lat l (k - 1)=0
   ·rw[hz] at hx
    go_wp2
    go_round
    case rel=>exact⟨k - 1,by omega,by go_num,Lib.hid ((num_take_pred h0 hz).trans hn.out)⟩
    case measure=>simp[intOf];omega
   ·have hz':(((lat l (k - 1):Nat):Int) == 0)=false:=by simp;omega
    have fin':=Lib.hid (fin (.inr hz))
    clear fin
    have hown:=World.ownsRow_lit w #[] 0 (base:=w.heap.size) (e:=141) (size:=1) (Nat.le_refl _) (by unfold maxLen;omega) rfl
    go_wp2_with (at_builtin;refine wpList_append_any _ rfl (.tmp 18) (.tmp 21) _ rfl w.heap.size 141 i0 _ 1 8 Tryz.underlying28 hi hz0 hz1 hz2 rfl (by omega) _ 0 [] rfl hown w.heap.size (some ad) k c (us (l.take k)) rfl ((hr.shorter hk).alloc (Nat.le_refl _) _) (us_one _) (by unfold maxLen;omega) (by omega) (by simp) ?_;intro v' w' hown' hgrow hat)
    go_ret
    refine ⟨_,rfl,?_,((Below.refl _ w).alloc (Nat.le_refl _) _).grown hgrow (by simp) (fun g e=>by cases e;exact Nat.le_refl _),Fresh.of_own hown'⟩
    rw[Nat.zero_add,List.nil_append] at hown'
    exact IsN.of_own (by rw[fin'.out];simpa [hk] using hown')
  ·obtain rfl:k=0:=by omega
   have fin':=Lib.hid (fin (.inl rfl))
   clear fin
   have hown:=World.ownsRow_lit w #[] 0 (base:=w.heap.size) (e:=141) (size:=1) (Nat.le_refl _) (by unfold maxLen;omega) rfl
   go_wp2_with (at_builtin;refine wpList_append_any _ rfl (.tmp 18) (.tmp 21) _ rfl w.heap.size 141 i0 _ 1 8 Tryz.underlying28 hi hz0 hz1 hz2 rfl (by omega) _ 0 [] rfl hown w.heap.size A 0 c (us (l.take 0)) rfl ((hr.shorter hk).alloc (Nat.le_refl _) _) (us_one _) (by unfold maxLen;omega) (by omega) (by simp) ?_;intro v' w' hown' hgrow hat)
   go_ret
   refine ⟨_,rfl,?_,((Below.refl _ w).alloc (Nat.le_refl _) _).grown hgrow (by simp) (fun g e=>by cases e;exact Nat.le_refl _),Fresh.of_own hown'⟩
   exact IsN.of_own (by rw[fin'.out];simpa using hown')
theorem rbare_any (v:Value) (l:List Nat) (w:World) (h:IsL w v l) (hl:l.length≤10000000):
 Calls Tryz.prog 164 #[v] w fun e w'=>∃v',e= .returned v'∧IsN w' v' (num l)∧Below w.heap.size w w':=
 (rbare_f v l w h hl).mono fun _ _ ⟨v',h1,h2,h3,_⟩=>⟨v',h1,h2,h3⟩
end Go.Proofs.YtdnjdglekifhpaaGreat
namespace Go.Proofs.YtdnjdglekifhpaaGreat
open Go.RowKit
def Arr (w:World) (g:Nat) (l:List Nat):Prop:=w.heap[g]?=some (.cells (us l).toArray 141 (0,0))
section
variable {w w':World} {g:Nat} {l:List Nat}
theorem Arr.lt (h:Arr w g l):g<w.heap.size:=(Array.getElem?_eq_some_iff.1 h).1
theorem Arr.cell (h:Arr w g l) {i:Nat} (hi:i<l.length):w.cell? ⟨g,i,none⟩=some (.int .u64 (lat l i:Nat)):=by
 rw[World.cell?];simp[show w.heap[g]?=_ from h,us,lat,hi]
theorem Arr.frozen (h:Arr w g l) (i:Nat):w.frozen? ⟨g,i,none⟩=false:=by simp[World.frozen?,show w.heap[g]?=_ from h]
theorem Arr.set (h:Arr w g l) (i x:Nat):Arr (w.setCell ⟨g,i,none⟩ (.int .u64 (x:Int))) g (l.set i x):=by
 unfold Arr at h ⊢
 simp[World.setCell,Array.getElem?_modify,h,us]
theorem Arr.below {B:Nat} (h:Arr w g l) (hb:Below B w w') (hg:g<B):Arr w' g l:=(hb.block g hg).trans h
theorem Arr.alloc (h:Arr w g l) (o:Obj):Arr (w.alloc o) g l:=(Below.heap_alloc w o g h.lt).trans h
theorem Arr.drew (h:Arr w g l):Arr w.drew g l:=h
theorem Arr.drewN (h:Arr w g l) (n:Nat):Arr (w.drewN n) g l:=h
theorem Arr.new (w:World) (l:List Nat):Arr (w.alloc (.cells (us l).toArray 141)) w.heap.size l:=heap_alloc_new w _
theorem Arr.isL (h:Arr w g l) (hb:Bd l) (hl:l.length≤9223372036854775807):IsL w (.slice (some ⟨g,0,none⟩) l.length l.length) l:=
 ⟨_, _, rfl, Nat.le_refl _, hl, hb, by rw [us_len]; omega, fun _ => ⟨_, rfl, h.lt, fun j u hu => by
  have e:Addr.add ⟨g,0,none⟩ j=⟨g,j,none⟩:=by unfold Addr.add;split<;>simp_all
  have hj:j<l.length:=by
   rcases Nat.lt_or_ge j l.length with h' | h'
   ·exact h'
   ·rw[List.getElem?_eq_none (by rw[us_len];exact h')] at hu;cases hu
  rw[e,h.cell hj]
  rw[us_at l j hj] at hu
  exact hu⟩⟩
end
theorem madeCells_us (n:Nat):madeCells (Value.int .u64 0).cells n=(us (zeros n)).toArray:=by
 have e:∀i:Nat,(Value.int .u64 0).cells[i % (Value.int .u64 0).cells.size]! = .int .u64 0:=fun i=>by simp[Value.cells,Nat.mod_one]
 unfold madeCells
 rw[show (fun x=>(Value.int .u64 0).cells[x % (Value.int .u64 0).cells.size]!)=fun _=>Value.int .u64 0 from funext e]
 apply Array.ext
 ·simp[us,zeros]
 ·intro i h1 h2;simp[us,zeros]
theorem run_make_u64 (t:TypeId) (ht:Tryz.prog.underlying t=some (.slice 141)) (n:Nat) (k:Int) (hk:k=n) (hn:n≤10000000) (W:World):
 (Instr.makeSlice t (.int .i64 k) (.int .i64 k)).run Tryz.prog W= .ok (.slice (some ⟨W.heap.size,0,none⟩) n n) (W.alloc (.cells (us (zeros n)).toArray 141)):=by
 obtain⟨i0,hi,hz0,hz1,hz2⟩:=info_parts info_u64
 subst hk
 rw[run_make W t 141 i0 (.int .u64 0) ht hi hz0 .i64 .i64 n n (by omega) (by omega) (by rw[hz2];omega) (by omega)]
 simp only[Int.toNat_natCast,hz1,Nat.mul_one,madeCells_us]
end Go.Proofs.YtdnjdglekifhpaaGreat
namespace Go.Proofs.YtdnjdglekifhpaaGreat
open Go.RowKit
abbrev IsI.b:= @IsI.below
theorem Arr.b {w w' g l} (h:Arr w g l) (hb:Below w.heap.size w w'):Arr w' g l:=h.below hb h.lt
end Go.Proofs.YtdnjdglekifhpaaGreat
namespace Go.Proofs.YtdnjdglekifhpaaGreat
open Go.RowKit
theorem run_max_nat {P:Program} (t:Array TypeId) (y:TypeId) (W:World) (a b:Nat):(Builtin.max_ t y #[.int .i64 a,.int .i64 b]).run P W= .ok (.int .i64 ((max a b:Nat):Int)) W:=by
 rcases Nat.le_total a b with h | h
 ·rw[Nat.max_eq_right h]
  by_cases e:a=b
  ·subst e;simp[Builtin.max_,Builtin.max2]
  ·have :(a:Int)<b:=by omega
   simp[Builtin.max_,Builtin.max2,this]
 ·rw[Nat.max_eq_left h]
  have :¬(a:Int)<b:=by omega
  simp[Builtin.max_,Builtin.max2,this]
theorem hide64 (n:Nat) (h:n<W64):((n:Nat):Int)≤18446744073709551615:=by unfold W64 at h;omega
theorem hmod (n:Nat):((n:Nat):Int) % 4294967296=((n % H32:Nat):Int):=by unfold H32;omega
theorem hdiv (n:Nat):((n:Nat):Int) / 4294967296=((n / H32:Nat):Int):=by unfold H32;omega
theorem us_append (a b:List Nat):us (a++b)=us a++us b:=by simp[us]
theorem halves_any (v:Value) (l:List Nat) (w:World) (h:IsL w v l) (hl:l.length≤1000000):
 Calls Tryz.prog 139 #[v] w fun e w'=>∃v',e= .returned v'∧IsL w' v' (hv l)∧Below w.heap.size w w':=by
 obtain⟨A,c,rfl,hlc,hc,hbd,hr⟩:=h
 have hmx:Tryz.prog.follows .mixedOrders=true:=by kernel_rfl
 obtain⟨i0,hi,hz0,hz1,hz2⟩:=info_parts info_u64
 have hown0:=World.ownsRow_lit w #[] 0 (base:=w.heap.size) (e:=141) (size:=1) (Nat.le_refl _) (by unfold maxLen;omega) rfl
 go_enter Tryz.func139,Tryz.ntmps139
 go_wp2
 go_loopw [3,4] (fun o i wr=>∃(k:Nat) (l':List Nat),k≤l.length∧i= .int .i64 k∧Hid (l'=hv (l.take k))∧l'.length≤2*k∧wr.ownsRow w.heap.size 141 1 o l'.length (us l')∧Below w.heap.size w wr) (fun _ i _=>l.length - (intOf i).toNat)
 case atStart=>exact⟨0,[],Nat.zero_le _,rfl,Lib.hid rfl,Nat.le_refl _,hown0,(Below.refl _ w).alloc (Nat.le_refl _) _⟩
 case round=>
  obtain⟨k,l',hk,rfl,hl',hll,hown,hB⟩:=hrel
  by_cases hlt:k<l.length
  ·obtain⟨ad,rfl,_,hx⟩:=us_cell (hr.below hB) hlt
   have hx64:=hide64 _ (hbd.lat k)
   obtain⟨x,ex⟩:∃x,x=lat l k:=⟨_,rfl⟩
   rw[←ex] at hx hx64
   have Hs:Hid (hv (l.take (k+1))=l'++[x % H32,x / H32]):=by rw[Hid,hv_take_succ l k hlt,hl'.out,ex]
   obtain⟨q,eq⟩:∃q,q=x / H32:=⟨_,rfl⟩
   obtain⟨r,er⟩:∃r,r=x % H32:=⟨_,rfl⟩
   rw[←eq,←er] at Hs
   have t1:((x:Nat):Int).tmod 4294967296=(r:Int):=by rw[Int.tmod_eq_emod_of_nonneg (by omega),hmod,er]
   have t2:IntKind.u64.wrap (((x:Nat):Int) / 4294967296)=(q:Int):=by rw[hdiv,←eq,IntKind.wrap_u64];unfold H32 at eq;omega
   clear ex eq er
   go_wp2
   go_region_law (refine step_append_any _ rfl (.tmp 12) (.tmp 23) _ rfl w.heap.size 141 i0 _ 1 8 Tryz.underlying27 hi hz0 hz1 hz2 rfl (by omega) _ _ _ rfl (hown.drew.alloc _) (wr.heap.size+1) (some ⟨wr.heap.size,0,none⟩) 2 2 (us [r,q]) rfl (by exact Reads.fresh wr.drew _ _ 2 rfl) (us_one _) (by unfold maxLen;omega) (by omega) (by simp;exact Nat.le_succ_of_le hB.size) ?_;intro v' w1 hown' hgrow hat)
   all_goals
    go_wp2
    refine ⟨⟨k+1,l'++[r,q],by omega,by go_num,by rw[Hid];exact Hs.out.symm,by simp;omega,by rw[us_append,List.length_append];exact hown',?_⟩,by simp[intOf];omega⟩
    exact ((hB.drew).alloc hB.size _).grown hgrow (by simp;exact Nat.le_succ_of_le hB.size) (fun j e=>(hown.lt j e).1)
  ·obtain rfl:k=l.length:=by omega
   go_wp2
   go_ret
   have e:=hl'.out
   rw[List.take_length] at e
   exact⟨_,rfl,e ▸ IsL.of_own hown (e ▸ (hv_bh l hbd).bd),hB⟩
end Go.Proofs.YtdnjdglekifhpaaGreat
namespace Go.Proofs.YtdnjdglekifhpaaGreat
open Go.RowKit
theorem IsL.bd {w:World} {v:Value} {l:List Nat} (h:IsL w v l):Bd l:=by obtain⟨_,_,_,_,_,h,_⟩:=h;exact h
theorem hbound {l:List Nat} (h:Bh l) (i:Nat):((lat l i:Nat):Int)≤4294967295:=by have:=h.lat i;unfold H32 at this;omega
theorem whole_f (v:Value) (l:List Nat) (w:World) (h:IsL w v l) (hh:Bh l) (hl:l.length≤5000000):
 Calls Tryz.prog 140 #[v] w fun e w'=>∃v',e= .returned v'∧IsN w' v' (nuh l)∧Below w.heap.size w w'∧Fresh w.heap.size v':=by
 obtain⟨A,c,rfl,hlc,hc,hbd,hr⟩:=h
 have hown0:=World.ownsRow_lit w #[] 0 (base:=w.heap.size) (e:=141) (size:=1) (Nat.le_refl _) (by unfold maxLen;omega) rfl
 go_enter Tryz.func140,Tryz.ntmps140
 go_wp2
 go_loopw [3,4] (fun o i wr=>∃(k:Nat) (l':List Nat),2*k≤l.length+1∧i= .int .i64 (2*(k:Int))∧Hid (l'=wh l k)∧l'.length≤k∧wr.ownsRow w.heap.size 141 1 o l'.length (us l')∧Below w.heap.size w wr) (fun _ i _=>l.length+1 - (intOf i).toNat)
 case atStart=>exact⟨0,[],by omega,rfl,Lib.hid rfl,Nat.le_refl _,hown0,(Below.refl _ w).alloc (Nat.le_refl _) _⟩
 case round=>
  obtain⟨k,l',hk,rfl,hl',hll,hown,hB⟩:=hrel
  by_cases hlt:2*k<l.length
  ·obtain⟨ad,rfl,_,hx⟩:=us_cell (hr.below hB) hlt
   have hx64:=hbound hh (2*k)
   have Hs:Hid (wh l (k+1)=l'++[lat l (2*k)+lat l (2*k+1)*H32]):=by rw[Hid,wh,hl'.out]
   by_cases h2:2*k+1<l.length
   ·obtain⟨_,e,_,hy⟩:=us_cell (hr.below hB) h2
    obtain rfl:=Option.some.inj e
    rw[Addr.add,if_neg (by omega)] at hy
    have hy64:=hbound hh (2*k+1)
    go_wp2_with (at_builtin;go_must (refine wpList_app1 _ rfl _ _ 28 141 (.int .u64 0) 8 rfl Tryz.underlying28 info_u64 rfl w.heap.size (.int .u64 (((lat l (2*k):Nat):Int)+((lat l (2*k+1):Nat):Int)*4294967296)) rfl _ l'.length (us l') rfl (hown.alloc _) ⟨wr.heap.size,0,none⟩ rfl (by simp) (by omega) (by omega) (by simp;exact Nat.le_succ_of_le hB.size) ?_;intro v' w1 hown' hgrow))
    refine ⟨⟨k+1,l'++[lat l (2*k)+lat l (2*k+1)*H32],by omega,by go_num,Hs.out.symm,by simp;omega,?_,(hB.alloc hB.size _).grown hgrow (by simp;exact Nat.le_succ_of_le hB.size) (fun j e=>(hown.lt j e).1)⟩,by simp[intOf];omega⟩
    rw[us_snoc,List.length_append,List.length_singleton,show ((lat l (2*k)+lat l (2*k+1)*H32:Nat):Int)=((lat l (2*k):Nat):Int)+((lat l (2*k+1):Nat):Int)*4294967296 from by unfold H32;omega]
    exact hown'
   ·go_wp2_with (at_builtin;go_must (refine wpList_app1 _ rfl _ _ 28 141 (.int .u64 0) 8 rfl Tryz.underlying28 info_u64 rfl w.heap.size (.int .u64 ((lat l (2*k):Nat):Int)) rfl _ l'.length (us l') rfl (hown.alloc _) ⟨wr.heap.size,0,none⟩ rfl (by simp) (by omega) (by omega) (by simp;exact Nat.le_succ_of_le hB.size) ?_;intro v' w1 hown' hgrow))
    refine ⟨⟨k+1,l'++[lat l (2*k)+lat l (2*k+1)*H32],by omega,by go_num,Hs.out.symm,by simp;omega,?_,(hB.alloc hB.size _).grown hgrow (by simp;exact Nat.le_succ_of_le hB.size) (fun j e=>(hown.lt j e).1)⟩,by simp[intOf];omega⟩
    rw[us_snoc,List.length_append,List.length_singleton,show lat l (2*k+1)=0 from lat_ge (by omega),Nat.zero_mul,Nat.add_zero]
    exact hown'
  ·have hres:IsL wr u3 (wh l k):=by rw[←hl'.out];exact IsL.of_own hown (hl'.out ▸ wh_bd l hh k)
   have hnum:=num_wh l k
   rw[nuh_take_ge l _ (by omega)] at hnum
   have Hn:=Lib.hid hnum
   clear hnum
   go_wp2_with fail
   refine (rbare_f _ _ _ hres (by rw[wh_len];omega)).mono ?_
   rintro e w' ⟨r,rfl,hr,hb,hf⟩
   go_wp2
   go_ret
   exact⟨_,rfl,by rw[←Hn.out];exact hr,hB.trans (hb.mono hB.size),hf.more hB.size⟩
theorem halves2 (va:Value) (a:List Nat) (w:World) (ha:IsL w va a) (hl:a.length≤1000000):
 Calls Tryz.prog 139 #[va] w fun e w'=>∃(A:Option Addr) (c:Nat),e= .returned (.slice A (hv a).length c)∧((hv a).length≤c∧c≤9223372036854775807)∧Bh (hv a)∧Reads w' w'.heap.size 1 A (hv a).length (us (hv a))∧Below w.heap.size w w':=
 (halves_any va a w ha hl).mono fun e w' ⟨v',he,⟨A,c,h1,h2,h3,h4,h5⟩,hb⟩=>⟨A,c,by rw[he,h1],⟨h2,h3⟩,hv_bh a ha.bd,h5,hb⟩
theorem radd_f (va vb:Value) (a b:Nat) (w:World) (ha:IsN w va a) (hb:IsN w vb b) (hla:(limbs a).length≤1000000) (hlb:(limbs b).length≤1000000):
 Calls Tryz.prog 137 #[va,vb] w fun e w'=>∃v',e= .returned v'∧IsN w' v' (a+b)∧Below w.heap.size w w'∧Fresh w.heap.size v':=by
 have eab:nuh (hv (limbs a))+nuh (hv (limbs b))=a+b:=by rw[nuh_hv,nuh_hv,num_limbs,num_limbs]
 have HA:=Lib.hid (halves2 va _ w ha hla)
 have HB:=Lib.hid (fun W (h:Below w.heap.size w W)=>halves2 vb _ W (hb.below h) hlb)
 have la:=hv_len (limbs a)
 have lb:=hv_len (limbs b)
 rw[←eab]
 obtain⟨x,hx⟩:∃x,x=hv (limbs a):=⟨_,rfl⟩
 obtain⟨y,hy⟩:∃y,y=hv (limbs b):=⟨_,rfl⟩
 rw[←hx] at HA la ⊢
 rw[←hy] at HB lb ⊢
 have lx:x.length≤2000000:=by omega
 have ly:y.length≤2000000:=by omega
 clear hx hy eab la lb ha hb
 go_enter Tryz.func137,Tryz.ntmps137
 go_wp2_with fail
 refine HA.out.mono ?_
 rintro e w1 ⟨A,ca,rfl,hca,hxb,hrx,hb1⟩
 go_wp2_with fail
 refine (HB.out _ hb1).mono ?_
 rintro e w2 ⟨B,cb,rfl,hcb,hyb,hry,hb2⟩
 have hrx:=(hrx.below hb2).more hb2.size
 have hbw:=hb1.trans (hb2.mono hb1.size)
 obtain⟨m,hm⟩:∃m,m=max x.length y.length:=⟨_,rfl⟩
 have hmax:=fun t y' W=>run_max_nat (P:=Tryz.prog) t y' W x.length y.length
 rw[←hm] at hmax
 have E:=haddTo_end x y hxb hyb
 rw[←hm] at E
 have E':=Lib.hid E
 have hmm:m≤2000000:=by omega
 clear hm E
 have hown0:=World.ownsRow_lit w2 #[] 0 (base:=w2.heap.size) (e:=141) (size:=1) (Nat.le_refl _) (by unfold maxLen;omega) rfl
 go_wp2
 go_loopw [7,8,9] (fun o cy i wr=>∃(k c:Nat) (l':List Nat),k≤m+1∧i= .int .i64 k∧cy= .int .u64 c∧Hid ((l',c)=haddTo x y k)∧l'.length≤k∧wr.ownsRow w2.heap.size 141 1 o l'.length (us l')∧Below w2.heap.size w2 wr) (fun _ _ i _=>m+1 - (intOf i).toNat)
 case atStart=>exact⟨0,0,[],by omega,rfl,rfl,Lib.hid rfl,Nat.le_refl _,hown0,(Below.refl _ w2).alloc (Nat.le_refl _) _⟩
 case round=>
  obtain⟨k,c,l',hk,rfl,rfl,hl',hll,hown,hB⟩:=hrel
  obtain⟨o1,o2,o3,o4⟩:=haddTo_ok x y hxb hyb k
  rw[←hl'.out] at o3 o4
  dsimp only at o3 o4
  clear o1 o2
  by_cases hlt:k<m+1
  ·have hx64:=hbound hxb k
   have hy64:=hbound hyb k
   have Hs:Hid ((l'++[(lat x k+lat y k+c) % H32],(lat x k+lat y k+c) / H32)=haddTo x y (k+1)):=by rw[Hid,haddTo,←hl'.out];rfl
   have CA:=Lib.hid (rat_any (.slice A x.length ca) x k wr ⟨A,ca,rfl,hca.1,hca.2,hxb.bd,(hrx.below hB).more hB.size⟩)
   have CB:=Lib.hid (rat_any (.slice B y.length cb) y k wr ⟨B,cb,rfl,hcb.1,hcb.2,hyb.bd,(hry.below hB).more hB.size⟩)
   go_wp2_with fail
   refine CA.out.mono ?_
   rintro e w' ⟨rfl,rfl⟩
   go_wp2_with fail
   refine CB.out.mono ?_
   rintro e w' ⟨rfl,rfl⟩
   go_wp2_with (at_builtin;go_must (refine wpList_app1 _ rfl _ _ 27 141 (.int .u64 0) 8 rfl Tryz.underlying27 info_u64 rfl w2.heap.size (.int .u64 ((((lat x k:Nat):Int)+((lat y k:Nat):Int)+(c:Int)) % 4294967296)) rfl _ l'.length (us l') rfl (hown.alloc _) ⟨wr.heap.size,0,none⟩ rfl (by simp) (by omega) (by omega) (by simp;exact Nat.le_succ_of_le hB.size) ?_;intro v' w1 hown' hgrow))
   refine ⟨⟨k+1,(lat x k+lat y k+c) / H32,l'++[(lat x k+lat y k+c) % H32],by omega,by go_num,?_,Hs,by simp;omega,?_,(hB.alloc hB.size _).grown hgrow (by simp;exact Nat.le_succ_of_le hB.size) (fun j e=>(hown.lt j e).1)⟩,by simp[intOf];omega⟩
   ·rw[show ((lat x k:Nat):Int)+((lat y k:Nat):Int)+(c:Int)=((lat x k+lat y k+c:Nat):Int) from by omega,hdiv]
   ·rw[us_snoc,List.length_append,List.length_singleton,←hmod,show ((lat x k+lat y k+c:Nat):Int)=((lat x k:Nat):Int)+((lat y k:Nat):Int)+(c:Int) from by omega]
    exact hown'
  ·obtain rfl:k=m+1:=by omega
   have el:l'=(haddTo x y (m+1)).1:=by rw[←hl'.out]
   have hres:IsL wr u7 l':=IsL.of_own hown o4.bd
   have en:nuh l'=nuh x+nuh y:=by rw[el];exact E'.out
   have En:=Lib.hid en
   clear en el o3
   go_wp2_with fail
   refine (whole_f _ l' _ hres o4 (by omega)).mono ?_
   rintro e w' ⟨r,rfl,hr,hb,hf⟩
   go_wp2
   go_ret
   exact⟨_,rfl,by rw[←En.out];exact hr,(hbw.trans (hB.mono hbw.size)).trans (hb.mono (Nat.le_trans hbw.size hB.size)),hf.more (Nat.le_trans hbw.size hB.size)⟩
end Go.Proofs.YtdnjdglekifhpaaGreat
namespace Go.Proofs.YtdnjdglekifhpaaGreat
open Go.RowKit
theorem new_cell (w:World) (t:TypeId) (u:Value):(w.alloc (.cells #[u] t)).cell? ⟨w.heap.size,0,none⟩=some u:=by rw[World.cell?_alloc_at _ _ _ _ rfl];rfl
theorem own_drewN {w:World} {base:Nat} {e:TypeId} {size:Nat} {v:Value} {n:Nat} {xs:List Value} (h:w.ownsRow base e size v n xs) (k:Nat):(w.drewN k).ownsRow base e size v n xs:=h
theorem IsL.drewN {w:World} {v:Value} {l:List Nat} (h:IsL w v l) (n:Nat):IsL (w.drewN n) v l:=h.below (below_drewN (Below.refl _ _) n)
theorem rsub_f (va vb:Value) (a b:Nat) (w:World) (ha:IsN w va a) (hb:IsN w vb b) (hla:(limbs a).length≤1000000) (hlb:(limbs b).length≤1000000) (hle:b≤a):
 Calls Tryz.prog 138 #[va,vb] w fun e w'=>∃v',e= .returned (.tuple #[v',.int .i64 0])∧IsN w' v' (a - b)∧Below w.heap.size w w'∧Fresh w.heap.size v':=by
 have hc:=rcmp_any va vb _ _ w ha hb
 rw[cmpL_limbs] at hc
 have C:=Lib.hid hc
 have hcmp:¬(cmpI (a:Int) (b:Int)<0):=by unfold cmpI;split<;>(try split)<;>omega
 have hcm2:decide (cmpI (a:Int) (b:Int)<0)=false:=decide_eq_false hcmp
 clear hc hcmp
 have eab:nuh (hv (limbs a)) - nuh (hv (limbs b))=a - b:=by rw[nuh_hv,nuh_hv,num_limbs,num_limbs]
 have hle':nuh (hv (limbs b))≤nuh (hv (limbs a)):=by rw[nuh_hv,nuh_hv,num_limbs,num_limbs];exact hle
 have HA:=Lib.hid (fun W (h:Below w.heap.size w W)=>halves2 va _ W (ha.below h) hla)
 have HB:=Lib.hid (fun W (h:Below w.heap.size w W)=>halves2 vb _ W (hb.below h) hlb)
 have la:=hv_len (limbs a)
 have lb:=hv_len (limbs b)
 have hyx:(hv (limbs b)).length≤(hv (limbs a)).length:=by rw[la,lb];have:=limbs_len_mono hle;omega
 rw[←eab]
 obtain⟨x,hx⟩:∃x,x=hv (limbs a):=⟨_,rfl⟩
 obtain⟨y,hy⟩:∃y,y=hv (limbs b):=⟨_,rfl⟩
 rw[←hx] at HA la hle' hyx ⊢
 rw[←hy] at HB lb hle' hyx ⊢
 have lx:x.length≤2000000:=by omega
 have ly:y.length≤2000000:=by omega
 clear hx hy eab la lb ha hb
 go_enter Tryz.func138,Tryz.ntmps138
 go_wp2_with fail
 refine C.out.mono ?_
 rintro e w0 ⟨rfl,n,rfl⟩
 have hb0:=below_drewN (Below.refl w.heap.size w) n
 go_wp2_with fail
 refine (HA.out _ hb0).mono ?_
 rintro e w1 ⟨A,ca,rfl,hca,hxb,hrx,hb1⟩
 have hb1:=hb0.trans (hb1.mono hb0.size)
 go_wp2_with fail
 refine (HB.out _ hb1).mono ?_
 rintro e w2 ⟨B,cb,rfl,hcb,hyb,hry,hb2⟩
 have hrx:=(hrx.below hb2).more hb2.size
 have hbw:=hb1.trans (hb2.mono hb1.size)
 have E':=Lib.hid (hsubTo_end x y hxb hyb hyx hle')
 have hown0:=World.ownsRow_lit w2 #[] 0 (base:=w2.heap.size) (e:=141) (size:=1) (Nat.le_refl _) (by unfold maxLen;omega) rfl
 go_wp2
 go_loopw [8,9,10] (fun o cy i wr=>∃(k c:Nat) (l':List Nat),k≤x.length∧i= .int .i64 k∧cy= .int .u64 c∧Hid ((l',c)=hsubTo x y k)∧l'.length≤k∧wr.ownsRow w2.heap.size 141 1 o l'.length (us l')∧Below w2.heap.size w2 wr) (fun _ _ i _=>x.length - (intOf i).toNat)
 case atStart=>exact⟨0,0,[],by omega,rfl,rfl,Lib.hid rfl,Nat.le_refl _,hown0,(Below.refl _ w2).alloc (Nat.le_refl _) _⟩
 case round=>
  obtain⟨k,c,l',hk,rfl,rfl,hl',hll,hown,hB⟩:=hrel
  obtain⟨o1,o2,o3,o4⟩:=hsubTo_ok x y hxb hyb k
  rw[←hl'.out] at o3 o4
  dsimp only at o3 o4
  clear o1 o2
  by_cases hlt:k<x.length
  ·have hx64:=hxb.lat k
   have hy64:=hyb.lat k
   have Hs:Hid ((l'++[(H32+lat x k - lat y k - c) % H32],1 - (H32+lat x k - lat y k - c) / H32)=hsubTo x y (k+1)):=by rw[Hid,hsubTo,←hl'.out];rfl
   have CB:=Lib.hid (fun n=>rat_any (.slice B y.length cb) y k (wr.drewN n) (IsL.drewN ⟨B,cb,rfl,hcb.1,hcb.2,hyb.bd,(hry.below hB).more hB.size⟩ n))
   obtain⟨ad,rfl,_,hxc⟩:=us_cell (hrx.below hB) hlt
   obtain⟨xk,ex⟩:∃xk,xk=lat x k:=⟨_,rfl⟩
   obtain⟨yk,ey⟩:∃yk,yk=lat y k:=⟨_,rfl⟩
   rw[←ex] at hxc Hs hx64
   rw[←ey] at CB Hs hy64
   obtain⟨s1,e1⟩:∃s1,s1=H32+xk:=⟨_,rfl⟩
   obtain⟨s2,e2⟩:∃s2,s2=s1 - yk:=⟨_,rfl⟩
   obtain⟨s3,e3⟩:∃s3,s3=s2 - c:=⟨_,rfl⟩
   rw[←e1,←e2,←e3] at Hs
   have t1:IntKind.u64.wrap (4294967296+(xk:Int))=(s1:Int):=by rw[IntKind.wrap_u64];unfold H32 at *;omega
   have t2:IntKind.u64.wrap ((s1:Int) - (yk:Int))=(s2:Int):=by rw[IntKind.wrap_u64];unfold H32 at *;omega
   have t3:IntKind.u64.wrap ((s2:Int) - (c:Int))=(s3:Int):=by rw[IntKind.wrap_u64];unfold H32 at *;omega
   have b3:(s3:Int)≤8589934591:=by unfold H32 at *;omega
   clear ex ey e1 e2 e3 hx64 hy64
   go_wp2
   go_quiet ((go_at_call 189;exact quiet_left (CB.out _)))
   go_wp2_with (at_builtin;go_must (refine wpList_app1 _ rfl _ _ 27 141 (.int .u64 0) 8 rfl Tryz.underlying27 info_u64 rfl w2.heap.size (.int .u64 ((s3:Int) % 4294967296)) rfl _ l'.length (us l') rfl ((own_drewN hown _).alloc _) ⟨wr.heap.size,0,none⟩ rfl (by exact new_cell _ _ _) (by omega) (by omega) (by simp;exact Nat.le_succ_of_le hB.size) ?_;intro v' w1 hown' hgrow))
   refine ⟨⟨k+1,1 - s3 / H32,l'++[s3 % H32],by omega,by go_num,?_,Hs,by simp;omega,?_,((below_drewN hB _).alloc hB.size _).grown hgrow (by simp;exact Nat.le_succ_of_le hB.size) (fun j e=>(hown.lt j e).1)⟩,by simp[intOf];omega⟩
   ·rw[hdiv]
    have hq:s3 / H32≤1:=by unfold H32;omega
    rw[show ((1 - s3 / H32:Nat):Int)=1 - ((s3 / H32:Nat):Int) from by omega]
   ·rw[us_snoc,List.length_append,List.length_singleton,←hmod]
    exact hown'
  ·obtain rfl:k=x.length:=by omega
   have el:l'=(hsubTo x y x.length).1:=by rw[←hl'.out]
   have hres:IsL wr u8 l':=IsL.of_own hown o4.bd
   have en:nuh l'=nuh x - nuh y:=by rw[el];exact E'.out
   have En:=Lib.hid en
   clear en el o3
   go_wp2_with fail
   refine (whole_f _ l' _ hres o4 (by omega)).mono ?_
   rintro e w' ⟨r,rfl,hr,hb,hf⟩
   go_wp2
   go_ret2
   exact⟨_,rfl,by rw[←En.out];exact hr,(hbw.trans (hB.mono hbw.size)).trans (hb.mono (Nat.le_trans hbw.size hB.size)),hf.more (Nat.le_trans hbw.size hB.size)⟩
end Go.Proofs.YtdnjdglekifhpaaGreat
namespace Go.Proofs
open Go.Shelf
def Tryz.lays129_ren:Go.Shelf.Ren:=⟨fun | 129=>233 | n=>n,fun | 53=>141 | 3=>3 | 4=>4 | 46=>225 | 5=>5 | 9=>9 | n=>n,fun | n=>n⟩
theorem Tryz.lays129:Go.Proofs.Lays.n129 Tryz.prog Tryz.lays129_ren:={
 mixed:=by kernel_rfl
 f129:=Tryz.func233.trans (congrArg some (by kernel_rfl))
 t3:=Tryz.underlying3
 a3:=Tryz.isAgg3
 z3:=Tryz.sizeOf3
 v3:=Tryz.zeroValue3
 t4:=Tryz.underlying4
 a4:=Tryz.isAgg4
 z4:=Tryz.sizeOf4
 v4:=Tryz.zeroValue4
 t5:=Tryz.underlying5
 a5:=Tryz.isAgg5
 z5:=Tryz.sizeOf5
 v5:=Tryz.zeroValue5
 t9:=Tryz.underlying9
 a9:=Tryz.isAgg9
 z9:=Tryz.sizeOf9
 v9:=Tryz.zeroValue9
 t46:=Tryz.underlying225
 a46:=Tryz.isAgg225
 z46:=Tryz.sizeOf225
 v46:=Tryz.zeroValue225
 t53:=Tryz.underlying141
 a53:=Tryz.isAgg141
 z53:=Tryz.sizeOf141
 v53:=Tryz.zeroValue141 }
def Tryz.lays264_ren:Go.Shelf.Ren:=⟨fun | 264=>169 | n=>n,fun | 53=>141 | 46=>225 | n=>n,fun | n=>n⟩
theorem Tryz.lays264:Go.Proofs.Lays.n264 Tryz.prog Tryz.lays264_ren:={
 mixed:=by kernel_rfl
 f264:=Tryz.func169.trans (congrArg some (by kernel_rfl))
 t46:=Tryz.underlying225
 a46:=Tryz.isAgg225
 z46:=Tryz.sizeOf225
 v46:=Tryz.zeroValue225
 t53:=Tryz.underlying141
 a53:=Tryz.isAgg141
 z53:=Tryz.sizeOf141
 v53:=Tryz.zeroValue141 }
end Go.Proofs
namespace Go.Proofs.YtdnjdglekifhpaaGreat
open Go.RowKit Go.Shelf
theorem mul64_any (x y:Nat) (hx:x<W64) (hy:y<W64) (w:World):
 Calls Tryz.prog 169 #[.int .u64 x,.int .u64 y] w fun e w'=>e= .returned (.tuple #[.int .u64 ((x*y / W64:Nat):Int),.int .u64 ((x*y % W64:Nat):Int)])∧w=w':=
 (Any.bits_Mul64 Tryz.lays264 x y hx hy w).mono fun _ _ ⟨h,h'⟩=>⟨h,h'.symm⟩
theorem run_Add64 (x y c:Nat) (hc:c≤1) (w:World):
 (callFunc 179 #[.int .u64 x,.int .u64 y,.int .u64 c]).run Tryz.prog w= .ok (.value (.tuple #[.int .u64 (((x+y+c) % W64:Nat):Int),.int .u64 (((x+y+c) / W64:Nat):Int)])) w:=by
 rw[run_callFunc_extern Tryz.func179 (by kernel_rfl) (by kernel_rfl) (by kernel_rfl) (e:=add64Entry) (by kernel_rfl),run_add64 x y c (by omega) (by omega) (by omega) (by omega)]
 simp only[Result.andThen,W64]
 congr 5<;>omega
theorem run_Sub64 (x y c:Nat) (hc:c≤1) (w:World):
 (callFunc 229 #[.int .u64 x,.int .u64 y,.int .u64 c]).run Tryz.prog w= .ok (.value (.tuple #[.int .u64 (((x+W64 - y - c) % W64:Nat):Int),.int .u64 ((if x<y+c then 1 else 0:Nat):Int)])) w:=by
 rw[run_callFunc_extern Tryz.func229 (by kernel_rfl) (by kernel_rfl) (by kernel_rfl) (e:=fun args=>do
  let (x, y, b) ← Extern.MathBitsCarry.three "Sub64" args
  pure (Extern.MathBitsCarry.pair ((x+Extern.MathBitsCarry.m64 - y - b) % Extern.MathBitsCarry.m64) (if x<y+b then 1 else 0))) (by kernel_rfl)]
 have :c=0∨c=1:=by omega
 rcases this with rfl | rfl<;>rfl
theorem bitLenAux_bl (f x:Nat) (h:x<2^f):Lib.bitLenAux f x=bl x:=by
 induction f generalizing x with
 | zero => have : x = 0 := by simpa using h
           subst this;rw[bl_zero];rfl
 | succ f ih =>
   unfold Lib.bitLenAux
   split
   ·rename_i h0;subst h0;exact bl_zero.symm
   ·rename_i h0
    rw[bl_pos h0,ih _ (by rw[Nat.pow_succ] at h;omega)];omega
theorem len64_any (x:Nat) (hx:x<W64) (w:World):
 Calls Tryz.prog 233 #[.int .u64 x] w fun e w'=>e= .returned (.int .i64 (bl x:Nat))∧w=w':=
 (Any.bits_Len64 Tryz.lays129 (x:Int) w (by omega) (by rw[W64] at hx;omega)).mono fun _ _ ⟨h,h'⟩=>⟨by rw[h,Int.toNat_natCast,Lib.bitLen,bitLenAux_bl 64 x hx],h'.symm⟩
theorem mul64_ex (x y hi lo:Nat) (hx:x<W64) (hy:y<W64) (h1:hi=x*y / W64) (h2:lo=x*y % W64) (w:World):
 Calls Tryz.prog 169 #[.int .u64 x,.int .u64 y] w fun e w'=>e= .returned (.tuple #[.int .u64 (hi:Int),.int .u64 (lo:Int)])∧w=w':=by
 subst h1 h2;exact mul64_any x y hx hy w
theorem run_Add64_ex (x y c s k:Nat) (ci:Int) (hci:ci=c) (hc:c≤1) (hs:s=(x+y+c) % W64) (hk:k=(x+y+c) / W64) (w:World):
 (callFunc 179 #[.int .u64 x,.int .u64 y,.int .u64 ci]).run Tryz.prog w= .ok (.value (.tuple #[.int .u64 (s:Int),.int .u64 (k:Int)])) w:=by
 subst hci hs hk;exact run_Add64 x y c hc w
end Go.Proofs.YtdnjdglekifhpaaGreat
namespace Go.Proofs.YtdnjdglekifhpaaGreat
open Go.RowKit
theorem rbits_any (v:Value) (a:Nat) (w:World) (h:IsN w v a) (hl:(limbs a).length≤1000000):
 Calls Tryz.prog 186 #[v] w fun e w'=>e= .returned (.int .i64 (bl a:Nat))∧w=w':=by
 obtain⟨A,c,rfl,hlc,hc,hbd,hr⟩:=h
 have hrt:=limbs_rt a
 have hnum:=num_limbs a
 generalize limbs a=l at *
 subst hnum
 by_cases h0:l=[]
 ·subst h0
  go_enter Tryz.func186,Tryz.ntmps186
  go_wp2
  go_ret
  exact⟨ret_int (by rw[num,bl_zero];rfl),rfl⟩
 ·have hp:0<l.length:=List.length_pos_iff.2 h0
  obtain⟨ad,rfl,_,hx⟩:=us_cell hr (k:=l.length - 1) (by omega)
  have e:=Lib.hid (bl_num hbd hrt h0)
  have hb64:=bl_le_iff.2 (show lat l (l.length - 1)<2^64 from hbd.lat _)
  have e1:((l.length:Int) == 0)=false:=by simp[h0]
  clear h0 hrt
  go_enter Tryz.func186,Tryz.ntmps186
  go_wp2
  go_loop [3,4] (fun n t=>∃(k x:Nat),n= .int .i64 (64*((l.length:Int) - 1)+(k:Int))∧t= .int .u64 (x:Int)∧(x:Int)≤18446744073709551615∧k≤64∧Hid (k+bl x=bl (lat l (l.length - 1)))) (fun _ t=>(intOf t).toNat)
  case atStart=>exact⟨0,lat l (l.length - 1),by simp,rfl,by have:=hbd.lat (l.length - 1);unfold W64 at this;omega,by omega,Lib.hid (by omega)⟩
  case round=>
   obtain⟨k,x,rfl,rfl,hxb,hk,hkx⟩:=hrel
   by_cases hx0:0<x
   ·have hs:Hid (k+1+bl (x / 2)=bl (lat l (l.length - 1))):=by have h1:=hkx.out;have h2:=bl_pos (n:=x) (by omega);rw[Hid];omega
    have hk2:k+1≤64:=by have:=hs.out;omega
    go_wp2
    go_round
    case rel=>exact⟨k+1,x / 2,by go_num,by go_num,by omega,hk2,hs⟩
    case measure=>simp[intOf];omega
   ·obtain rfl:x=0:=by omega
    go_wp2
    go_ret
    have:=hkx.out
    rw[bl_zero] at this
    exact⟨ret_int (by rw[e.out];omega),rfl⟩
end Go.Proofs.YtdnjdglekifhpaaGreat
namespace Go.Proofs.YtdnjdglekifhpaaGreat
open Go.RowKit
def Sz (n k:Nat):Prop:=(limbs n).length≤k
theorem Sz.fin {n k:Nat} (h:Sz n k) (hk:k≤1000000):(limbs n).length≤1000000:=Nat.le_trans h hk
theorem Sz.add {a b k m:Nat} (ha:Sz a k) (hb:Sz b m):Sz (a+b) (k+m+1):=by
 unfold Sz at *;have:=limbs_len_add a b;omega
theorem Sz.mul {a b k m:Nat} (ha:Sz a k) (hb:Sz b m):Sz (a*b) (k+m):=by
 unfold Sz at *;have:=limbs_len_mul a b;omega
theorem Sz.le {a b k:Nat} (ha:Sz a k) (h:b≤a):Sz b k:=Nat.le_trans (limbs_len_mono h) ha
theorem Sz.more {a k m:Nat} (ha:Sz a k) (h:k≤m):Sz a m:=Nat.le_trans ha h
theorem Sz.zero:Sz 0 0:=by unfold Sz;rw[limbs_zero];simp
theorem Sz.one:Sz 1 1:=by unfold Sz;rw[limbs_single (by omega) (by unfold W64;omega)];simp
theorem Sz.pow {n k:Nat} (h:n<W64^k):Sz n k:=limbs_len_le h
theorem Sz.two_pow (n:Nat):Sz (2^n) (n / 64+1):=by
 apply Sz.pow;rw[W64_pow];exact Nat.pow_lt_pow_right (by omega) (by omega)
theorem Sz.bl {n k:Nat} (h:Sz n k):bl n≤64*k:=by
 rw[bl_le_iff,←W64_pow];exact lt_of_limbs_len h
theorem Sz.u64 {n:Nat} (h:n<W64):Sz n 1:=Sz.pow (by rwa [Nat.pow_one])
theorem rsame_any (va vb:Value) (a b:Nat) (w:World) (ha:IsN w va a) (hb:IsN w vb b):
 Calls Tryz.prog 69 #[va,vb] w fun e w'=>e= .returned (.bool (decide (a=b)))∧∃n,w'=w.drewN n:=by
 have C:=rcmp_any va vb _ _ w ha hb
 rw[cmpL_limbs] at C
 have C':=Lib.hid C
 clear C
 go_enter Tryz.func69,Tryz.ntmps69
 go_wp2_with fail
 refine C'.out.mono ?_
 rintro e w1 ⟨rfl,n,rfl⟩
 go_wp2
 go_ret
 refine ⟨ret_bool ?_,n,rfl⟩
 rw[Bool.eq_iff_iff,beq_iff_eq,decide_eq_true_iff,cmpI_zero]
 omega
theorem IsN.open_ {w:World} {v:Value} {n:Nat} (h:IsN w v n):∃A m c,v= .slice A m c∧m=(limbs n).length:=by obtain⟨A,c,e,_⟩:=h;exact⟨A,_,c,e,rfl⟩
theorem rcmp_n (va vb:Value) (a b:Nat) (w:World) (ha:IsN w va a) (hb:IsN w vb b):
 Calls Tryz.prog 134 #[va,vb] w fun e w'=>e= .returned (.int .i64 (cmpI a b))∧∃n,w'=w.drewN n:=by
 have:=rcmp_any va vb _ _ w ha hb
 rwa [cmpL_limbs] at this
theorem rof_f (n:Nat) (hn:n<W64) (w:World):
 Calls Tryz.prog 103 #[.int .u64 n] w fun e w'=>∃v',e= .returned v'∧IsN w' v' n∧Below w.heap.size w w'∧Fresh w.heap.size v':=by
 go_enter Tryz.func103,Tryz.ntmps103
 go_wp2_with fail
 refine (rbare_f _ [n] _ (IsL.fresh w _ [n] (Bd.cons hn Bd.nil) (by simp)) (by simp)).mono ?_
 rintro e w' ⟨v',rfl,hv,hb,hf⟩
 go_wp2
 go_ret
 have b0:Below w.heap.size w (w.alloc (.cells #[.int .u64 (n:Int)] 141)):=(Below.refl _ _).alloc (Nat.le_refl _) _
 exact⟨_,rfl,by rwa [num_single] at hv,b0.trans (hb.mono b0.size),hf.more b0.size⟩
theorem rof_any (n:Nat) (hn:n<W64) (w:World):
 Calls Tryz.prog 103 #[.int .u64 n] w fun e w'=>∃v',e= .returned v'∧IsN w' v' n∧Below w.heap.size w w':=
 (rof_f n hn w).mono fun _ _ ⟨v',h1,h2,h3,_⟩=>⟨v',h1,h2,h3⟩
end Go.Proofs.YtdnjdglekifhpaaGreat
namespace Go.Proofs.YtdnjdglekifhpaaGreat
open Go.RowKit
attribute [local go_sem ↓] Go.wp_at_zero Go.wp_at_succ
def IsZ (w:World) (v:Value) (z:Int):Prop:=∃nv,v= .agg #[.bool (decide (z<0)),nv]∧IsN w nv z.natAbs
theorem IsZ.below {w w':World} {v:Value} {z:Int} (h:IsZ w v z) (hb:Below w.heap.size w w'):IsZ w' v z:=by
 obtain⟨nv,e,h⟩:=h;exact⟨nv,e,h.below hb⟩
theorem sided_neg (b:Bool) (n:Nat):decide (sided b n<0)=(b && decide (n≠0)):=by
 unfold sided;cases b
 ·simp
 ·simp only[if_true,Bool.true_and];rw[Bool.eq_iff_iff];simp;omega
theorem sided_abs (b:Bool) (n:Nat):(sided b n).natAbs=n:=by unfold sided;cases b<;>simp
theorem IsZ.sided {w:World} {nv:Value} {b:Bool} {n:Nat} (h:IsN w nv n):IsZ w (.agg #[.bool (b && decide (n≠0)),nv]) (sided b n):=
 ⟨nv,by rw[sided_neg],by rw[sided_abs];exact h⟩
theorem sided_of (z:Int):sided (decide (z<0)) z.natAbs=z:=by
 unfold sided;by_cases h:z<0<;>simp[h]<;>omega
theorem rmade_any (b:Bool) (nv:Value) (n:Nat) (w:World) (h:IsN w nv n):
 Calls Tryz.prog 136 #[.bool b,nv] w fun e w'=>∃v',e= .returned v'∧IsZ w' v' (sided b n)∧Below w.heap.size w w':=by
 have hr:=fun (w':World) (h:IsN w' nv n)=>IsZ.sided (b:=b) h
 have h':=h
 obtain⟨A,c,rfl,_⟩:=h
 have hn:decide (n≠0)=decide (0<(limbs n).length):=by
  rw[Bool.eq_iff_iff];simp only[decide_eq_true_eq]
  constructor
  ·intro h0;exact List.length_pos_iff.2 (fun e=>h0 (limbs_nil.1 e))
  ·intro h0 e;rw[e,limbs_zero] at h0;simp at h0
 rw[hn] at hr
 have R:=Lib.hid hr
 have HI:=Lib.hid h'
 clear hr hn h'
 generalize (limbs n).length=m at *
 have B0:=fun b=>(Below.refl w.heap.size w).alloc (Nat.le_refl _) (.cells #[.bool b,.slice A m c] 30)
 have HB:=Lib.hid B0
 clear B0
 cases b
 ·go_enter Tryz.func136,Tryz.ntmps136
  go_wp2
  exact bodyPost_ret (v:= .agg #[.bool false,.slice A m c]) (by simp[results,Tryz.results136,go_sem]) rfl ⟨_,rfl,R.out _ (HI.out.below (HB.out _)),HB.out _⟩
 ·by_cases hm:0<m
  ·have R1:=fun w' h=>(show IsZ w' (.agg #[.bool true,.slice A m c]) (sided true n) by have:=R.out w' h;rwa [decide_eq_true hm] at this)
   have R2:=Lib.hid R1
   clear R1
   go_enter Tryz.func136,Tryz.ntmps136
   go_wp2
   exact bodyPost_ret (v:= .agg #[.bool true,.slice A m c]) (by simp[results,Tryz.results136,go_sem]) rfl ⟨_,rfl,R2.out _ (HI.out.below (HB.out _)),HB.out _⟩
  ·have R1:=fun w' h=>(show IsZ w' (.agg #[.bool false,.slice A m c]) (sided true n) by have:=R.out w' h;rwa [decide_eq_false hm] at this)
   have R2:=Lib.hid R1
   obtain rfl:m=0:=by omega
   clear R1
   go_enter Tryz.func136,Tryz.ntmps136
   go_wp2
   exact bodyPost_ret (v:= .agg #[.bool false,.slice A 0 c]) (by simp[results,Tryz.results136,go_sem]) rfl ⟨_,rfl,R2.out _ (HI.out.below (HB.out _)),HB.out _⟩
end Go.Proofs.YtdnjdglekifhpaaGreat
namespace Go.Proofs.YtdnjdglekifhpaaGreat
open Go.RowKit
def noU:Value→Bool
 | .int .u64 _=>false
 | _=>true
section
variable {w w':World} {v:Value} {n R:Nat} {l:List Nat} {t t':TypeId} {cs cs':Array Value}
theorem IsL.keepBlk (h:IsL w v l) (hR:Blk w R t cs) (hcs:cs.all noU=true) (hw:∀k,k≠R→w'.heap[k]?=w.heap[k]?) (hsz:w.heap.size≤w'.heap.size):IsL w' v l:=by
 obtain⟨A,c,rfl,h1,h2,h3,h4⟩:=h
 refine ⟨A,c,rfl,h1,h2,h3,h4.1,fun hn=>?_⟩
 obtain⟨ad,rfl,hb,hc⟩:=h4.2 hn
 refine ⟨ad,rfl,by omega,fun j y hj=>?_⟩
 have hne:ad.block≠R:=by
  intro e
  have hl:=h4.1
  have h0:=hc 0 _ (us_at l 0 (by rw[us_len] at hl;omega))
  obtain⟨b,off,sp⟩:=ad
  dsimp only at e;subst e
  rw[Addr.add,if_pos rfl] at h0
  have hsp:sp=none:=World.cell?_spot h0
  subst hsp
  rw[hR.cell] at h0
  have:=Array.all_eq_true_iff_forall_mem.1 hcs _ (Array.mem_of_getElem? h0)
  simp[noU] at this
 rw[←hc j y hj]
 exact World.cell?_of_block (by rw[block_of_add];exact hw _ hne)
theorem IsN.keepBlk (h:IsN w v n) (hR:Blk w R t cs) (hcs:cs.all noU=true) (hw:∀k,k≠R→w'.heap[k]?=w.heap[k]?) (hsz:w.heap.size≤w'.heap.size):IsN w' v n:=IsL.keepBlk h hR hcs hw hsz
theorem undrew {B:Nat} {a x:World} (h:Below B a.drew x):Below B a x:=⟨h.os,h.tape,h.output,h.size,h.block⟩
theorem balloc {a y:World} (h:Below a.heap.size a y) (o:Obj):Below a.heap.size a (y.alloc o):=h.alloc h.size o
theorem bstep {a y z:World} (h:Below a.heap.size a y) (b:Below y.heap.size y z):Below a.heap.size a z:=h.trans (b.mono h.size)
theorem bdrew (a:World):Below a.heap.size a a.drew:=(Below.refl _ _).drew
theorem bset {B:Nat} {a y:World} (h:Below B a y) {X i:Nat} (hX:B≤X) (u:Value):Below B a (y.setCell ⟨X,i,none⟩ u):=h.setCell (p:=⟨X,i,none⟩) hX u
def Two (w:World) (g:Nat) (t:TypeId) (cs:Array Value) (t':TypeId) (cs':Array Value):Prop:=Blk w g t cs∧Blk w (g+1) t' cs'
theorem Two.below {g B:Nat} (h:Two w g t cs t' cs') (hb:Below B w w') (hB:g+1<B):Two w' g t cs t' cs':=⟨h.1.below hb (by omega),h.2.below hb hB⟩
theorem Two.lt {g:Nat} (h:Two w g t cs t' cs'):g+1<w.heap.size:=h.2.lt
theorem Two.cells22 {g:Nat} {a b c d:Value} (h:Two w g t #[a,b] t' #[c,d]):w.cell? ⟨g,0,none⟩=some a∧w.cell? ⟨g,1,none⟩=some b∧w.cell? ⟨g+1,0,none⟩=some c∧w.cell? ⟨g+1,1,none⟩=some d:=
 ⟨h.1.cell 0,h.1.cell 1,h.2.cell 0,h.2.cell 1⟩
theorem Two.cells33 {g:Nat} {a b c d e f:Value} (h:Two w g t #[a,b,c] t' #[d,e,f]):w.cell? ⟨g,0,none⟩=some a∧w.cell? ⟨g,1,none⟩=some b∧w.cell? ⟨g,2,none⟩=some c∧w.cell? ⟨g+1,0,none⟩=some d∧w.cell? ⟨g+1,1,none⟩=some e∧w.cell? ⟨g+1,2,none⟩=some f:=
 ⟨h.1.cell 0,h.1.cell 1,h.1.cell 2,h.2.cell 0,h.2.cell 1,h.2.cell 2⟩
theorem Blk.cells2 {g:Nat} {a b:Value} (h:Blk w g t #[a,b]):w.cell? ⟨g,0,none⟩=some a∧w.cell? ⟨g,1,none⟩=some b:=⟨h.cell 0,h.cell 1⟩
theorem Blk.cells3 {g:Nat} {a b c:Value} (h:Blk w g t #[a,b,c]):w.cell? ⟨g,0,none⟩=some a∧w.cell? ⟨g,1,none⟩=some b∧w.cell? ⟨g,2,none⟩=some c:=⟨h.cell 0,h.cell 1,h.cell 2⟩
theorem Blk.far1 {g:Nat} (h:Blk w g t cs) {i:Nat} (hR:g<R) (x:Value):Blk (w.setCell ⟨R,i,none⟩ x) g t cs:=h.far (p:=⟨R,i,none⟩) (show g≠R by omega) x
theorem Two.far2 {g:Nat} (h:Two w g t cs t' cs') (x y:Value):Two ((w.setCell ⟨g+1+1,0,none⟩ x).setCell ⟨g+1+1,1,none⟩ y) g t cs t' cs':=
 ⟨(h.1.far1 (by omega) x).far1 (by omega) y,(h.2.far1 (by omega) x).far1 (by omega) y⟩
theorem Blk.far2 {g:Nat} (h:Blk w g t cs) (x y:Value):Blk ((w.setCell ⟨g+1,0,none⟩ x).setCell ⟨g+1,1,none⟩ y) g t cs:=(h.far1 (by omega) x).far1 (by omega) y
theorem Blk.farX {X:Nat} (h:Blk w R t cs) (hX:R≠X) (x y z:Value):Blk (((w.setCell ⟨X,0,none⟩ x).setCell ⟨X,1,none⟩ y).setCell ⟨X,2,none⟩ z) R t cs:=((h.far (p:=⟨X,0,none⟩) hX x).far (p:=⟨X,1,none⟩) hX y).far (p:=⟨X,2,none⟩) hX z
theorem IsN.frm (h:IsN w v n):∃A m c,v= .slice A m c:=by obtain⟨A,c,e,_⟩:=h;exact⟨A,_,c,e⟩
theorem box3 (w:World) (t1 t2 t3:TypeId) (c1 c2 c3:Array Value):∃W,W=((w.alloc (.cells c1 t1)).alloc (.cells c2 t2)).alloc (.cells c3 t3)∧Two W w.heap.size t1 c1 t2 c2∧Blk W (w.heap.size+1+1) t3 c3∧Below w.heap.size w W:=by
 refine ⟨_,rfl,⟨((Blk.new w t1 c1).alloc _).alloc _,?_⟩,?_,(((Below.refl _ w).alloc (Nat.le_refl _) _).alloc (by simp) _).alloc (by simp;omega) _⟩
 ·have:=Blk.new (w.alloc (.cells c1 t1)) t2 c2
  rw[World.size_alloc] at this;exact this.alloc _
 ·have:=Blk.new ((w.alloc (.cells c1 t1)).alloc (.cells c2 t2)) t3 c3
  rw[World.size_alloc,World.size_alloc] at this;exact this
theorem box2 (w:World) (t1 t2:TypeId) (c1 c2:Array Value):∃W,W=(w.alloc (.cells c1 t1)).alloc (.cells c2 t2)∧Two W w.heap.size t1 c1 t2 c2∧Below w.heap.size w W:=by
 refine ⟨_,rfl,⟨(Blk.new w t1 c1).alloc _,?_⟩,((Below.refl _ w).alloc (Nat.le_refl _) _).alloc (by simp) _⟩
 have:=Blk.new (w.alloc (.cells c1 t1)) t2 c2
 rw[World.size_alloc] at this;exact this
theorem box1 (w:World) (t1:TypeId) (c1:Array Value):∃W,W=w.alloc (.cells c1 t1)∧Blk W w.heap.size t1 c1∧Below w.heap.size w W:=
 ⟨_,rfl,Blk.new w t1 c1,(Below.refl _ w).alloc (Nat.le_refl _) _⟩
theorem newX {y z:World} (b:Below (y.alloc (.cells cs t)).heap.size (y.alloc (.cells cs t)) z) (a:World) (h:Below a.heap.size a y):Blk z y.heap.size t cs∧a.heap.size≤y.heap.size:=
 ⟨(Blk.new y t cs).below b (by simp),h.size⟩
theorem put2 {a b:Value} (hR:Blk w R t #[a,b]) (x y:Value) (hcs:(#[a,b]:Array Value).all noU=true) {B:Nat} {w0:World} (hB:Below B w0 w) (hBR:B≤R):
 Blk ((w.setCell ⟨R,0,none⟩ x).setCell ⟨R,1,none⟩ y) R t #[x,y]∧(∀v n,IsN w v n→IsN ((w.setCell ⟨R,0,none⟩ x).setCell ⟨R,1,none⟩ y) v n)∧Below B w0 ((w.setCell ⟨R,0,none⟩ x).setCell ⟨R,1,none⟩ y):=by
 refine ⟨?_,fun v n h=>h.keepBlk hR hcs (fun k hk=>(Below.heap_setCell _ ⟨R,1,none⟩ y k hk).trans (Below.heap_setCell w ⟨R,0,none⟩ x k hk)) (by simp[World.setCell]),(hB.setCell (p:=⟨R,0,none⟩) hBR x).setCell (p:=⟨R,1,none⟩) hBR y⟩
 have:=(hR.set_ 0 x).set_ 1 y
 simpa using this
theorem put3 {a b c:Value} (hR:Blk w R t #[a,b,c]) (x y z:Value) (hcs:(#[a,b,c]:Array Value).all noU=true) {B:Nat} {w0:World} (hB:Below B w0 w) (hBR:B≤R):
 Blk (((w.setCell ⟨R,0,none⟩ x).setCell ⟨R,1,none⟩ y).setCell ⟨R,2,none⟩ z) R t #[x,y,z]∧(∀v n,IsN w v n→IsN (((w.setCell ⟨R,0,none⟩ x).setCell ⟨R,1,none⟩ y).setCell ⟨R,2,none⟩ z) v n)∧Below B w0 (((w.setCell ⟨R,0,none⟩ x).setCell ⟨R,1,none⟩ y).setCell ⟨R,2,none⟩ z):=by
 refine ⟨?_,fun v n h=>h.keepBlk hR hcs (fun k hk=>(Below.heap_setCell _ ⟨R,2,none⟩ z k hk).trans ((Below.heap_setCell _ ⟨R,1,none⟩ y k hk).trans (Below.heap_setCell w ⟨R,0,none⟩ x k hk))) (by simp[World.setCell]),((hB.setCell (p:=⟨R,0,none⟩) hBR x).setCell (p:=⟨R,1,none⟩) hBR y).setCell (p:=⟨R,2,none⟩) hBR z⟩
 have:=((hR.set_ 0 x).set_ 1 y).set_ 2 z
 simpa using this
end
end Go.Proofs.YtdnjdglekifhpaaGreat
namespace Go.Proofs.YtdnjdglekifhpaaGreat
open Go.RowKit
attribute [local go_sem ↓] Go.wp_at_zero Go.wp_at_succ
theorem sided_mul (s1 s2:Bool) (x y:Nat):sided s1 x*sided s2 y=sided (s1 != s2) (x*y):=by
 cases s1<;>cases s2<;>simp[sided,Int.neg_mul,Int.mul_neg]
theorem mul_sided (a b:Int):sided (decide (a<0) != decide (b<0)) (a.natAbs*b.natAbs)=a*b:=by
 rw[←sided_mul,sided_of,sided_of]
end Go.Proofs.YtdnjdglekifhpaaGreat
namespace Go.Proofs.YtdnjdglekifhpaaGreat
theorem mk_num (p:Int) (q:Nat) (hq:q≠0):(mkRat p q).num.natAbs=p.natAbs / Nat.gcd p.natAbs q∧(mkRat p q).den=q / Nat.gcd p.natAbs q∧decide ((mkRat p q).num<0)=decide (p<0):=by
 rw[Rat.num_mkRat,Rat.den_mkRat,if_neg hq,if_neg hq,Nat.gcd_comm]
 have hd:=Nat.gcd_dvd_left p.natAbs q
 have hpos:0<Nat.gcd p.natAbs q:=Nat.gcd_pos_of_pos_right _ (Nat.pos_of_ne_zero hq)
 generalize Nat.gcd p.natAbs q=g at *
 have hdi:(g:Int) ∣ p:=Int.dvd_natAbs.1 (Int.natCast_dvd_natCast.2 hd)
 refine ⟨?_,rfl,?_⟩
 ·rw[Int.natAbs_ediv_of_dvd hdi];simp
 ·rw[Bool.eq_iff_iff];simp only[decide_eq_true_eq]
  obtain⟨c,rfl⟩:=hdi
  rw[Int.mul_ediv_cancel_left _ (by omega)]
  constructor
  ·intro h;exact Int.mul_neg_of_pos_of_neg (by omega) h
  ·intro h
   rcases Int.lt_or_le c 0 with h1 | h1
   ·exact h1
   ·have:=Int.mul_nonneg (show (0:Int)≤g by omega) h1;omega
def BQ (r:Rat) (k:Nat):Prop:=Sz r.num.natAbs k∧Sz r.den k
theorem BQ.mk {p:Int} {q k:Nat} (hp:Sz p.natAbs k) (hq:Sz q k) (h1:1≤k):BQ (mkRat p q) k:=by
 by_cases h:q=0
 ·subst h;rw[Rat.mkRat_zero];exact⟨Sz.more Sz.zero (by omega),Sz.more Sz.one h1⟩
 ·obtain⟨h1,h2,_⟩:=mk_num p q h
  exact⟨by rw[h1];exact hp.le (Nat.div_le_self _ _),by rw[h2];exact hq.le (Nat.div_le_self _ _)⟩
theorem Sz.imul {a b:Int} {k m:Nat} (ha:Sz a.natAbs k) (hb:Sz b.natAbs m):Sz (a*b).natAbs (k+m):=by rw[Int.natAbs_mul];exact ha.mul hb
theorem Sz.iadd {a b:Int} {k m:Nat} (ha:Sz a.natAbs k) (hb:Sz b.natAbs m):Sz (a+b).natAbs (k+m+1):=(ha.add hb).le (Int.natAbs_add_le a b)
theorem BQ.add {a b:Rat} {k m:Nat} (ha:BQ a k) (hb:BQ b m):BQ (a+b) (2*(k+m)+1):=by
 rw[Rat.add_def']
 exact BQ.mk (((ha.1.imul (b:=(b.den:Int)) (by simpa using hb.2)).iadd (hb.1.imul (b:=(a.den:Int)) (by simpa using ha.2))).more (by omega)) ((ha.2.mul hb.2).more (by omega)) (by omega)
theorem BQ.mul {a b:Rat} {k m:Nat} (ha:BQ a k) (hb:BQ b m):BQ (a*b) (k+m+1):=by
 rw[Rat.mul_def']
 exact BQ.mk ((ha.1.imul hb.1).more (by omega)) ((ha.2.mul hb.2).more (by omega)) (by omega)
theorem BQ.neg {a:Rat} {k:Nat} (ha:BQ a k):BQ (-a) k:=by
 unfold BQ at *;rw[Rat.neg_num,Rat.neg_den];simpa using ha
theorem BQ.more {a:Rat} {k m:Nat} (ha:BQ a k) (h:k≤m):BQ a m:=⟨ha.1.more h,ha.2.more h⟩
theorem BQ.int {n:Int} (h:n.natAbs<W64):BQ (n:Rat) 1:=⟨Sz.u64 (by simpa using h),by simpa using Sz.one⟩
end Go.Proofs.YtdnjdglekifhpaaGreat
namespace Go.Proofs.YtdnjdglekifhpaaGreat
open Go.RowKit
abbrev IsZ.b:= @IsZ.below
theorem Two.b {w w' g t cs t' cs'} (h:Two w g t cs t' cs') (hb:Below w.heap.size w w'):Two w' g t cs t' cs':=h.below hb h.lt
end Go.Proofs.YtdnjdglekifhpaaGreat
namespace Go.Proofs.YtdnjdglekifhpaaGreat
theorem lat_limbs (n j:Nat):lat (limbs n) j=n / W64^j % W64:=by
 induction j generalizing n with
 | zero =>
   by_cases h:n=0
   ·subst h;rw[limbs_zero];simp[lat]
   ·rw[limbs_pos h];simp[lat]
 | succ j ih =>
   by_cases h:n=0
   ·subst h;rw[limbs_zero];simp[lat]
   ·rw[limbs_pos h,lat_cons_succ,ih,Nat.div_div_eq_div_mul,Nat.pow_succ,Nat.mul_comm (W64^j)]
theorem num_range (Q n:Nat):num ((List.range n).map fun j=>Q / W64^j % W64)=Q % W64^n:=by
 induction n with
 | zero=>simp[num,Nat.mod_one]
 | succ n ih =>
   rw[List.range_succ,List.map_append,num_append,ih,List.map_singleton,num_single,List.length_map,List.length_range,Nat.pow_succ,Nat.mod_mul]
theorem Bd.range (g:Nat→Nat) (n:Nat) (h:∀j,g j<W64):Bd ((List.range n).map g):=by
 intro x hx;obtain⟨j,_,rfl⟩:=List.mem_map.1 hx;exact h j
theorem lat_range (g:Nat→Nat) (n j:Nat) (h:j<n):lat ((List.range n).map g) j=g j:=by simp[lat,h]
def ql (Q m j:Nat):Nat:=(Q / W64^j % W64) / 2^(m - 64*j)
def qrow (Q m n:Nat):List Nat:=(List.range n).map (ql Q m)
theorem ql_lt (Q m j:Nat):ql Q m j<W64:=Nat.lt_of_le_of_lt (Nat.div_le_self _ _) (Nat.mod_lt _ W64_pos)
theorem qrow_len (Q m n:Nat):(qrow Q m n).length=n:=by simp[qrow]
theorem qrow_bd (Q m n:Nat):Bd (qrow Q m n):=Bd.range _ _ (ql_lt Q m)
theorem lat_qrow (Q m n j:Nat) (h:j<n):lat (qrow Q m n) j=ql Q m j:=lat_range _ _ _ h
theorem qrow_zero (Q n:Nat) (h:Q<W64^n):num (qrow Q 0 n)=Q:=by
 have :qrow Q 0 n=(List.range n).map fun j=>Q / W64^j % W64:=by
  unfold qrow ql;simp
 rw[this,num_range,Nat.mod_eq_of_lt h]
theorem qrow_start (Q m n:Nat) (h:Q<2^m):qrow Q m n=zeros n:=by
 unfold qrow zeros
 rw[List.eq_replicate_iff]
 refine ⟨by simp,fun x hx=>?_⟩
 obtain⟨j,_,rfl⟩:=List.mem_map.1 hx
 unfold ql
 rw[Nat.div_eq_zero_iff]
 right
 refine Nat.lt_of_le_of_lt (Nat.mod_le _ _) ?_
 rw[Nat.div_lt_iff_lt_mul (Nat.pow_pos W64_pos),W64_pow,←Nat.pow_add]
 exact Nat.lt_of_lt_of_le h (Nat.pow_le_pow_right (by omega) (by omega))
theorem half_pow (x s:Nat):x / 2^s=2*(x / 2^(s+1))+x / 2^s % 2:=by
 rw[Nat.pow_succ,←Nat.div_div_eq_div_mul];omega
theorem ql_here (Q i:Nat):ql Q i (i / 64)=2*ql Q (i+1) (i / 64)+Q / 2^i % 2:=by
 unfold ql
 have h1:i+1 - 64*(i / 64)=(i - 64*(i / 64))+1:=by omega
 rw[h1]
 have hs:i - 64*(i / 64)<64:=by omega
 have e:Q / 2^i % 2=(Q / W64^(i / 64) % W64) / 2^(i - 64*(i / 64)) % 2:=by
  have hi:2^i=W64^(i / 64)*2^(i - 64*(i / 64)):=by rw[W64_pow,←Nat.pow_add];congr 1;omega
  rw[hi,←Nat.div_div_eq_div_mul]
  generalize Q / W64^(i / 64)=T
  generalize i - 64*(i / 64)=s at *
  have hw:W64=2^s*(2*2^(63 - s)):=by
   rw[←Nat.pow_succ',←Nat.pow_add,show s+(63 - s+1)=64 from by omega];rfl
  rw[hw,Nat.mod_mul_right_div_self,Nat.mod_mul_right_mod]
 rw[e]
 exact half_pow _ _
theorem ql_there (Q i j:Nat) (h:j≠i / 64):ql Q i j=ql Q (i+1) j:=by
 unfold ql
 rcases Nat.lt_or_ge j (i / 64) with h1 | h1
 ·have hb:Q / W64^j % W64<2^64:=Nat.mod_lt _ W64_pos
  rw[Nat.div_eq_zero_iff.2,Nat.div_eq_zero_iff.2]
  ·right;exact Nat.lt_of_lt_of_le hb (Nat.pow_le_pow_right (by omega) (by omega))
  ·right;exact Nat.lt_of_lt_of_le hb (Nat.pow_le_pow_right (by omega) (by omega))
 ·rw[show i - 64*j=0 from by omega,show i+1 - 64*j=0 from by omega]
theorem qrow_step (Q i n:Nat) (_:i / 64<n):(qrow Q (i+1) n).set (i / 64) (2*ql Q (i+1) (i / 64)+Q / 2^i % 2)=qrow Q i n:=by
 apply List.ext_getElem (by simp[qrow])
 intro j h1 h2
 rw[List.getElem_set]
 unfold qrow at *
 by_cases hj:i / 64=j
 ·rw[if_pos hj];subst hj
  rw[List.getElem_map,List.getElem_range,ql_here]
 ·rw[if_neg hj,List.getElem_map,List.getElem_map,List.getElem_range,ql_there _ _ _ (fun e=>hj e.symm)]
theorem ql_dbl (Q i:Nat):2*ql Q (i+1) (i / 64)+1<W64:=by
 unfold ql
 have h:Q / W64^(i / 64) % W64<W64:=Nat.mod_lt _ W64_pos
 have h1:i+1 - 64*(i / 64)=(i - 64*(i / 64))+1:=by omega
 rw[h1,Nat.pow_succ']
 generalize Q / W64^(i / 64) % W64=x at *
 rw[←Nat.div_div_eq_div_mul]
 have :x / 2 / 2^(i - 64*(i / 64))≤x / 2:=Nat.div_le_self _ _
 unfold W64 at *
 omega
theorem dbl_div (x y c b:Nat) (hb:0<b) (hc:c≤1) (h:y=2*x+c):
 (b≤2*(x % b)+c→y % b=2*(x % b)+c - b∧y / b=2*(x / b)+1)∧(2*(x % b)+c<b→y % b=2*(x % b)+c∧y / b=2*(x / b)):=by
 have hr:=Nat.mod_lt x hb
 have hx:=Nat.div_add_mod x b
 generalize x / b=q at *
 generalize x % b=r at *
 have hy:y=b*(2*q)+(2*r+c):=by rw[h,←hx,Nat.mul_left_comm];omega
 constructor
 ·intro hle
  have hy2:y=(2*r+c - b)+b*(2*q+1):=by rw[hy,Nat.mul_succ];omega
  exact⟨by rw[hy2,Nat.add_mul_mod_self_left,Nat.mod_eq_of_lt (by omega)],by rw[hy2,Nat.add_mul_div_left _ _ hb,Nat.div_eq_of_lt (by omega)];omega⟩
 ·intro hlt
  have hy2:y=(2*r+c)+b*(2*q):=by omega
  exact⟨by rw[hy2,Nat.add_mul_mod_self_left,Nat.mod_eq_of_lt hlt],by rw[hy2,Nat.add_mul_div_left _ _ hb,Nat.div_eq_of_lt hlt];omega⟩
theorem div_step (a b i r:Nat) (hb:0<b) (hr:r=a / 2^(i+1) % b):
 (b≤r+r+a / 2^i % 2→r+r+a / 2^i % 2 - b=a / 2^i % b∧a / b / 2^i % 2=1)∧
 (r+r+a / 2^i % 2<b→r+r+a / 2^i % 2=a / 2^i % b∧a / b / 2^i % 2=0):=by
 have h1:=half_pow a i
 have h2:a / b / 2^i=a / 2^i / b:=by rw[Nat.div_div_eq_div_mul,Nat.div_div_eq_div_mul,Nat.mul_comm]
 rw[h2]
 clear h2
 have hc:a / 2^i % 2≤1:=by omega
 generalize a / 2^(i+1)=x at *
 generalize a / 2^i=y at *
 generalize y % 2=c at *
 obtain⟨k1,k2⟩:=dbl_div x y c b hb hc h1
 rw[←hr] at k1 k2
 constructor
 ·intro h
  obtain⟨e1,e2⟩:=k1 (by omega)
  exact⟨by omega,by omega⟩
 ·intro h
  obtain⟨e1,e2⟩:=k2 (by omega)
  exact⟨by omega,by omega⟩
theorem start_shift (a b:Nat) (hb:0<b):a / 2^(bl a - bl b+1) % b=a / 2^(bl a - bl b+1)∧a / b<2^(bl a - bl b+1):=by
 have h1:=lt_bl a
 have h2:=bl_le (n:=b) (by omega)
 have h3:1≤bl b:=by
  rcases Nat.eq_zero_or_pos (bl b) with h | h
  ·rw[bl_eq_zero] at h;omega
  ·exact h
 have h4:a<2^(bl a - bl b+1)*2^(bl b - 1):=by
  rw[←Nat.pow_add];exact Nat.lt_of_lt_of_le h1 (Nat.pow_le_pow_right (by omega) (by omega))
 constructor
 ·apply Nat.mod_eq_of_lt
  refine Nat.lt_of_lt_of_le ?_ h2
  rw[Nat.div_lt_iff_lt_mul (Nat.pow_pos (by omega)),Nat.mul_comm];exact h4
 ·rw[Nat.div_lt_iff_lt_mul hb]
  exact Nat.lt_of_lt_of_le h4 (Nat.mul_le_mul_left _ h2)
theorem start_full (a b:Nat):0=a / 2^bl a % b∧a / b<2^bl a:=
 ⟨by rw[Nat.div_eq_of_lt (lt_bl a)];simp,Nat.lt_of_le_of_lt (Nat.div_le_self _ _) (lt_bl a)⟩
theorem less_bl {a b:Nat} (h:bl a<bl b):a<b:=by
 rcases Nat.lt_or_ge a b with h1 | h1
 ·exact h1
 ·have:=bl_mono h1;omega
theorem shr_limb (a n i:Nat) (h:n / 64≤i):(a / W64^i % W64+W64*(a / W64^(i+1) % W64)) / 2^(n % 64) % W64=a / 2^n / W64^(i - n / 64) % W64:=by
 have e1:a / W64^(i+1)=a / W64^i / W64:=by rw[Nat.pow_succ,←Nat.div_div_eq_div_mul]
 have e2:a / 2^n / W64^(i - n / 64)=a / W64^i / 2^(n % 64):=by
  rw[Nat.div_div_eq_div_mul,Nat.div_div_eq_div_mul]
  congr 1
  rw[W64_pow,W64_pow,←Nat.pow_add,←Nat.pow_add]
  congr 1;omega
 rw[e1,e2,←Nat.mod_mul]
 generalize a / W64^i=T
 have hs:n % 64<64:=Nat.mod_lt _ (by omega)
 generalize n % 64=s at *
 have hw:W64*W64=2^s*(W64*2^(64 - s)):=by
  rw[Nat.mul_left_comm,←Nat.pow_add,show s+(64 - s)=64 from by omega];rfl
 rw[hw,Nat.mod_mul_right_div_self,Nat.mod_mul_right_mod]
theorem shr_end (a n L:Nat) (h:a<W64^L):num ((List.range (L - n / 64)).map fun j=>a / 2^n / W64^j % W64)=a / 2^n:=by
 rw[num_range]
 apply Nat.mod_eq_of_lt
 rw[Nat.div_lt_iff_lt_mul (Nat.pow_pos (by omega))]
 refine Nat.lt_of_lt_of_le h ?_
 rw[W64_pow,W64_pow,←Nat.pow_add]
 exact Nat.pow_le_pow_right (by omega) (by omega)
end Go.Proofs.YtdnjdglekifhpaaGreat
namespace Go.Proofs.YtdnjdglekifhpaaGreat
open Go.RowKit
theorem bit_any (v:Value) (a i:Nat) (w:World) (h:IsN w v a) (hl:i / 64<(limbs a).length) (hi64:i≤1000000000):
 Calls Tryz.prog 188 #[v,.int .i64 i] w fun e w'=>e= .returned (.int .u64 ((a / 2^i % 2:Nat):Int))∧w=w':=by
 obtain⟨A,c,rfl,hlc,hc,hbd,hr⟩:=h
 have e:a / 2^i % 2=lat (limbs a) (i / 64) / 2^(i % 64) % 2:=by
  rw[lat_limbs]
  have hi:2^i=W64^(i / 64)*2^(i % 64):=by rw[W64_pow,←Nat.pow_add];congr 1;omega
  rw[hi,←Nat.div_div_eq_div_mul]
  generalize a / W64^(i / 64)=T
  have hs:i % 64<64:=Nat.mod_lt _ (by omega)
  generalize i % 64=s at *
  have hw:W64=2^s*(2*2^(63 - s)):=by
   rw[←Nat.pow_succ',←Nat.pow_add,show s+(63 - s+1)=64 from by omega];rfl
  rw[hw,Nat.mod_mul_right_div_self,Nat.mod_mul_right_mod]
 rw[e]
 clear e
 obtain⟨ad,rfl,_,hx⟩:=us_cell hr (k:=i / 64) hl
 have hb:=hbd.lat (i / 64)
 generalize lat (limbs a) (i / 64)=x at *
 generalize (limbs a).length=m at *
 obtain⟨z,hz⟩:∃z,z=x / 2^(i % 64) % 2:=⟨_,rfl⟩
 have Z:=Lib.hid hz
 rw[←hz]
 clear hz
 have g0:(0:Int)≤(i:Int) / 64:=by omega
 have g1:(i:Int) / 64<(m:Int):=by omega
 have g2:((i:Int) / 64).toNat=i / 64:=by omega
 have hm:(m:Int)≤9223372036854775807:=by omega
 have hi:(i:Int)≤9223372036854775807:=by omega
 go_enter Tryz.func188,Tryz.ntmps188
 go_wp2
 go_loop [5,6] (fun o i'=>∃(k y:Nat),k≤i % 64∧i'= .int .i64 k∧o= .int .u64 (y:Int)∧(y:Int)≤18446744073709551615∧Hid (y=x / 2^k)) (fun _ i'=>i % 64 - (intOf i').toNat)
 case atStart=>exact⟨0,x,by omega,rfl,rfl,by unfold W64 at hb;omega,Lib.hid (by simp)⟩
 case round=>
  obtain⟨k,y,hk,rfl,rfl,hy,hyx⟩:=hrel
  by_cases hlt:k<i % 64
  ·have h1:(k:Int)<(i:Int) % 64:=by omega
   have hn:Hid (y / 2=x / 2^(k+1)):=by rw[Hid,hyx.out,Nat.pow_succ,Nat.div_div_eq_div_mul]
   go_wp2
   go_round
   case rel=>exact⟨k+1,y / 2,by omega,by go_num,by go_num,by omega,hn⟩
   case measure=>simp[intOf];omega
  ·obtain rfl:k=i % 64:=by omega
   have h1:¬(((i % 64:Nat):Int)<(i:Int) % 64):=by omega
   go_wp2
   go_ret
   exact⟨ret_int (by rw[Z.out,←hyx.out];omega),rfl⟩
end Go.Proofs.YtdnjdglekifhpaaGreat
namespace Go.Proofs.YtdnjdglekifhpaaGreat
open Go.RowKit
theorem shr_bad (v:Value) (n:Int) (h:n<0∨20000<n) (w:World):
 Calls Tryz.prog 187 #[v,.int .i64 n] w fun e w'=>e= .returned (.tuple #[.slice none 0 0,.int .i64 1])∧w=w':=by
 rcases h with h | h
 ·go_enter Tryz.func187,Tryz.ntmps187
  go_wp2
  go_ret2
  exact⟨rfl,rfl⟩
 ·have h':¬n<0:=by omega
  go_enter Tryz.func187,Tryz.ntmps187
  go_wp2
  go_ret2
  exact⟨rfl,rfl⟩
def sl (a n k:Nat):List Nat:=(List.range k).map fun j=>a / 2^n / W64^j % W64
theorem sl_succ (a n k:Nat):sl a n (k+1)=sl a n k++[a / 2^n / W64^k % W64]:=by simp[sl,List.range_succ]
theorem sl_len (a n k:Nat):(sl a n k).length=k:=by simp[sl]
theorem sl_bd (a n k:Nat):Bd (sl a n k):=Bd.range _ _ (fun _=>Nat.mod_lt _ W64_pos)
theorem shr_f (v:Value) (a n:Nat) (hn:n≤20000) (w:World) (h:IsN w v a) (hl:Sz a 1000000):
 Calls Tryz.prog 187 #[v,.int .i64 n] w fun e w'=>∃v',e= .returned (.tuple #[v',.int .i64 0])∧IsN w' v' (a / 2^n)∧Below w.heap.size w w'∧Fresh w.heap.size v':=by
 obtain⟨A,c,rfl,hlc,hc,hbd,hr⟩:=h
 have HE:=Lib.hid (shr_end a n (limbs a).length (by have:=num_lt _ (limbs_bd a);rwa [num_limbs] at this))
 have HX:=Lib.hid (fun i=>lat_limbs a i)
 have HS:=Lib.hid (fun i h=>shr_limb a n i h)
 have hL:(limbs a).length≤1000000:=hl
 clear hl
 obtain⟨L,hLL⟩:∃L,L=(limbs a).length:=⟨_,rfl⟩
 rw[←hLL] at HE hL hlc hr ⊢
 have HLL:=Lib.hid hLL
 clear hLL
 have hL':(L:Int)≤1000000:=by omega
 have hown0:=World.ownsRow_lit w #[] 0 (base:=w.heap.size) (e:=141) (size:=1) (Nat.le_refl _) (by unfold maxLen;omega) rfl
 go_enter Tryz.func187,Tryz.ntmps187
 go_wp2
 go_loopw [6,7] (fun o i wr=>∃(k:Nat),i= .int .i64 ((n:Int) / 64+(k:Int))∧(k=0∨n / 64+k≤L)∧wr.ownsRow w.heap.size 141 1 o (sl a n k).length (us (sl a n k))∧Below w.heap.size w wr) (fun _ i _=>L - (intOf i).toNat)
 case atStart=>exact⟨0,by simp,.inl rfl,hown0,(Below.refl _ w).alloc (Nat.le_refl _) _⟩
 case round=>
  obtain⟨k,rfl,hk,hown,hB⟩:=hrel
  by_cases hlt:n / 64+k<L
  ·have hS:=HS.out (n / 64+k) (by omega)
   rw[show n / 64+k - n / 64=k from by omega] at hS
   obtain⟨ad,rfl,_,hx⟩:=us_cell (hr.below hB) hlt
   have g0:(0:Int)≤(n:Int) / 64+(k:Int):=by omega
   have g1:(n:Int) / 64+(k:Int)<(L:Int):=by omega
   have g2:((n:Int) / 64+(k:Int)).toNat=n / 64+k:=by omega
   have hxb:=hbd.lat (n / 64+k)
   have hyb:=hbd.lat (n / 64+k+1)
   have e1:=HX.out (n / 64+k)
   have e2:=HX.out (n / 64+k+1)
   rw[←e1,←e2] at hS
   clear e1 e2
   have hsucc:=sl_succ a n k
   rw[←hS] at hsucc
   have HSU:=Lib.hid hsucc
   clear hS hsucc
   have hy0:¬(n / 64+k+1<L)→lat (limbs a) (n / 64+k+1)=0:=fun h=>lat_ge (by have:=HLL.out;omega)
   have hyc:n / 64+k+1<L→wr.cell? (ad.add (n / 64+k+1))=some (.int .u64 (lat (limbs a) (n / 64+k+1):Nat)):=fun h=>by
    obtain⟨ad2,e,_,hy⟩:=us_cell (hr.below hB) h
    cases e;exact hy
   generalize lat (limbs a) (n / 64+k)=x at *
   generalize lat (limbs a) (n / 64+k+1)=y at *
   obtain⟨X,hX⟩:∃X,X=x+W64*y:=⟨_,rfl⟩
   have X1:Hid (X % W64=x∧X / W64=y):=by rw[Hid,hX];unfold W64 at *;omega
   rw[←hX] at HSU
   clear hX
   by_cases h2:n / 64+k+1<L
   ·have hyc:=hyc h2
    have g3:(n:Int) / 64+(k:Int)+1<(L:Int):=by omega
    have g4:((n:Int) / 64+(k:Int)+1).toNat=n / 64+k+1:=by omega
    clear hy0
    rw[Addr.add,if_neg (by omega)] at hyc
    have hxb':(x:Int)≤18446744073709551615:=by unfold W64 at hxb;omega
    have hyb':(y:Int)≤18446744073709551615:=by unfold W64 at hyb;omega
    go_wp2
    obtain⟨wo,rfl⟩:∃wo:World,wo=wr:=⟨_,rfl⟩
    go_loop [8,9,10] (fun xo yo io=>∃(j:Nat) (x' y':Nat),j≤n % 64∧io= .int .i64 j∧xo= .int .u64 (x':Int)∧yo= .int .u64 (y':Int)∧(x':Int)≤18446744073709551615∧(y':Int)≤18446744073709551615∧Hid (X / 2^j % W64=x'∧X / 2^j / W64=y')) (fun _ _ io=>n % 64 - (intOf io).toNat)
    case atStart=>exact⟨0,_,_,by omega,rfl,rfl,rfl,hxb',hyb',by have:=X1.out;simpa [Hid] using this⟩
    case round=>
     obtain⟨j,x',y',hj,rfl,rfl,rfl,hx',hy',hI⟩:=hrel
     by_cases hjt:j<n % 64
     ·have q1:(j:Int)<(n:Int) % 64:=by omega
      have hN:Hid (X / 2^(j+1) % W64=x' / 2+y' % 2*9223372036854775808∧X / 2^(j+1) / W64=y' / 2):=by
       obtain⟨i1,i2⟩:=hI.out
       rw[Hid,Nat.pow_succ,←Nat.div_div_eq_div_mul]
       generalize X / 2^j=T at *
       unfold W64 at *
       omega
      have b1:(y':Int) % 2*9223372036854775808≤18446744073709551615:=by omega
      have b2:(x':Int) / 2+(y':Int) % 2*9223372036854775808≤18446744073709551615:=by omega
      go_wp2
      go_round
      case rel=>exact⟨j+1,x' / 2+y' % 2*9223372036854775808,y' / 2,by omega,by go_num,by go_num,by go_num,by omega,by omega,hN⟩
      case measure=>simp[intOf];omega
     ·obtain rfl:j=n % 64:=by omega
      have q1:¬(((n % 64:Nat):Int)<(n:Int) % 64):=by omega
      have hx'':=hI.out.1
      rw[hx''] at HSU
      clear hx''
      go_wp2_with (at_builtin;go_must (refine wpList_app1 _ rfl _ _ 28 141 (.int .u64 0) 8 rfl Tryz.underlying28 info_u64 rfl w.heap.size (.int .u64 (x':Int)) rfl _ (sl a n k).length (us (sl a n k)) rfl (hown.alloc _) ⟨wo.heap.size,0,none⟩ rfl (by exact new_cell _ _ _) (by rw[sl_len];omega) (by omega) (by simp;exact Nat.le_succ_of_le hB.size) ?_;intro v' w1 hown' hgrow))
      refine ⟨⟨k+1,by go_num,.inr (by omega),?_,(hB.alloc hB.size _).grown hgrow (by simp;exact Nat.le_succ_of_le hB.size) (fun j e=>(hown.lt j e).1)⟩,by simp[intOf];omega⟩
      rw[HSU.out,us_snoc,List.length_append,List.length_singleton]
      exact hown'
   ·obtain rfl:=hy0 h2
    have g3:¬((n:Int) / 64+(k:Int)+1<(L:Int)):=by omega
    clear hyc hy0
    have hxb':(x:Int)≤18446744073709551615:=by unfold W64 at hxb;omega
    have hyb':((0:Nat):Int)≤18446744073709551615:=by omega
    go_wp2
    obtain⟨wo,rfl⟩:∃wo:World,wo=wr:=⟨_,rfl⟩
    go_loop [8,9,10] (fun xo yo io=>∃(j:Nat) (x' y':Nat),j≤n % 64∧io= .int .i64 j∧xo= .int .u64 (x':Int)∧yo= .int .u64 (y':Int)∧(x':Int)≤18446744073709551615∧(y':Int)≤18446744073709551615∧Hid (X / 2^j % W64=x'∧X / 2^j / W64=y')) (fun _ _ io=>n % 64 - (intOf io).toNat)
    case atStart=>exact⟨0,_,_,by omega,rfl,rfl,rfl,hxb',hyb',by have:=X1.out;simpa [Hid] using this⟩
    case round=>
     obtain⟨j,x',y',hj,rfl,rfl,rfl,hx',hy',hI⟩:=hrel
     by_cases hjt:j<n % 64
     ·have q1:(j:Int)<(n:Int) % 64:=by omega
      have hN:Hid (X / 2^(j+1) % W64=x' / 2+y' % 2*9223372036854775808∧X / 2^(j+1) / W64=y' / 2):=by
       obtain⟨i1,i2⟩:=hI.out
       rw[Hid,Nat.pow_succ,←Nat.div_div_eq_div_mul]
       generalize X / 2^j=T at *
       unfold W64 at *
       omega
      have b1:(y':Int) % 2*9223372036854775808≤18446744073709551615:=by omega
      have b2:(x':Int) / 2+(y':Int) % 2*9223372036854775808≤18446744073709551615:=by omega
      go_wp2
      go_round
      case rel=>exact⟨j+1,x' / 2+y' % 2*9223372036854775808,y' / 2,by omega,by go_num,by go_num,by go_num,by omega,by omega,hN⟩
      case measure=>simp[intOf];omega
     ·obtain rfl:j=n % 64:=by omega
      have q1:¬(((n % 64:Nat):Int)<(n:Int) % 64):=by omega
      have hx'':=hI.out.1
      rw[hx''] at HSU
      clear hx''
      go_wp2_with (at_builtin;go_must (refine wpList_app1 _ rfl _ _ 28 141 (.int .u64 0) 8 rfl Tryz.underlying28 info_u64 rfl w.heap.size (.int .u64 (x':Int)) rfl _ (sl a n k).length (us (sl a n k)) rfl (hown.alloc _) ⟨wo.heap.size,0,none⟩ rfl (by exact new_cell _ _ _) (by rw[sl_len];omega) (by omega) (by simp;exact Nat.le_succ_of_le hB.size) ?_;intro v' w1 hown' hgrow))
      refine ⟨⟨k+1,by go_num,.inr (by omega),?_,(hB.alloc hB.size _).grown hgrow (by simp;exact Nat.le_succ_of_le hB.size) (fun j e=>(hown.lt j e).1)⟩,by simp[intOf];omega⟩
      rw[HSU.out,us_snoc,List.length_append,List.length_singleton]
      exact hown'
  ·have g1:¬((n:Int) / 64+(k:Int)<(L:Int)):=by omega
   have hres:IsL wr u6 (sl a n k):=IsL.of_own hown (sl_bd _ _ _)
   have hnum:num (sl a n k)=a / 2^n:=by
    have:=HE.out
    by_cases h0:n / 64+k≤L
    ·rw[show L - n / 64=k from by omega] at this;exact this
    ·obtain rfl:k=0:=by omega
     rw[show L - n / 64=0 from by omega] at this;exact this
   have hk10:(sl a n k).length≤10000000:=by rw[sl_len];omega
   have HN:=Lib.hid hnum
   clear hnum
   go_wp2_with fail
   refine (rbare_f _ _ _ hres hk10).mono ?_
   rintro e w' ⟨r,rfl,hr,hb,hf⟩
   go_wp2
   go_ret2
   exact⟨_,rfl,by rw[←HN.out];exact hr,hB.trans (hb.mono hB.size),hf.more hB.size⟩
end Go.Proofs.YtdnjdglekifhpaaGreat
namespace Go.Proofs.YtdnjdglekifhpaaGreat
open Go.RowKit
theorem divmod_less (va vb:Value) (a b:Nat) (w:World) (ha:IsN w va a) (hb:IsN w vb b) (sa:Sz a 1000000) (sb:Sz b 1000000) (h0:0<b) (h:bl a<bl b):
 Calls Tryz.prog 135 #[va,vb] w fun e w'=>∃q r,e= .returned (.tuple #[q,r,.int .i64 0])∧IsN w' q (a / b)∧IsN w' r (a % b)∧Below w.heap.size w w':=by
 have hlt:=less_bl h
 rw[Nat.div_eq_of_lt hlt,Nat.mod_eq_of_lt hlt]
 have hA:=rbits_any va a w ha sa
 have hBb:=rbits_any vb b w hb sb
 have hL:(limbs b).length≠0:=fun e=>by
  have:=limbs_nil.1 (List.eq_nil_of_length_eq_zero e);omega
 have ha':=ha
 obtain⟨A,ca,rfl,hca,hca2,hba,hra⟩:=ha
 obtain⟨B,cb,rfl,_⟩:=hb
 obtain⟨i0,hi,hz0,hz1,hz2⟩:=info_parts info_u64
 generalize (limbs b).length=Lb at *
 have hLb:(((Lb:Nat):Int) == 0)=false:=by simp;omega
 have hLb2:decide (Lb=0)=false:=by simp;omega
 clear hL
 have hbl:(bl a:Int) - (bl b:Int)<0:=by omega
 have x1:=sa.bl
 have y1:=sb.bl
 generalize bl a=x at *
 generalize bl b=y at *
 have sa':(limbs a).length≤1000000:=sa
 clear hlt h0 sb sa
 go_enter Tryz.func135,Tryz.ntmps135
 go_wp2_with fail
 refine hA.mono ?_
 rintro e w' ⟨rfl,rfl⟩
 go_wp2_with fail
 refine hBb.mono ?_
 rintro e w' ⟨rfl,rfl⟩
 have hown:=World.ownsRow_lit (w.alloc (.cells #[] 141)) #[] 0 (base:=w.heap.size) (e:=141) (size:=1) (by simp) (by unfold maxLen;omega) rfl
 rw[World.size_alloc] at hown
 go_wp2_with (at_builtin;go_must (refine wpList_append_any _ rfl _ _ _ rfl w.heap.size 141 i0 _ 1 8 Tryz.underlying28 hi hz0 hz1 hz2 rfl (by omega) _ 0 [] rfl hown w.heap.size A (limbs a).length ca (us (limbs a)) rfl ((hra.alloc (Nat.le_refl _) _).alloc (by simp) _) (us_one _) (by unfold maxLen;omega) (by omega) (by simp;omega) ?_;intro v' w' hown' hgrow hat))
 go_ret3
 have b0:Below w.heap.size w ((w.alloc (.cells #[] 141)).alloc (.cells #[] 141)):=((Below.refl _ w).alloc (Nat.le_refl _) _).alloc (by simp) _
 rw[Nat.zero_add,List.nil_append] at hown'
 exact⟨_,_,rfl,by unfold IsN;rw[limbs_zero];exact⟨_,_,rfl,by simp,by simp,Bd.nil,⟨by simp[us],fun h=>absurd h (by simp)⟩⟩,IsN.of_own hown',b0.grown hgrow (by simp;omega) (fun g e=>by cases e;simp)⟩
end Go.Proofs.YtdnjdglekifhpaaGreat
namespace Go.Proofs.YtdnjdglekifhpaaGreat
open Go.RowKit
structure DivS (w:World) (va vb:Value) (a b:Nat) (l:List Nat) (g:Nat) (rv:Value) (r:Nat):Prop where
 ha:IsN w va a
 hb:IsN w vb b
 na:va.ownBlock≠some g
 nb:vb.ownBlock≠some g
 hr:IsN w rv r
 hf:rv.ownBlock≠some g
 hq:Arr w g l
section
variable {w w':World} {va vb rv:Value} {a b g r:Nat} {l:List Nat}
theorem DivS.below (h:DivS w va vb a b l g rv r) (hb:Below w.heap.size w w'):DivS w' va vb a b l g rv r:=
 ⟨h.ha.below hb,h.hb.below hb,h.na,h.nb,h.hr.below hb,h.hf,h.hq.below hb h.hq.lt⟩
theorem DivS.store (h:DivS w va vb a b l g rv r) (i x:Nat):DivS (w.setCell ⟨g,i,none⟩ (.int .u64 (x:Int))) va vb a b (l.set i x) g rv r:=
 ⟨h.ha.far h.na _,h.hb.far h.nb _,h.na,h.nb,h.hr.far h.hf _,h.hf,h.hq.set i x⟩
theorem DivS.put (h:DivS w va vb a b l g rv r) {rv':Value} {r':Nat} (hr:IsN w rv' r') (hf:rv'.ownBlock≠some g):DivS w va vb a b l g rv' r':=
 ⟨h.ha,h.hb,h.na,h.nb,hr,hf,h.hq⟩
theorem IsN.old (h:IsN w rv r) (hg:w.heap.size≤g) (hr:(limbs r).length≠0):rv.ownBlock≠some g:=by
 obtain⟨A,c,rfl,h1,h2,h3,h4⟩:=h
 obtain⟨ad,rfl,hb,_⟩:=h4.2 (by omega)
 intro e
 have :ad.block=g:=by simpa [Value.ownBlock] using e
 omega
theorem Arr.far {w:World} {g:Nat} {l:List Nat} (h:Arr w g l) {p:Addr} (hp:g≠p.block) (u:Value):Arr (w.setCell p u) g l:=(Below.heap_setCell w p u g hp).trans h
theorem set_set (l:List Nat) (i x y:Nat):(l.set i x).set i y=l.set i y:=by simp
end
theorem divmod_in (va vb:Value) (a b:Nat) (w:World) (ha:IsN w va a) (hb:IsN w vb b) (sa:Sz a 100000) (sb:Sz b 100000) (h0:0<b) (h:bl b≤bl a):
 Calls Tryz.prog 135 #[va,vb] w fun e w'=>∃q r,e= .returned (.tuple #[q,r,.int .i64 0])∧IsN w' q (a / b)∧IsN w' r (a % b)∧Below w.heap.size w w':=by
 have hA:=fun w ha=>rbits_any va a w ha (sa.fin (by omega))
 have hBb:=fun w hb=>rbits_any vb b w hb (sb.fin (by omega))
 have hL:(limbs b).length≠0:=fun e=>by
  have:=limbs_nil.1 (List.eq_nil_of_length_eq_zero e);omega
 obtain⟨s1,s2⟩:=start_shift a b h0
 obtain⟨s3,s4⟩:=start_full a b
 have hshr:=fun w ha n hn=>shr_f va a n hn w ha (sa.fin (by omega))
 have hshx:=fun w n hn=>shr_bad va n hn w
 have hlq:a / b<W64^(limbs a).length:=Nat.lt_of_le_of_lt (Nat.div_le_self _ _) (lt_of_limbs_len (Nat.le_refl _))
 have hbl:=(show Sz a (limbs a).length from Nat.le_refl _).bl
 have sL:(limbs a).length≤100000:=sa
 have sr:∀r,r<b→Sz r 100000:=fun r hr=>sb.le (Nat.le_of_lt hr)
 have hbit:=fun w ha i hi h64=>bit_any va a i w ha hi h64
 obtain⟨A,LA,cA,hvA,hLA⟩:=ha.open_
 obtain⟨B,LB,cB,hvB,hLB⟩:=hb.open_
 rw[←hLA] at hlq hbl sL hbit
 rw[←hLB] at hL
 obtain⟨t,ht⟩:∃t,t=bl a - bl b:=⟨_,rfl⟩
 rw[←ht] at s1 s2
 have htb:(bl a:Int) - (bl b:Int)=t:=by omega
 have hta:t≤bl a:=by omega
 have hta1:t+1≤bl a:=by
  have :bl b≠0:=fun e=>by rw[bl_eq_zero] at e;omega
  omega
 have ybl:=sb.bl
 have xa0:1≤bl a:=by omega
 have zq:qrow (a / b) (t+1) LA=zeros LA:=qrow_start _ _ _ s2
 have zq2:qrow (a / b) (bl a) LA=zeros LA:=qrow_start _ _ _ s4
 have hqe:=qrow_zero (a / b) LA hlq
 have hmk:=run_make_u64 28 Tryz.underlying28 LA LA rfl (by omega)
 have LAp:0<LA:=by omega
 have LBz:decide (LB=0)=false:=by simp;omega
 have LBz2:((LB:Int) == 0)=false:=by simp;omega
 generalize bl a=x at *
 generalize bl b=y at *
 have H1:=Lib.hid (And.intro hLA (And.intro hLB (And.intro ht (And.intro s1 (And.intro s2 (And.intro s3 (And.intro s4 (And.intro zq (And.intro zq2 hqe)))))))))
 clear hLA hLB ht s1 s2 s3 s4 zq zq2 hqe hL hlq
 subst hvA hvB
 by_cases hc:t+1≤20000
 ·have hc1:(t:Int)+1≤20000:=by omega
  have hshr:=fun w ha=>hshr w ha (t+1) hc
  go_enter Tryz.func135,Tryz.ntmps135
  go_wp2_with fail
  refine (hA _ ha).mono ?_
  rintro e w' ⟨rfl,rfl⟩
  go_wp2_with fail
  refine (hBb _ hb).mono ?_
  rintro e w' ⟨rfl,rfl⟩
  go_wp2_with fail
  obtain⟨g,hg⟩:∃g,g=w.heap.size:=⟨_,rfl⟩
  have a0:=Arr.new w (zeros LA)
  have B0:Below w.heap.size w (w.alloc (.cells (us (zeros LA)).toArray 141)):=(Below.refl _ w).alloc (Nat.le_refl _) _
  have ha1:=ha.below B0
  have hb1:=hb.below B0
  rw[←hg]
  rw[←hg] at a0
  have nA:=ha.old (Nat.le_of_eq hg.symm) (by rw[←H1.out.1];omega)
  have nB:=hb.old (Nat.le_of_eq hg.symm) (by rw[←H1.out.2.1];simpa using LBz)
  have HG:=Lib.hid hg
  clear hg
  generalize w.alloc (.cells (us (zeros LA)).toArray 141)=W0 at *
  refine (hshr _ ha1).mono ?_
  rintro e w2 ⟨v2,rfl,h2,b2,f2⟩
  have f2':=f2.ne a0.lt
  have a0:=a0.b b2
  have hB:=B0.trans (b2.mono B0.size)
  have S:DivS w2 (.slice A LA cA) (.slice B LB cB) a b (qrow (a / b) (t+1) LA) g v2 (a / 2^(t+1)):=⟨ha1.below b2,hb1.below b2,nA,nB,h2,f2',by rw[H1.out.2.2.2.2.2.2.2.1];exact a0⟩
  go_wp2
  go_loopw [9,11] (fun rv iv wr=>∃(m r:Nat),iv= .int .i64 ((m:Int) - 1)∧m≤x∧r<b∧Hid (r=a / 2^m % b)∧DivS wr (.slice A LA cA) (.slice B LB cB) a b (qrow (a / b) m LA) g rv r∧Below w.heap.size w wr) (fun _ iv _=>(intOf iv+1).toNat)
  case atStart=>exact⟨t+1,_,by go_num,by omega,by have:=H1.out.2.2.2.1;rw[←this];exact Nat.mod_lt _ h0,Lib.hid H1.out.2.2.2.1.symm,S,hB⟩
  case round=>
   clear S hA hBb hshr hshx hmk ha hb ha1 hb1 a0 h2 b2 hB B0 f2 f2' nA nB
   obtain⟨m,r,rfl,hm,hrb,hr,S,hB⟩:=hrel
   rcases m with _ | i
   ·rw[show (((0:Nat):Int) - 1)= -1 from rfl]
    have hq:=S.hq
    have hqe:=H1.out.2.2.2.2.2.2.2.2.2
    have hres:=hq.isL (qrow_bd _ _ _) (by rw[qrow_len];omega)
    rw[qrow_len] at hres
    have hlen:(qrow (a / b) 0 LA).length≤10000000:=by rw[qrow_len];omega
    have F:=Lib.hid (And.intro hqe hr.out)
    clear hqe hr hq hbit sr
    go_wp2_with fail
    refine (rbare_any _ _ _ hres hlen).mono ?_
    rintro e w3 ⟨v3,rfl,h3,b3⟩
    have S:=S.below b3
    go_wp2
    go_ret3
    obtain⟨F1,F2⟩:=F.out
    refine ⟨_,_,rfl,by rw[←F1];exact h3,?_,hB.trans (b3.mono hB.size)⟩
    rw[Nat.pow_zero,Nat.div_one] at F2
    rw[←F2];exact S.hr
   ·rw[show (((i+1:Nat):Int) - 1)=(i:Int) from by omega]
    obtain⟨d1,d2⟩:=div_step a b i r h0 hr.out
    have hst:=qrow_step (a / b) i LA (by omega)
    have hdb:=ql_dbl (a / b) i
    have hlat:=lat_qrow (a / b) (i+1) LA (i / 64) (by omega)
    have hbit:=fun w ha=>hbit w ha i (by omega) (by omega)
    have hlen:(qrow (a / b) (i+1) LA).length=LA:=qrow_len _ _ _
    have cq:=fun w (h:Arr w g (qrow (a / b) (i+1) LA))=>h.cell (i:=i / 64) (by rw[hlen];omega)
    have fq:=fun w l (h:Arr w g l)=>h.frozen (i / 64)
    have cq2:=fun w u (h:Arr w g ((qrow (a / b) (i+1) LA).set (i / 64) u))=>h.cell (i:=i / 64) (by rw[List.length_set,hlen];omega)
    rw[hlat] at cq
    have lat2:∀u,lat ((qrow (a / b) (i+1) LA).set (i / 64) u) (i / 64)=u:=fun u=>by rw[lat_set,if_pos ⟨rfl,by rw[hlen];omega⟩]
    simp only[lat2] at cq2
    clear lat2
    generalize ql (a / b) (i+1) (i / 64)=z at *
    have hc2:a / 2^i % 2≤1:=by omega
    have hof:=fun w=>rof_any (a / 2^i % 2) (by unfold W64;omega) w
    generalize a / 2^i % 2=bit at *
    have sr':∀k,k<b+b+1→(limbs k).length≤1000000:=fun k hk=>(((sb.add sb).add Sz.one).le (Nat.le_of_lt hk)).fin (by omega)
    have hadd:=fun w v1 v2 (u1 u2:Nat) h1 h2 (k1:u1<b+b+1) (k2:u2<b+b+1)=>radd_f v1 v2 u1 u2 w h1 h2 (sr' _ k1) (sr' _ k2)
    have hcmp:=fun w v1 h1 hb=>rcmp_n v1 (.slice B LB cB) (r+r+bit) b w h1 hb
    have z2:(z:Int)*2≤18446744073709551615:=by unfold W64 at hdb;omega
    have z3:((z*2:Nat):Int)+1≤18446744073709551615:=by unfold W64 at hdb;omega
    have g0:(0:Int)≤(i:Int) / 64:=by omega
    have g1:(i:Int) / 64<(LA:Int):=by omega
    have g2:((i:Int) / 64).toNat=i / 64:=by omega
    have hib:(i:Int)≤100000000:=by omega
    have hii:i≤x:=by omega
    have kk1:r<b+b+1:=by omega
    have kk2:r+r<b+b+1:=by omega
    have kk3:bit<b+b+1:=by omega
    have kk4:r+r+bit<b+b+1:=by omega
    have HST:=Lib.hid (And.intro hst (And.intro d1 (And.intro d2 hlen)))
    clear hst d1 d2 hdb hlat hlen sr
    go_wp2_with fail
    refine (hadd _ _ _ r r S.hr S.hr kk1 kk1).mono ?_
    rintro e w3 ⟨v3,rfl,h3,b3,_⟩
    have S:=S.below b3
    have hB:=hB.trans (b3.mono hB.size)
    go_wp2_with fail
    refine (hbit _ S.ha).mono ?_
    rintro e w' ⟨rfl,rfl⟩
    go_wp2_with fail
    refine (hof _).mono ?_
    rintro e w4 ⟨v4,rfl,h4,b4⟩
    have S:=S.below b4
    have h3:=h3.below b4
    have hB:=hB.trans (b4.mono hB.size)
    go_wp2_with fail
    refine (hadd _ _ _ _ _ h3 h4 kk2 kk3).mono ?_
    rintro e w5 ⟨v5,rfl,h5,b5,f5⟩
    have f5':=f5.ne S.hq.lt
    have S:=(S.below b5).put h5 f5'
    have hB:=hB.trans (b5.mono hB.size)
    have cq5:=cq _ S.hq
    have fq5:=fq _ _ S.hq
    have S:=S.store (i / 64) (z*2)
    rw[show ((z*2:Nat):Int)=(z:Int)*2 from by omega] at S
    have hgB:=HG.out
    have hB:=hB.setCell (p:=⟨g,i / 64,none⟩) (Nat.le_of_eq hgB.symm) (.int .u64 ((z:Int)*2))
    clear hgB cq h3 h4 h5 f5 b3 b4 b5 hbit hof hadd
    go_wp2_with fail
    obtain⟨w6,hw6⟩:∃w6,w6=w5.setCell ⟨g,i / 64,none⟩ (.int .u64 ((z:Int)*2)):=⟨_,rfl⟩
    rw[←hw6] at S hB
    rw[←hw6]
    clear hw6 cq5 fq5
    by_cases hle:b≤r+r+bit
    ·have ec:cmpI ((r+r+bit:Nat):Int) ((b:Nat):Int)=cmpI (r+r+bit:Nat) b:=rfl
     have hc0:(0:Int)≤cmpI ((r+r+bit:Nat):Int) (b:Int):=by unfold cmpI;split<;>(try split)<;>omega
     have hsub:=fun w v1 h1 hb=>rsub_f v1 (.slice B LB cB) (r+r+bit) b w h1 hb (sr' _ kk4) (sr' _ (by omega)) hle
     generalize cmpI ((r+r+bit:Nat):Int) (b:Int)=cc at *
     refine (hcmp _ _ S.hr S.hb).mono ?_
     rintro e w7 ⟨rfl,n7,rfl⟩
     have S:=S.below (below_drewN (Below.refl _ _) n7)
     have hB:=below_drewN hB n7
     generalize w6.drewN n7=w7 at *
     have HSU:=Lib.hid hsub
     have HQ:=Lib.hid (And.intro cq2 fq)
     clear hsub hcmp cq2 fq
     go_wp2_with fail
     refine (HSU.out _ _ S.hr S.hb).mono ?_
     rintro e w8 ⟨v8,rfl,h8,b8,f8⟩
     have f8':=f8.ne S.hq.lt
     have S:=(S.below b8).put h8 f8'
     have hB:=hB.trans (b8.mono hB.size)
     have cq8:=HQ.out.1 _ _ S.hq
     have fq8:=HQ.out.2 _ _ S.hq
     have S:=S.store (i / 64) (z*2+1)
     rw[set_set,show ((z*2+1:Nat):Int)=((z*2:Nat):Int)+1 from by omega] at S
     have hgB:=HG.out
     have hB:=hB.setCell (p:=⟨g,i / 64,none⟩) (Nat.le_of_eq hgB.symm) (.int .u64 (((z*2:Nat):Int)+1))
     clear hgB h8 f8 b8
     obtain⟨Z,hZ⟩:∃Z,Z=z*2:=⟨_,rfl⟩
     rw[←hZ] at S hB z3 cq8
     have HZ:=Lib.hid hZ
     have SB:=Lib.hid (And.intro S hB)
     clear hZ S hB sr'
     go_wp2_with fail
     obtain⟨S,hB⟩:=SB.out
     obtain⟨E1,E2,_,_⟩:=HST.out
     obtain⟨E3,E4⟩:=E2 hle
     refine ⟨⟨i,_,rfl,by omega,?_,Lib.hid E3,?_,hB⟩,by simp[intOf]⟩
     ·rw[E3];exact Nat.mod_lt _ h0
     ·rw[E4,show 2*z+1=Z+1 from by rw[HZ.out];omega] at E1
      rw[←E1];exact S
    ·have hc0:cmpI ((r+r+bit:Nat):Int) (b:Int)<0:=by unfold cmpI;split<;>(try split)<;>omega
     have hlt:r+r+bit<b:=by omega
     generalize cmpI ((r+r+bit:Nat):Int) (b:Int)=cc at *
     refine (hcmp _ _ S.hr S.hb).mono ?_
     rintro e w7 ⟨rfl,n7,rfl⟩
     have S:=S.below (below_drewN (Below.refl _ _) n7)
     have hB:=below_drewN hB n7
     generalize w6.drewN n7=w7 at *
     have SB:=Lib.hid (And.intro S hB)
     have HLT:=Lib.hid hlt
     have HII:=Lib.hid hii
     have HH0:=Lib.hid h0
     clear S hB hcmp cq2 fq kk1 kk2 kk3 kk4 hle sr' hc2 hlt hii z2 z3 hib htb hta hta1 hbl hc hc1 hrb xa0 ybl h sa sb h0
     go_wp2_with fail
     obtain⟨S,hB⟩:=SB.out
     obtain⟨E1,_,E2,_⟩:=HST.out
     obtain⟨E3,E4⟩:=E2 HLT.out
     refine ⟨⟨i,_,rfl,HII.out,?_,Lib.hid E3,?_,hB⟩,by simp[intOf]⟩
     ·rw[E3];exact Nat.mod_lt _ HH0.out
     ·rw[E4,show 2*z+0=z*2 from by omega] at E1
      rw[←E1];exact S
 ·have hc1:¬((t:Int)+1≤20000):=by omega
  go_enter Tryz.func135,Tryz.ntmps135
  go_wp2_with fail
  refine (hA _ ha).mono ?_
  rintro e w' ⟨rfl,rfl⟩
  go_wp2_with fail
  refine (hBb _ hb).mono ?_
  rintro e w' ⟨rfl,rfl⟩
  go_wp2_with fail
  obtain⟨g,hg⟩:∃g,g=w.heap.size:=⟨_,rfl⟩
  have a0:=Arr.new w (zeros LA)
  have B0:Below w.heap.size w (w.alloc (.cells (us (zeros LA)).toArray 141)):=(Below.refl _ w).alloc (Nat.le_refl _) _
  have ha1:=ha.below B0
  have hb1:=hb.below B0
  have hbx:=hshx (w.alloc (.cells (us (zeros LA)).toArray 141)) ((t:Int)+1) (.inr (by omega))
  have hsz:(w.alloc (.cells (us (zeros LA)).toArray 141)).heap.size=w.heap.size+1:=by simp
  rw[←hg] at hsz
  rw[←hg]
  rw[←hg] at a0
  have nA:=ha.old (Nat.le_of_eq hg.symm) (by rw[←H1.out.1];omega)
  have nB:=hb.old (Nat.le_of_eq hg.symm) (by rw[←H1.out.2.1];simpa using LBz)
  have HG:=Lib.hid hg
  clear hg
  generalize w.alloc (.cells (us (zeros LA)).toArray 141)=W0 at *
  have HSZ:=Lib.hid hsz
  clear hsz
  refine hbx.mono ?_
  rintro e w2 ⟨rfl,rfl⟩
  have B1:Below W0.heap.size W0 (W0.alloc (.cells #[] 141)):=(Below.refl _ W0).alloc (Nat.le_refl _) _
  have hA2:=hA (W0.alloc (.cells #[] 141)) (ha1.below B1)
  go_wp2_with fail
  refine hA2.mono ?_
  rintro e w' ⟨rfl,rfl⟩
  have a0:=a0.b B1
  have hB:=B0.trans (B1.mono B0.size)
  have S:DivS (W0.alloc (.cells #[] 141)) (.slice A LA cA) (.slice B LB cB) a b (qrow (a / b) x LA) g (.slice (some ⟨g+1,0,none⟩) 0 0) 0:=
   ⟨ha1.below B1,hb1.below B1,nA,nB,by unfold IsN;rw[limbs_zero];exact⟨_,_,rfl,by simp,by simp,Bd.nil,⟨by simp[us],fun h=>absurd h (by simp)⟩⟩,by simp[Value.ownBlock],by rw[H1.out.2.2.2.2.2.2.2.2.1];exact a0⟩
  have hsz:=HSZ.out
  go_wp2
  go_loopw [9,11] (fun rv iv wr=>∃(m r:Nat),iv= .int .i64 ((m:Int) - 1)∧m≤x∧r<b∧Hid (r=a / 2^m % b)∧DivS wr (.slice A LA cA) (.slice B LB cB) a b (qrow (a / b) m LA) g rv r∧Below w.heap.size w wr) (fun _ iv _=>(intOf iv+1).toNat)
  case atStart=>exact⟨x,0,by go_num,by omega,h0,Lib.hid H1.out.2.2.2.2.2.1,by first | exact S | (rw[hsz];exact S),hB⟩
  case round=>
   clear S hA hBb hshr hshx hmk ha hb ha1 hb1 a0 hB B0 B1 hA2 hbx hsz nA nB
   obtain⟨m,r,rfl,hm,hrb,hr,S,hB⟩:=hrel
   rcases m with _ | i
   ·rw[show (((0:Nat):Int) - 1)= -1 from rfl]
    have hq:=S.hq
    have hqe:=H1.out.2.2.2.2.2.2.2.2.2
    have hres:=hq.isL (qrow_bd _ _ _) (by rw[qrow_len];omega)
    rw[qrow_len] at hres
    have hlen:(qrow (a / b) 0 LA).length≤10000000:=by rw[qrow_len];omega
    have F:=Lib.hid (And.intro hqe hr.out)
    clear hqe hr hq hbit sr
    go_wp2_with fail
    refine (rbare_any _ _ _ hres hlen).mono ?_
    rintro e w3 ⟨v3,rfl,h3,b3⟩
    have S:=S.below b3
    go_wp2
    go_ret3
    obtain⟨F1,F2⟩:=F.out
    refine ⟨_,_,rfl,by rw[←F1];exact h3,?_,hB.trans (b3.mono hB.size)⟩
    rw[Nat.pow_zero,Nat.div_one] at F2
    rw[←F2];exact S.hr
   ·rw[show (((i+1:Nat):Int) - 1)=(i:Int) from by omega]
    obtain⟨d1,d2⟩:=div_step a b i r h0 hr.out
    have hst:=qrow_step (a / b) i LA (by omega)
    have hdb:=ql_dbl (a / b) i
    have hlat:=lat_qrow (a / b) (i+1) LA (i / 64) (by omega)
    have hbit:=fun w ha=>hbit w ha i (by omega) (by omega)
    have hlen:(qrow (a / b) (i+1) LA).length=LA:=qrow_len _ _ _
    have cq:=fun w (h:Arr w g (qrow (a / b) (i+1) LA))=>h.cell (i:=i / 64) (by rw[hlen];omega)
    have fq:=fun w l (h:Arr w g l)=>h.frozen (i / 64)
    have cq2:=fun w u (h:Arr w g ((qrow (a / b) (i+1) LA).set (i / 64) u))=>h.cell (i:=i / 64) (by rw[List.length_set,hlen];omega)
    rw[hlat] at cq
    have lat2:∀u,lat ((qrow (a / b) (i+1) LA).set (i / 64) u) (i / 64)=u:=fun u=>by rw[lat_set,if_pos ⟨rfl,by rw[hlen];omega⟩]
    simp only[lat2] at cq2
    clear lat2
    generalize ql (a / b) (i+1) (i / 64)=z at *
    have hc2:a / 2^i % 2≤1:=by omega
    have hof:=fun w=>rof_any (a / 2^i % 2) (by unfold W64;omega) w
    generalize a / 2^i % 2=bit at *
    have sr':∀k,k<b+b+1→(limbs k).length≤1000000:=fun k hk=>(((sb.add sb).add Sz.one).le (Nat.le_of_lt hk)).fin (by omega)
    have hadd:=fun w v1 v2 (u1 u2:Nat) h1 h2 (k1:u1<b+b+1) (k2:u2<b+b+1)=>radd_f v1 v2 u1 u2 w h1 h2 (sr' _ k1) (sr' _ k2)
    have hcmp:=fun w v1 h1 hb=>rcmp_n v1 (.slice B LB cB) (r+r+bit) b w h1 hb
    have z2:(z:Int)*2≤18446744073709551615:=by unfold W64 at hdb;omega
    have z3:((z*2:Nat):Int)+1≤18446744073709551615:=by unfold W64 at hdb;omega
    have g0:(0:Int)≤(i:Int) / 64:=by omega
    have g1:(i:Int) / 64<(LA:Int):=by omega
    have g2:((i:Int) / 64).toNat=i / 64:=by omega
    have hib:(i:Int)≤100000000:=by omega
    have hii:i≤x:=by omega
    have kk1:r<b+b+1:=by omega
    have kk2:r+r<b+b+1:=by omega
    have kk3:bit<b+b+1:=by omega
    have kk4:r+r+bit<b+b+1:=by omega
    have HST:=Lib.hid (And.intro hst (And.intro d1 (And.intro d2 hlen)))
    clear hst d1 d2 hdb hlat hlen sr
    go_wp2_with fail
    refine (hadd _ _ _ r r S.hr S.hr kk1 kk1).mono ?_
    rintro e w3 ⟨v3,rfl,h3,b3,_⟩
    have S:=S.below b3
    have hB:=hB.trans (b3.mono hB.size)
    go_wp2_with fail
    refine (hbit _ S.ha).mono ?_
    rintro e w' ⟨rfl,rfl⟩
    go_wp2_with fail
    refine (hof _).mono ?_
    rintro e w4 ⟨v4,rfl,h4,b4⟩
    have S:=S.below b4
    have h3:=h3.below b4
    have hB:=hB.trans (b4.mono hB.size)
    go_wp2_with fail
    refine (hadd _ _ _ _ _ h3 h4 kk2 kk3).mono ?_
    rintro e w5 ⟨v5,rfl,h5,b5,f5⟩
    have f5':=f5.ne S.hq.lt
    have S:=(S.below b5).put h5 f5'
    have hB:=hB.trans (b5.mono hB.size)
    have cq5:=cq _ S.hq
    have fq5:=fq _ _ S.hq
    have S:=S.store (i / 64) (z*2)
    rw[show ((z*2:Nat):Int)=(z:Int)*2 from by omega] at S
    have hgB:=HG.out
    have hB:=hB.setCell (p:=⟨g,i / 64,none⟩) (Nat.le_of_eq hgB.symm) (.int .u64 ((z:Int)*2))
    clear hgB cq h3 h4 h5 f5 b3 b4 b5 hbit hof hadd
    go_wp2_with fail
    obtain⟨w6,hw6⟩:∃w6,w6=w5.setCell ⟨g,i / 64,none⟩ (.int .u64 ((z:Int)*2)):=⟨_,rfl⟩
    rw[←hw6] at S hB
    rw[←hw6]
    clear hw6 cq5 fq5
    by_cases hle:b≤r+r+bit
    ·have ec:cmpI ((r+r+bit:Nat):Int) ((b:Nat):Int)=cmpI (r+r+bit:Nat) b:=rfl
     have hc0:(0:Int)≤cmpI ((r+r+bit:Nat):Int) (b:Int):=by unfold cmpI;split<;>(try split)<;>omega
     have hsub:=fun w v1 h1 hb=>rsub_f v1 (.slice B LB cB) (r+r+bit) b w h1 hb (sr' _ kk4) (sr' _ (by omega)) hle
     generalize cmpI ((r+r+bit:Nat):Int) (b:Int)=cc at *
     refine (hcmp _ _ S.hr S.hb).mono ?_
     rintro e w7 ⟨rfl,n7,rfl⟩
     have S:=S.below (below_drewN (Below.refl _ _) n7)
     have hB:=below_drewN hB n7
     generalize w6.drewN n7=w7 at *
     have HSU:=Lib.hid hsub
     have HQ:=Lib.hid (And.intro cq2 fq)
     clear hsub hcmp cq2 fq
     go_wp2_with fail
     refine (HSU.out _ _ S.hr S.hb).mono ?_
     rintro e w8 ⟨v8,rfl,h8,b8,f8⟩
     have f8':=f8.ne S.hq.lt
     have S:=(S.below b8).put h8 f8'
     have hB:=hB.trans (b8.mono hB.size)
     have cq8:=HQ.out.1 _ _ S.hq
     have fq8:=HQ.out.2 _ _ S.hq
     have S:=S.store (i / 64) (z*2+1)
     rw[set_set,show ((z*2+1:Nat):Int)=((z*2:Nat):Int)+1 from by omega] at S
     have hgB:=HG.out
     have hB:=hB.setCell (p:=⟨g,i / 64,none⟩) (Nat.le_of_eq hgB.symm) (.int .u64 (((z*2:Nat):Int)+1))
     clear hgB h8 f8 b8
     obtain⟨Z,hZ⟩:∃Z,Z=z*2:=⟨_,rfl⟩
     rw[←hZ] at S hB z3 cq8
     have HZ:=Lib.hid hZ
     have SB:=Lib.hid (And.intro S hB)
     clear hZ S hB sr'
     go_wp2_with fail
     obtain⟨S,hB⟩:=SB.out
     obtain⟨E1,E2,_,_⟩:=HST.out
     obtain⟨E3,E4⟩:=E2 hle
     refine ⟨⟨i,_,rfl,by omega,?_,Lib.hid E3,?_,hB⟩,by simp[intOf]⟩
     ·rw[E3];exact Nat.mod_lt _ h0
     ·rw[E4,show 2*z+1=Z+1 from by rw[HZ.out];omega] at E1
      rw[←E1];exact S
    ·have hc0:cmpI ((r+r+bit:Nat):Int) (b:Int)<0:=by unfold cmpI;split<;>(try split)<;>omega
     have hlt:r+r+bit<b:=by omega
     generalize cmpI ((r+r+bit:Nat):Int) (b:Int)=cc at *
     refine (hcmp _ _ S.hr S.hb).mono ?_
     rintro e w7 ⟨rfl,n7,rfl⟩
     have S:=S.below (below_drewN (Below.refl _ _) n7)
     have hB:=below_drewN hB n7
     generalize w6.drewN n7=w7 at *
     have SB:=Lib.hid (And.intro S hB)
     have HLT:=Lib.hid hlt
     have HII:=Lib.hid hii
     have HH0:=Lib.hid h0
     clear S hB hcmp cq2 fq kk1 kk2 kk3 kk4 hle sr' hc2 hlt hii z2 z3 hib htb hta hta1 hbl hc hc1 hrb xa0 ybl h sa sb h0
     go_wp2_with fail
     obtain⟨S,hB⟩:=SB.out
     obtain⟨E1,_,E2,_⟩:=HST.out
     obtain⟨E3,E4⟩:=E2 HLT.out
     refine ⟨⟨i,_,rfl,HII.out,?_,Lib.hid E3,?_,hB⟩,by simp[intOf]⟩
     ·rw[E3];exact Nat.mod_lt _ HH0.out
     ·rw[E4,show 2*z+0=z*2 from by omega] at E1
      rw[←E1];exact S
end Go.Proofs.YtdnjdglekifhpaaGreat
namespace Go.Proofs.YtdnjdglekifhpaaGreat
open Go.RowKit
theorem divmod_any (va vb:Value) (a b:Nat) (w:World) (ha:IsN w va a) (hb:IsN w vb b) (sa:Sz a 100000) (sb:Sz b 100000) (h0:0<b):
 Calls Tryz.prog 135 #[va,vb] w fun e w'=>∃q r,e= .returned (.tuple #[q,r,.int .i64 0])∧IsN w' q (a / b)∧IsN w' r (a % b)∧Below w.heap.size w w':=by
 rcases Nat.lt_or_ge (bl a) (bl b) with h | h
 ·exact divmod_less va vb a b w ha hb (sa.more (by omega)) (sb.more (by omega)) h0 h
 ·exact divmod_in va vb a b w ha hb sa sb h0 h
theorem gcd_any (va vb:Value) (a b:Nat) (w:World) (ha:IsN w va a) (hb:IsN w vb b) (sa:Sz a 100000) (sb:Sz b 100000):
 Calls Tryz.prog 116 #[va,vb] w fun e w'=>∃v',e= .returned v'∧IsN w' v' (Nat.gcd a b)∧Below w.heap.size w w':=by
 obtain⟨d,hd⟩:∃d,d=Nat.gcd a b:=⟨_,rfl⟩
 have HD:=Lib.hid hd
 rw[←hd]
 clear hd
 go_enter Tryz.func116,Tryz.ntmps116
 go_wp2
 go_loopg [0,1] b (fun k x y wr=>∃(n:Nat),IsN wr x n∧IsN wr y k∧Sz n 100000∧Sz k 100000∧Hid (Nat.gcd n k=d)∧Below w.heap.size w wr)
 case atStart=>exact⟨a,ha,hb,sa,sb,Lib.hid HD.out.symm,Below.refl _ _⟩
 case round=>
  obtain⟨n,hx,hy,sx,sy,hg,hB⟩:=hrel
  by_cases h0:gk=0
  ·subst h0
   obtain⟨A,c,rfl⟩:=(show ∃A c,u1= .slice A 0 c by unfold IsN at hy;rw[limbs_zero] at hy;obtain⟨A,c,e,_⟩:=hy;exact⟨A,c,e⟩)
   go_wp2
   go_ret
   exact⟨_,rfl,by have:=hg.out;rw[Nat.gcd_zero_right] at this;rw[←this];exact hx,hB⟩
  ·have hp:0<gk:=Nat.pos_of_ne_zero h0
   have hL:0<(limbs gk).length:=by
    rcases Nat.eq_zero_or_pos (limbs gk).length with e | e
    ·exact absurd (limbs_nil.1 (List.eq_nil_of_length_eq_zero e)) h0
    ·exact e
   have hD:=divmod_any u0 u1 n gk wr hx hy sx sy hp
   obtain⟨A,L,c,rfl,hLe⟩:=hy.open_
   rw[←hLe] at hL
   have HLe:=Lib.hid hLe
   have H0:=Lib.hid h0
   clear hLe h0
   go_wp2_with fail
   refine hD.mono ?_
   rintro e w1 ⟨q,r,rfl,hq,hr,b1⟩
   have hy:=hy.below b1
   have hB:=hB.trans (b1.mono hB.size)
   clear hD hx b1
   go_wp2
   go_roundg (n % gk)
   case rel=>exact⟨gk,hy,hr,sy,sx.le (Nat.mod_le _ _),Lib.hid (by rw[←hg.out,Nat.gcd_comm gk,Nat.gcd_comm n,Nat.gcd_rec gk n]),hB⟩
   case measure=>exact Nat.mod_lt _ hp
end Go.Proofs.YtdnjdglekifhpaaGreat
namespace Go.Proofs.YtdnjdglekifhpaaGreat
open Go.RowKit
abbrev DivS.b:= @DivS.below
end Go.Proofs.YtdnjdglekifhpaaGreat
