/- A part of the proof of: All updates of some moments are as the document says. No conditions: every input. -/
import Derived.Deep.RegionHeld3
import Derived.OrdersHeld
import Derived.Below
import Derived.Test.YtdnjdglekifhpaaGreatChecked
import Derived.WalkKit
import Derived.Laws.OwnMore
import Derived.Deep.AppendLies
import Derived.Deep.Draws
import Derived.Lib.Hide
import Derived.Deep.QuietTactic
import Derived.Tactics
import Derived.BigQuiet
import Derived.Laws.Rows
import Derived.Laws.AppendOwn
import Derived.Maps.AppendAt
import Derived.RegionTactic
import Derived.OwnWalk
import Derived.Outline
import Derived.LoopTactic
import Derived.StillTailTactics
import Derived.Laws.MakeOwn
import Derived.ChangeKeysEq
import Derived.Laws.StructEq
import Derived.Deep.RegionLaw
import Derived.Deep.DeepMust
import Derived.Laws.Externs
import Derived.Shelf.Bits.Mul64
import Derived.Shelf.Strconv.Itoa0
import Derived.Deep.DrawnRows
import Derived.Deep.LoopGhost
import Derived.Deep.DeepCutAuto
import Derived.Test.YtdnjdglekifhpaaGreatRows
import Derived.ChangeSame
import Derived.ProofKit
import Derived.SizedLaws
import Derived.Carry
import Derived.OpenShut
import Derived.Deep.Slices
import Derived.Laws.Shifts
import Derived.Laws.BitsAllLaws
import Derived.Laws.BitsLemmas
import Derived.Deep.CutBlock
import Derived.WalkMore
import Derived.RangeFuncWrites
import Derived.Lib.SliceRun
import Derived.RangeFuncNested
import Derived.RangeFuncBound
import Derived.RangeFuncCalls
import Derived.RangeFuncLeaves
import Derived.Shelf.Abstract
import Derived.Shelf.RegionOpen
import Derived.OwnWalkIn
import Derived.TacticsInMore
import Derived.LoopNIn
import Derived.LoopIn
import Derived.RangeFuncBox
import Derived.RangeFuncFrom
import Derived.StillTail
import Derived.StillTactics
import Derived.OrdersIn
import Derived.TacticsIn
import Derived.CallsIn
import Derived.Laws.EntriesVeiled
import Derived.Deep.RegionHeld
import Derived.Shelf.SortG.Plain
import Derived.Laws.BytesArg
import Derived.Lib.Bytes
import Derived.Handy
import Derived.Lib.SmallJoins
import Derived.Deep.RegionWith
import Derived.Test.YtdnjdglekifhpaaGreatTyf
set_option maxRecDepth 100000
set_option maxHeartbeats 8000000
namespace Go.Proofs.YtdnjdglekifhpaaGreat
theorem tkS {P:Program} {ops:Array Oper} {Q:Exit→Act→World→Prop} {md:Region.Mode} {S:World→Prop} (i:Nat) {oi:Oper} (hi:ops[i]?=some oi) {fuel:Nat} {listed:Array Bool} {a:Act} {w:World}
 (h:wpAnyH P md ops Q S fuel (listed.setIfInBounds i true) (a.put oi.dst undef) w)
 (hs:Region.noSelect ops=true:=by kernel_rfl) (hf:Region.free md ops listed i=true:=by kernel_rfl) (hr:(Region.ready md ops listed).contains i=true:=by kernel_rfl)
 (hQ:∀c a w,Q (.panic c) (a.put oi.dst undef) w→Q (.panic c) a w:=by exact fun _ _ _ h=>h) (hw:Region.wanted oi (yielded ops a.tmps)=false:=by kernel_rfl) (hS:S w:=by assumption):wpAnyH P md ops Q S (fuel+1) listed a w:=
 wpAnyH_take hi hs hf hr hQ (.inr ⟨hw,rfl⟩) hS h
theorem nuh_split (l:List Nat) (k:Nat) (h:k≤l.length):nuh l=nuh (l.take k)+H32^k*nuh (l.drop k):=by
 have:=nuh_append (l.take k) (l.drop k)
 rw[List.take_append_drop,List.length_take,Nat.min_eq_left h] at this
 exact this
theorem nuh_set (l:List Nat) (i v:Nat) (h:i<l.length):nuh (l.set i v)+H32^i*lat l i=nuh l+H32^i*v:=by
 have e1:=nuh_split l i (by omega)
 have e2:=nuh_split (l.set i v) i (by simp;omega)
 rw[drop_lat l i h,nuh] at e1
 rw[drop_lat (l.set i v) i (by simp;omega),nuh,lat_set,if_pos ⟨rfl,h⟩,List.take_set_of_le (Nat.le_refl _),List.drop_set_of_lt (by omega)] at e2
 rw[e1,e2]
 simp only[Nat.mul_add]
 omega
theorem nuh_zeros (n:Nat):nuh (zeros n)=0:=by
 unfold zeros
 induction n with
 | zero=>rfl
 | succ n ih=>rw[List.replicate_succ,nuh,ih];simp
theorem hmul_digit {x y o c n:Nat} (hx:x<H32) (hy:y<H32) (ho:o<H32) (hc:c<H32) (e:n=o+x*y+c):n<W64∧n % H32+H32*(n / H32)=x*y+o+c∧n / H32<H32∧o+x*y<W64:=by
 have hp:x*y≤(H32 - 1)*(H32 - 1):=Nat.mul_le_mul (by omega) (by omega)
 have hp2:(H32 - 1)*(H32 - 1)+2*(H32 - 1)+1=H32*H32:=by unfold H32;rfl
 refine ⟨by rw[W64_H32];omega,by rw[Nat.mod_add_div,e];omega,?_,by rw[W64_H32];omega⟩
 rw[Nat.div_lt_iff_lt_mul H32_pos];omega
theorem hmul_inner {l b:List Nat} {i k N x c o s2 r:Nat} (hl:i+k<l.length) (ho:o=lat l (i+k)) (hinv:nuh l+H32^(i+k)*c=N+H32^i*(x*nuh (b.take k))) (hd:s2+H32*r=x*lat b k+o+c):
 nuh (l.set (i+k) s2)+H32^(i+k+1)*r=N+H32^i*(x*nuh (b.take (k+1))):=by
 have e1:=nuh_set l (i+k) s2 hl
 rw[←ho] at e1
 rw[nuh_take_succ,Nat.mul_add x,Nat.mul_add (H32^i),←Nat.add_assoc,←hinv,Nat.pow_succ]
 have e2:=congrArg (H32^(i+k)* ·) hd
 simp only[Nat.mul_add] at e2
 have e3:H32^i*(x*(H32^k*lat b k))=H32^(i+k)*(x*lat b k):=by
  rw[Nat.pow_add,Nat.mul_left_comm x,Nat.mul_assoc]
 have e4:H32^(i+k)*H32*r=H32^(i+k)*(H32*r):=by rw[Nat.mul_assoc]
 rw[e3,e4]
 omega
theorem hmul_outer {l a b:List Nat} {i c:Nat} (hl:i+b.length<l.length) (h0:lat l (i+b.length)=0) (hinv:nuh l+H32^(i+b.length)*c=nuh (a.take i)*nuh b+H32^i*(lat a i*nuh b)):
 nuh (l.set (i+b.length) c)=nuh (a.take (i+1))*nuh b:=by
 have e1:=nuh_set l (i+b.length) c hl
 rw[h0] at e1
 rw[nuh_take_succ,Nat.add_mul,Nat.mul_assoc,←hinv]
 omega
open Go.RowKit
theorem nat_ne0 (x:Nat):(((x:Nat):Int) != 0)= !decide (x=0):=by
 rcases Nat.eq_zero_or_pos x with h | h
 ·subst h;rfl
 ·rw[bne_iff_ne.2 (by omega),decide_eq_false (by omega)];rfl
theorem rright_any (v:Value) (l:List Nat) (w:World) (h:IsL w v l):
 Calls Tryz.prog 115 #[v] w fun e w'=>e= .returned (.bool (decide (l=[]∨lat l (l.length - 1)≠0)))∧w=w':=by
 obtain⟨A,c,rfl,hlc,hc,hbd,hr⟩:=h
 by_cases hl:l=[]
 ·subst hl
  go_enter Tryz.func115,Tryz.ntmps115
  go_wp2
  go_ret
  exact⟨rfl,rfl⟩
 ·have h0:0<l.length:=List.length_pos_iff.2 hl
  obtain⟨ad,rfl,hb,hcell⟩:=us_cell hr (k:=l.length - 1) (by omega)
  go_enter Tryz.func115,Tryz.ntmps115
  go_wp2
  go_ret
  have e:((l.length:Int) == 0)=false:=by simp[hl]
  exact⟨ret_bool (by rw[e,nat_ne0];simp[hl]),rfl⟩
end Go.Proofs.YtdnjdglekifhpaaGreat

namespace Go.Proofs.YtdnjdglekifhpaaGreat
open Go.RowKit
theorem whole_any (v:Value) (l:List Nat) (w:World) (h:IsL w v l) (hh:Bh l) (hl:l.length≤5000000):
 Calls Tryz.prog 140 #[v] w fun e w'=>∃v',e= .returned v'∧IsN w' v' (nuh l)∧Below w.heap.size w w':=
 (whole_f v l w h hh hl).mono fun _ _ ⟨v',h1,h2,h3,_⟩=>⟨v',h1,h2,h3⟩
theorem radd_any (va vb:Value) (a b:Nat) (w:World) (ha:IsN w va a) (hb:IsN w vb b) (hla:(limbs a).length≤1000000) (hlb:(limbs b).length≤1000000):
 Calls Tryz.prog 137 #[va,vb] w fun e w'=>∃v',e= .returned v'∧IsN w' v' (a+b)∧Below w.heap.size w w':=
 (radd_f va vb a b w ha hb hla hlb).mono fun _ _ ⟨v',h1,h2,h3,_⟩=>⟨v',h1,h2,h3⟩
end Go.Proofs.YtdnjdglekifhpaaGreat
namespace Go.Proofs.YtdnjdglekifhpaaGreat
open Go.RowKit
theorem rsub_any (va vb:Value) (a b:Nat) (w:World) (ha:IsN w va a) (hb:IsN w vb b) (hla:(limbs a).length≤1000000) (hlb:(limbs b).length≤1000000) (hle:b≤a):
 Calls Tryz.prog 138 #[va,vb] w fun e w'=>∃v',e= .returned (.tuple #[v',.int .i64 0])∧IsN w' v' (a - b)∧Below w.heap.size w w':=
 (rsub_f va vb a b w ha hb hla hlb hle).mono fun _ _ ⟨v',h1,h2,h3,_⟩=>⟨v',h1,h2,h3⟩
theorem rmul_any (va vb:Value) (na nb:Nat) (w:World) (ha:IsN w va na) (hb:IsN w vb nb) (hla:(limbs na).length≤1000000) (hlb:(limbs nb).length≤1000000):
 Calls Tryz.prog 73 #[va,vb] w fun e w'=>∃v',e= .returned v'∧IsN w' v' (na*nb)∧Below w.heap.size w w':=by
 have eab:nuh (hv (limbs na))*nuh (hv (limbs nb))=na*nb:=by rw[nuh_hv,nuh_hv,num_limbs,num_limbs]
 have HA:=Lib.hid (halves2 va _ w ha hla)
 have HB:=Lib.hid (fun W (h:Below w.heap.size w W)=>halves2 vb _ W (hb.below h) hlb)
 have la:=hv_len (limbs na)
 have lb:=hv_len (limbs nb)
 rw[←eab]
 obtain⟨a,hx⟩:∃x,x=hv (limbs na):=⟨_,rfl⟩
 obtain⟨b,hy⟩:∃y,y=hv (limbs nb):=⟨_,rfl⟩
 rw[←hx] at HA la ⊢
 rw[←hy] at HB lb ⊢
 have lx:a.length≤2000000:=by omega
 have ly:b.length≤2000000:=by omega
 clear hx hy eab la lb ha hb
 have hmk:=run_make_u64 27 Tryz.underlying27 (a.length+b.length+1) ((a.length:Int)+(b.length:Int)+1) (by omega) (by omega)
 go_enter Tryz.func73,Tryz.ntmps73
 go_wp2_with fail
 refine HA.out.mono ?_
 rintro e w1 ⟨A,ca,rfl,hca,hba,hra,hb1⟩
 go_wp2_with fail
 refine (HB.out _ hb1).mono ?_
 rintro e w2 ⟨B,cb,rfl,hcb,hbb,hrb,hb2⟩
 have hra:=(hra.below hb2).more hb2.size
 have hbw:=hb1.trans (hb2.mono hb1.size)
 clear hb1 hb2
 have a0:=Arr.new w2 (zeros (a.length+b.length+1))
 have hB0:Below w2.heap.size w2 (w2.alloc (.cells (us (zeros (a.length+b.length+1))).toArray 141)):=(Below.refl _ w2).alloc (Nat.le_refl _) _
 go_wp2
 go_loopw [8] (fun i wr=>∃(k:Nat) (l:List Nat),k≤a.length∧i= .int .i64 k∧Arr wr w2.heap.size l∧Hid (l.length=a.length+b.length+1)∧Bh l∧Hid (nuh l=nuh (a.take k)*nuh b)∧Hid (∀j,k+b.length≤j→lat l j=0)∧Below w2.heap.size w2 wr) (fun i _=>a.length - (intOf i).toNat)
 case atStart=>exact⟨0,zeros (a.length+b.length+1),Nat.zero_le _,rfl,a0,zeros_len _,Bh.zeros _,Lib.hid (by rw[nuh_zeros];simp[nuh]),Lib.hid (fun j _=>lat_zeros _ _),hB0⟩
 case round=>
  obtain⟨k,l,hk,rfl,hA,hlen,hbl,hnum,hz,hB⟩:=hrel
  by_cases hlt:k<a.length
  ·obtain⟨ad,rfl,_,hxc⟩:=us_cell (hra.below hB) hlt
   have hx64:=hba.lat k
   have hxi:=hbound hba k
   obtain⟨x,hx⟩:∃x,x=lat a k:=⟨_,rfl⟩
   rw[←hx] at hxc hx64 hxi
   have Hx:=Lib.hid hx
   clear hx
   go_wp2
   go_loopw [9,10] (fun cy i wi=>∃(m c:Nat) (l':List Nat),m≤b.length∧cy= .int .u64 c∧i= .int .i64 m∧c<H32∧Arr wi w2.heap.size l'∧Hid (l'.length=a.length+b.length+1)∧Bh l'∧Hid (nuh l'+H32^(k+m)*c=nuh (a.take k)*nuh b+H32^k*(x*nuh (b.take m)))∧Hid (∀j,k+b.length≤j→lat l' j=0)∧Below w2.heap.size w2 wi) (fun _ i _=>b.length - (intOf i).toNat)
   case atStart=>exact⟨0,0,l,Nat.zero_le _,rfl,rfl,H32_pos,hA,hlen,hbl,Lib.hid (by rw[hnum.out];simp[nuh]),hz,hB⟩
   case round=>
    obtain⟨m,c,l',hm,rfl,rfl,hc64,hA',hlen',hbl',hinv,hz',hB'⟩:=hrel
    by_cases hmt:m<b.length
    ·obtain⟨bd,rfl,_,hyc⟩:=us_cell (hrb.below hB') hmt
     obtain⟨_,e,_,hxc'⟩:=us_cell (hra.below hB') hlt
     obtain rfl:=Option.some.inj e
     have hy64:=hbb.lat m
     obtain⟨y,hy⟩:∃y,y=lat b m:=⟨_,rfl⟩
     rw[←hy] at hyc hy64
     rw[←Hx.out] at hxc'
     have hoc:=hA'.cell (i:=k+m) (by rw[hlen'.out];omega)
     have hof:=hA'.frozen (k+m)
     have ho64:=hbl'.lat (k+m)
     obtain⟨o,ho⟩:∃o,o=lat l' (k+m):=⟨_,rfl⟩
     rw[←ho] at hoc ho64
     obtain⟨p,ep⟩:∃p,p=x*y:=⟨_,rfl⟩
     obtain⟨q,eq⟩:∃q,q=o+p:=⟨_,rfl⟩
     obtain⟨n,en⟩:∃n,n=q+c:=⟨_,rfl⟩
     obtain⟨d1,d2,d3,d4⟩:=hmul_digit hx64 hy64 ho64 hc64 (n:=n) (by rw[en,eq,ep])
     rw[←ep] at d4
     have w0:IntKind.u64.wrap ((x:Int)*(y:Int))=(p:Int):=by
      rw[IntKind.wrap_u64,←Int.natCast_mul,←ep];unfold W64 at d4;omega
     have w1:IntKind.u64.wrap ((o:Int)+(p:Int))=(q:Int):=by
      rw[IntKind.wrap_u64,eq];unfold W64 at d4;omega
     have w2':IntKind.u64.wrap ((q:Int)+(c:Int))=(n:Int):=by
      rw[IntKind.wrap_u64,en];unfold W64 at d1;omega
     have fin:=Lib.hid (hmul_inner (i:=k) (by rw[hlen'.out];omega) ho hinv.out (by rw[←hy];exact d2))
     have D:=Lib.hid d3
     have hn64:=hide64 n d1
     clear ep eq en d1 d2 d3 d4 hx64 hy64 ho64 hc64 ho hy hinv
     go_wp2
     go_quiet (fail)
     go_wp2
     rw[hdiv,hmod]
     refine ⟨⟨m+1,n / H32,l'.set (k+m) (n % H32),by omega,rfl,by go_num,D.out,(hA'.drewN _).set _ _,by rw[Hid,List.length_set];exact hlen'.out,hbl'.set _ (Nat.mod_lt _ H32_pos),fin,?_,(below_drewN hB' _).setCell (p:=⟨w2.heap.size,k+m,none⟩) (Nat.le_refl _) _⟩,by simp[intOf];omega⟩
     refine Lib.hid (fun j hj=>?_)
     rw[lat_set,if_neg (by omega)]
     exact hz'.out j hj
    ·obtain rfl:m=b.length:=by omega
     have hi2:k+b.length<l'.length:=by rw[hlen'.out];omega
     have hoc:=hA'.cell hi2
     have hof:=hA'.frozen (k+b.length)
     have fin:=hmul_outer (a:=a) (b:=b) (i:=k) (c:=c) hi2 (hz'.out _ (Nat.le_refl _)) (by have:=hinv.out;rwa [List.take_length,Hx.out] at this)
     have Fin:=Lib.hid fin
     have C:=Lib.hid hc64
     clear fin hi2 hc64
     go_wp2
     refine ⟨⟨k+1,l'.set (k+b.length) c,by omega,by go_num,hA'.set _ _,by rw[Hid,List.length_set];exact hlen'.out,hbl'.set _ C.out,Fin,?_,hB'.setCell (p:=⟨w2.heap.size,k+b.length,none⟩) (Nat.le_refl _) _⟩,by simp[intOf];omega⟩
     refine Lib.hid (fun j hj=>?_)
     rw[lat_set,if_neg (by omega)]
     exact hz'.out j (by omega)
  ·obtain rfl:k=a.length:=by omega
   have hres:=hA.isL hbl.bd (by rw[hlen.out];omega)
   have hl3:l.length≤5000000:=by rw[hlen.out];omega
   rw[hlen.out] at hres
   have N:=hnum.out
   rw[List.take_length] at N
   have N':=Lib.hid N
   clear N
   go_wp2_with fail
   refine (whole_any _ l _ hres hbl hl3).mono ?_
   rintro e w' ⟨r,rfl,hr,hb⟩
   go_wp2
   go_ret
   exact⟨_,rfl,by rw[←N'.out];exact hr,(hbw.trans (hB.mono hbw.size)).trans (hb.mono (Nat.le_trans hbw.size hB.size))⟩
end Go.Proofs.YtdnjdglekifhpaaGreat
namespace Go.Proofs.YtdnjdglekifhpaaGreat
open Go.RowKit
theorem bits_any (v:Value) (a:Nat) (w:World) (h:IsN w v a) (hl:(limbs a).length≤1000000):
 Calls Tryz.prog 206 #[v] w fun e w'=>e= .returned (.int .i64 (bl a:Nat))∧w=w':=by
 obtain⟨A,c,rfl,hlc,hc,hbd,hr⟩:=h
 have hrt:=limbs_rt a
 have hnum:=num_limbs a
 generalize limbs a=l at *
 subst hnum
 by_cases h0:l=[]
 ·subst h0
  go_enter Tryz.func206,Tryz.ntmps206
  go_wp2
  go_ret
  exact⟨ret_int (by rw[num,bl_zero];rfl),rfl⟩
 ·have hp:0<l.length:=List.length_pos_iff.2 h0
  obtain⟨ad,rfl,_,hx⟩:=us_cell hr (k:=l.length - 1) (by omega)
  have e:=Lib.hid (bl_num hbd hrt h0)
  have hb64:=bl_le_iff.2 (show lat l (l.length - 1)<2^64 from hbd.lat _)
  have e1:((l.length:Int) == 0)=false:=by simp[h0]
  have hb:=hbd.lat (l.length - 1)
  clear h0 hrt
  go_enter Tryz.func206,Tryz.ntmps206
  go_wp2_with ((with_reducible refine (len64_any _ hb _).mono ?_);rintro e w' ⟨rfl,rfl⟩)
  go_ret
  exact⟨ret_int (by rw[e.out];omega),rfl⟩
end Go.Proofs.YtdnjdglekifhpaaGreat

namespace Go.Proofs.YtdnjdglekifhpaaGreat
open Go.RowKit
section
variable {w w':World} {v:Value} {n R:Nat} {l:List Nat} {t t':TypeId} {cs cs':Array Value}
theorem Two.far3 {g:Nat} (h:Two w g t cs t' cs') (x y z:Value):Two (((w.setCell ⟨g+1+1,0,none⟩ x).setCell ⟨g+1+1,1,none⟩ y).setCell ⟨g+1+1,2,none⟩ z) g t cs t' cs':=
 ⟨((h.1.far1 (by omega) x).far1 (by omega) y).far1 (by omega) z,((h.2.far1 (by omega) x).far1 (by omega) y).far1 (by omega) z⟩
theorem Blk.far3 {g:Nat} (h:Blk w g t cs) (x y z:Value):Blk (((w.setCell ⟨g+1,0,none⟩ x).setCell ⟨g+1,1,none⟩ y).setCell ⟨g+1,2,none⟩ z) g t cs:=((h.far1 (by omega) x).far1 (by omega) y).far1 (by omega) z
end
end Go.Proofs.YtdnjdglekifhpaaGreat
namespace Go.Proofs.YtdnjdglekifhpaaGreat
open Go.RowKit
attribute [local go_sem ↓] Go.wp_at_zero Go.wp_at_succ
theorem rzneg_any (v:Value) (z:Int) (w:World) (h:IsZ w v z):
 Calls Tryz.prog 142 #[v] w fun e w'=>∃v',e= .returned v'∧IsZ w' v' (-z)∧Below w.heap.size w w':=by
 obtain⟨nv,rfl,hn⟩:=h
 have hM:=fun w hn=>rmade_any (!decide (z<0)) nv z.natAbs w hn
 have hz:sided (!decide (z<0)) z.natAbs= -z:=by
  unfold sided;by_cases h:z<0<;>simp[h]<;>omega
 rw[hz] at hM
 obtain⟨c,hc⟩:∃c,c= -z:=⟨_,rfl⟩
 rw[←hc] at hM ⊢
 clear hz hc
 generalize decide (z<0)=b at *
 generalize z.natAbs=n at *
 obtain⟨W0,hW,hT,hB⟩:=box2 w 30 30 #[.bool b,nv] #[.bool false,.slice none 0 0]
 have hn:=hn.below hB
 obtain⟨g,hg⟩:∃g,g=w.heap.size:=⟨_,rfl⟩
 have hW':=Lib.hid (And.intro hW hg)
 rw[←hg] at hT
 clear hW hg
 go_enter Tryz.func142,Tryz.ntmps142
 go_wp2_with fail
 rw[←hW'.out.1,←hW'.out.2]
 refine (hM _ hn).mono ?_
 rintro e w1 ⟨v1,rfl,⟨n1,rfl,h1⟩,b1⟩
 obtain⟨A1,L1,C1,rfl⟩:=h1.frm
 have hT:=hT.b b1
 have hB:=hB.trans (b1.mono hB.size)
 have hR:=hT.2
 have q0:=hR.cell 0
 have q1:=hR.cell 1
 have z0:=hR.frozen 0
 have z1:=hR.frozen 1
 obtain⟨p1,p2,p3⟩:=put2 hR (.bool (decide (c<0))) (.slice A1 L1 C1) (by simp[noU]) hB (by rw[hW'.out.2];omega)
 have P:=Lib.hid (And.intro (p2 _ _ h1) p3)
 clear p1 p2 p3 hR hM
 go_wp2
 exact bodyPost_ret (v:= .agg #[.bool (decide (c<0)),.slice A1 L1 C1]) (by simp[results,Tryz.results142,go_sem,q0,q1]) rfl ⟨_,rfl,⟨_,rfl,P.out.1⟩,P.out.2⟩
theorem rzmul_any (va vb:Value) (a b:Int) (w:World) (ha:IsZ w va a) (hb:IsZ w vb b) (sa:Sz a.natAbs 400000) (sb:Sz b.natAbs 400000):
 Calls Tryz.prog 77 #[va,vb] w fun e w'=>∃v',e= .returned v'∧IsZ w' v' (a*b)∧Below w.heap.size w w':=by
 obtain⟨na,rfl,ha⟩:=ha
 obtain⟨nb,rfl,hb⟩:=hb
 have hMul:=fun w ha hb=>rmul_any na nb a.natAbs b.natAbs w ha hb (sa.fin (by omega)) (sb.fin (by omega))
 have hM:=fun v w hn=>rmade_any (decide (a<0) != decide (b<0)) v (a.natAbs*b.natAbs) w hn
 have hz:=mul_sided a b
 rw[hz] at hM
 obtain⟨c,hc⟩:∃c,c=a*b:=⟨_,rfl⟩
 rw[←hc] at hM ⊢
 clear hz hc
 generalize decide (a<0)=s1 at *
 generalize decide (b<0)=s2 at *
 generalize a.natAbs*b.natAbs=n at *
 generalize a.natAbs=x at *
 generalize b.natAbs=y at *
 obtain⟨W0,hW,hT,hR,hB⟩:=box3 w 30 30 30 #[.bool s1,na] #[.bool s2,nb] #[.bool false,.slice none 0 0]
 have ha:=ha.below hB
 have hb:=hb.below hB
 obtain⟨g,hg⟩:∃g,g=w.heap.size:=⟨_,rfl⟩
 have hW':=Lib.hid (And.intro hW hg)
 rw[←hg] at hT hR
 clear hW hg
 go_enter Tryz.func77,Tryz.ntmps77
 go_wp2
 rw[←hW'.out.1,←hW'.out.2]
 go_region_held3 (fun w'=>w'.cell? ⟨g,0,none⟩=some (.bool s1)∧w'.cell? ⟨g,1,none⟩=some na∧w'.cell? ⟨g+1,0,none⟩=some (.bool s2)∧w'.cell? ⟨g+1,1,none⟩=some nb) (first | exact Two.cells22 (by assumption) | exact Two.cells22 (Two.far2 (by assumption) _ _))
  (first
   | (go_at_call 73;refine (hMul _ ?_ ?_).mono ?_;exact ha;exact hb;rintro x w1 ⟨v1,rfl,h1,b1⟩;have b1:=undrew b1;have hT1:=hT.below b1 hT.lt;have hR1:=hR.below b1 hR.lt;have hB1:=hB.trans (b1.mono hB.size))
   | (go_at_call 136;refine (hM _ _ ?_).mono ?_;exact h1;rintro x w2 ⟨v2,rfl,⟨n2,rfl,h2⟩,b2⟩;obtain⟨A2,L2,C2,rfl⟩:=h2.frm;have hT2:=hT1.below b2 hT1.lt;have hR2:=hR1.below b2 hR1.lt;have hB2:=hB1.trans (b2.mono hB1.size);have q0:=hR2.cell 0;have q1:=hR2.cell 1;have z0:=hR2.frozen 0;have z1:=hR2.frozen 1))
 obtain⟨p1,p2,p3⟩:=put2 hR2 (.bool (decide (c<0))) (.slice A2 L2 C2) (by simp[noU]) hB2 (by rw[hW'.out.2];omega)
 have P:=Lib.hid (And.intro (p2 _ _ h2) (And.intro p3 p1.cells2))
 clear p1 p2 p3
 go_wp2
 obtain⟨P1,P2,P3,P4⟩:=P.out
 exact bodyPost_ret (v:= .agg #[.bool (decide (c<0)),.slice A2 L2 C2]) (by simp[results,Tryz.results77,go_sem,P3,P4]) rfl ⟨_,rfl,⟨_,rfl,P1⟩,P2⟩
end Go.Proofs.YtdnjdglekifhpaaGreat
namespace Go.Proofs.YtdnjdglekifhpaaGreat
def cmpQ (a b:Rat):Int:=cmpI (a.num*b.den) (b.num*a.den)
end Go.Proofs.YtdnjdglekifhpaaGreat
namespace Go.Proofs.YtdnjdglekifhpaaGreat
theorem pow_row (n:Nat):num ((zeros (n / 64+1)).set (n / 64) (2^(n % 64)))=2^n∧Bd ((zeros (n / 64+1)).set (n / 64) (2^(n % 64)))∧Rt ((zeros (n / 64+1)).set (n / 64) (2^(n % 64))):=by
 have hp:2^(n % 64)<W64:=Nat.pow_lt_pow_right (a:=2) (m:=n % 64) (n:=64) (by omega) (Nat.mod_lt _ (by omega))
 refine ⟨?_,(Bd.zeros _).set _ hp,.inr ?_⟩
 ·have:=num_set (zeros (n / 64+1)) (n / 64) (2^(n % 64)) (by rw[zeros_len];omega)
  rw[lat_zeros,num_zeros,Nat.mul_zero,Nat.add_zero,Nat.zero_add,W64_pow,←Nat.pow_add] at this
  rw[this];congr 1;omega
 ·rw[lat_set,List.length_set,zeros_len,if_pos ⟨by omega,by omega⟩]
  have :0<2^(n % 64):=Nat.pow_pos (by omega)
  omega
end Go.Proofs.YtdnjdglekifhpaaGreat
namespace Go.Proofs.YtdnjdglekifhpaaGreat
open Go.RowKit
theorem IsN.of_row {w:World} {g n:Nat} {l:List Nat} (h:Arr w g l) (hb:Bd l) (hr:Rt l) (hn:num l=n) (hl:l.length≤10000000):IsN w (.slice (some ⟨g,0,none⟩) l.length l.length) n:=by
 have:=h.isL hb (by omega)
 unfold IsN;rw[←hn,limbs_num l hb hr];exact this
theorem power2_any (n:Nat) (hn:n≤20000) (w:World):
 Calls Tryz.prog 190 #[.int .i64 n] w fun e w'=>∃v',e= .returned v'∧IsN w' v' (2^n)∧Below w.heap.size w w':=by
 obtain⟨r1,r2,r3⟩:=pow_row n
 have R:=Lib.hid (And.intro r1 (And.intro r2 r3))
 have rl:((zeros (n / 64+1)).set (n / 64) (2^(n % 64))).length=n / 64+1:=by rw[List.length_set,zeros_len]
 have RL:=Lib.hid rl
 have zl:=zeros_len (n / 64+1)
 have hp:∀k,k<64→2^k<W64:=fun k hk=>Nat.pow_lt_pow_right (a:=2) (m:=k) (n:=64) (by omega) hk
 have HP:=Lib.hid hp
 have a0:=Arr.new w (zeros (n / 64+1))
 have c0:=a0.cell (i:=n / 64) (by rw[zl];omega)
 have f0:=a0.frozen (n / 64)
 have B0:Below w.heap.size w (w.alloc (.cells (us (zeros (n / 64+1))).toArray 141)):=(Below.refl _ w).alloc (Nat.le_refl _) _
 have hmk:=run_make_u64 28 Tryz.underlying28 (n / 64+1) ((n:Int) / 64+1) (by omega) (by omega)
 clear r1 r2 r3 rl zl hp
 go_enter Tryz.func190,Tryz.ntmps190
 go_wp2
 have W0z:(w.alloc (.cells (us (zeros (n / 64+1))).toArray 141)).heap.size=w.heap.size+1:=by simp
 generalize w.alloc (.cells (us (zeros (n / 64+1))).toArray 141)=W0 at *
 clear W0z
 go_loop [4,5] (fun o i=>∃k:Nat,k≤n % 64∧i= .int .i64 k∧o= .int .u64 ((2^k:Nat):Int)) (fun _ i=>n % 64 - (intOf i).toNat)
 case atStart=>exact⟨0,by omega,rfl,rfl⟩
 case round=>
  obtain⟨k,hk,rfl,rfl⟩:=hrel
  by_cases hlt:k<n % 64
  ·have h1:(k:Int)<(n:Int) % 64:=by omega
   have hb:=HP.out (k+1) (by omega)
   obtain⟨x,hx⟩:∃x,x=2^k:=⟨_,rfl⟩
   have hx2:2^(k+1)=x*2:=by rw[hx,Nat.pow_succ]
   rw[hx2] at hb
   rw[←hx]
   have hb':((x:Nat):Int)≤9223372036854775807:=by unfold W64 at hb;omega
   have X:=Lib.hid hx2
   clear hx hx2 hb
   go_wp2
   go_round
   case rel=>exact⟨k+1,by omega,by go_num,by rw[X.out];go_num⟩
   case measure=>simp[intOf];omega
  ·obtain rfl:k=n % 64:=by omega
   have h1:¬(((n % 64:Nat):Int)<(n:Int) % 64):=by omega
   have g0:(0:Int)≤(n:Int) / 64:=by omega
   have g1:(n:Int) / 64<(((n / 64+1:Nat)):Int):=by omega
   have g2:((n:Int) / 64).toNat=n / 64:=by omega
   obtain⟨r1,r2,r3⟩:=R.out
   have hA:=a0.set (n / 64) (2^(n % 64))
   have:=IsN.of_row hA r2 r3 r1 (by rw[RL.out];omega)
   rw[RL.out] at this
   generalize 2^(n % 64)=x at *
   have T:=Lib.hid this
   clear this r1 r2 r3 hA
   go_wp2
   go_ret
   exact⟨_,rfl,T.out,B0.setCell (p:=⟨w.heap.size,n / 64,none⟩) (Nat.le_refl _) _⟩
theorem shl_any (v:Value) (a n:Nat) (hn:n≤20000) (w:World) (h:IsN w v a) (hl:Sz a 1000000):
 Calls Tryz.prog 141 #[v,.int .i64 n] w fun e w'=>∃v',e= .returned (.tuple #[v',.int .i64 0])∧IsN w' v' (a*2^n)∧Below w.heap.size w w':=by
 have hP:=fun w=>power2_any n hn w
 have hs:(limbs (2^n)).length≤1000000:=(Sz.two_pow n).fin (by omega)
 have hM:=fun vb w (ha:IsN w v a) (hb:IsN w vb (2^n))=>rmul_any v vb a (2^n) w ha hb hl hs
 generalize 2^n=p at *
 clear hs
 go_enter Tryz.func141,Tryz.ntmps141
 go_wp2_with fail
 refine (hP _).mono ?_
 rintro e w1 ⟨v1,rfl,h1,b1⟩
 have h:=h.below b1
 go_wp2_with fail
 refine (hM _ _ h h1).mono ?_
 rintro e w2 ⟨v2,rfl,h2,b2⟩
 go_wp2
 go_ret2
 exact⟨_,rfl,h2,b1.trans (b2.mono b1.size)⟩
end Go.Proofs.YtdnjdglekifhpaaGreat

namespace Go.Proofs.YtdnjdglekifhpaaGreat
open Go.RowKit
attribute [local go_sem ↓] Go.wp_at_zero Go.wp_at_succ
theorem cmp_sided (a b:Int):cmpI a b=if decide (a<0)=decide (b<0) then (if decide (a<0)=true then -cmpI a.natAbs b.natAbs else cmpI a.natAbs b.natAbs) else if decide (a<0)=true then -1 else 1:=by
 unfold cmpI
 by_cases ha:a<0<;>by_cases hb:b<0<;>simp only[ha,hb,decide_true,decide_false,if_true,if_false,Bool.false_eq_true,Bool.true_eq_false]<;>(repeat' split)<;>omega
theorem rzcmp_any (va vb:Value) (a b:Int) (w:World) (ha:IsZ w va a) (hb:IsZ w vb b):
 Calls Tryz.prog 79 #[va,vb] w fun e w'=>e= .returned (.int .i64 (cmpI a b))∧Below w.heap.size w w':=by
 rw[cmp_sided]
 obtain⟨na,rfl,ha⟩:=ha
 obtain⟨nb,rfl,hb⟩:=hb
 have hC:=fun w ha hb=>rcmp_n na nb a.natAbs b.natAbs w ha hb
 have hbd: -1≤cmpI (a.natAbs:Int) (b.natAbs:Int)∧cmpI (a.natAbs:Int) (b.natAbs:Int)≤1:=by unfold cmpI;split<;>(try split)<;>omega
 generalize cmpI (a.natAbs:Int) (b.natAbs:Int)=c at *
 generalize decide (a<0)=s1 at *
 generalize decide (b<0)=s2 at *
 obtain⟨W0,hW,hT,hB⟩:=box2 w 30 30 #[.bool s1,na] #[.bool s2,nb]
 obtain⟨g,hg⟩:∃g,g=w.heap.size:=⟨_,rfl⟩
 have hW':=Lib.hid (And.intro hW hg)
 rw[←hg] at hT
 clear hW hg
 have ha:=ha.below hB
 have hb:=hb.below hB
 obtain⟨k1,k2⟩:=hbd
 have HB:=Lib.hid hB
 rcases s1<;>rcases s2
 all_goals
  go_enter Tryz.func79,Tryz.ntmps79
  go_wp2_with fail
  try (
   rw[←hW'.out.1,←hW'.out.2]
   refine (hC _ ha hb).mono ?_
   rintro e w1 ⟨rfl,n1,rfl⟩
   have hT:=hT.below (below_drewN (Below.refl _ _) n1) hT.lt
   have HB:=Lib.hid (below_drewN hB n1)
   obtain⟨q0,q1,q2,q3⟩:=hT.cells22
   go_wp2)
  go_ret
  exact⟨rfl,by first | exact HB.out | (have:=HB.out;rw[hW'.out.1] at this;exact this)⟩
end Go.Proofs.YtdnjdglekifhpaaGreat
namespace Go.Proofs.YtdnjdglekifhpaaGreat
open Go.RowKit
attribute [local go_sem ↓] Go.wp_at_zero Go.wp_at_succ
theorem rzadd_any (va vb:Value) (a b:Int) (w:World) (ha:IsZ w va a) (hb:IsZ w vb b) (sa:Sz a.natAbs 400000) (sb:Sz b.natAbs 400000):
 Calls Tryz.prog 71 #[va,vb] w fun e w'=>∃v',e= .returned v'∧IsZ w' v' (a+b)∧Below w.heap.size w w':=by
 obtain⟨na,rfl,ha⟩:=ha
 obtain⟨nb,rfl,hb⟩:=hb
 have hAdd:=fun w ha hb=>radd_any na nb a.natAbs b.natAbs w ha hb (sa.fin (by omega)) (sb.fin (by omega))
 have hSab:=fun w ha hb h=>rsub_any na nb a.natAbs b.natAbs w ha hb (sa.fin (by omega)) (sb.fin (by omega)) h
 have hSba:=fun w ha hb h=>rsub_any nb na b.natAbs a.natAbs w hb ha (sb.fin (by omega)) (sa.fin (by omega)) h
 have hC:=fun w ha hb=>rcmp_n na nb a.natAbs b.natAbs w ha hb
 have hM:=fun s v n w hn=>rmade_any s v n w hn
 obtain⟨c,hc⟩:∃c,c=a+b:=⟨_,rfl⟩
 rw[←hc]
 rw[←sided_of a,←sided_of b] at hc
 generalize decide (a<0)=s1 at *
 generalize decide (b<0)=s2 at *
 generalize a.natAbs=x at *
 generalize b.natAbs=y at *
 obtain⟨W0,hW,hT,hR,hB⟩:=box3 w 30 30 30 #[.bool s1,na] #[.bool s2,nb] #[.bool false,.slice none 0 0]
 obtain⟨g,hg⟩:∃g,g=w.heap.size:=⟨_,rfl⟩
 have hW':=Lib.hid (And.intro hW hg)
 rw[←hg] at hT hR
 clear hW hg
 have ha:=ha.below hB
 have hb:=hb.below hB
 have CT:=hT.cells22
 by_cases hs:s1=s2
 ·subst hs
  rw[sided_add_same] at hc
  have hM:=fun v w hn=>hM s1 v (x+y) w hn
  rw[←hc] at hM
  clear hc hSab hSba hC
  have hAdd:=fun w ha hb=>hAdd w ha hb
  generalize x+y=n at *
  obtain⟨q00,q01,q10,q11⟩:=CT
  go_enter Tryz.func71,Tryz.ntmps71
  go_wp2
  rw[←hW'.out.1,←hW'.out.2]
  go_region_held3 (fun w'=>w'.cell? ⟨g,0,none⟩=some (.bool s1)∧w'.cell? ⟨g,1,none⟩=some na∧w'.cell? ⟨g+1,0,none⟩=some (.bool s1)∧w'.cell? ⟨g+1,1,none⟩=some nb) (first | exact Two.cells22 (by assumption) | exact Two.cells22 (Two.far2 (by assumption) _ _))
   (first
    | (go_at_call 137;refine (hAdd _ ?_ ?_).mono ?_;exact ha;exact hb;rintro x w1 ⟨v1,rfl,h1,b1⟩;have b1:=undrew b1;have hT1:=hT.below b1 hT.lt;have hR1:=hR.below b1 hR.lt;have hB1:=hB.trans (b1.mono hB.size))
    | (go_at_call 136;refine (hM _ _ ?_).mono ?_;exact h1;rintro x w2 ⟨v2,rfl,⟨n2,rfl,h2⟩,b2⟩;obtain⟨A2,L2,C2,rfl⟩:=h2.frm;have hT2:=hT1.below b2 hT1.lt;have hR2:=hR1.below b2 hR1.lt;have hB2:=hB1.trans (b2.mono hB1.size);have q0:=hR2.cell 0;have q1:=hR2.cell 1;have z0:=hR2.frozen 0;have z1:=hR2.frozen 1))
  obtain⟨p1,p2,p3⟩:=put2 hR2 (.bool (decide (c<0))) (.slice A2 L2 C2) (by simp[noU]) hB2 (by rw[hW'.out.2];omega)
  have q0:=hR2.cell 0
  have z0:=hR2.frozen 0
  have q1:=hR2.cell 1
  have z1:=hR2.frozen 1
  have P:=Lib.hid (And.intro (⟨_,rfl,p2 _ _ h2⟩:IsZ _ (.agg #[.bool (decide (c<0)),.slice A2 L2 C2]) c) (And.intro p3 p1.cells2))
  clear p1 p2 p3
  go_wp2
  obtain⟨P1,P2,P3,P4⟩:=P.out
  exact bodyPost_ret (v:= .agg #[.bool (decide (c<0)),.slice A2 L2 C2]) (by simp[results,Tryz.results71,go_sem,P3,P4]) rfl ⟨_,rfl,P1,P2⟩
 ·by_cases hle:y≤x
  ·rw[sided_add_ge _ _ _ _ hs hle] at hc
   have hSab:=fun w ha hb=>hSab w ha hb hle
   have hM:=fun v w hn=>hM s1 v (x - y) w hn
   rw[←hc] at hM
   clear hc
   generalize x - y=n at *
   obtain⟨q00,q01,q10,q11⟩:=CT
   have hne:(s1 == s2)=false:=by simpa using hs
   have hne2:decide (s1=s2)=false:=decide_eq_false hs
   have HS:=Lib.hid hs
   clear hs
   have hk:(0:Int)≤cmpI (x:Int) (y:Int):=by unfold cmpI;split<;>(try split)<;>omega
   generalize cmpI (x:Int) (y:Int)=k at *
   go_enter Tryz.func71,Tryz.ntmps71
   go_wp2_with fail
   rw[←hW'.out.1,←hW'.out.2]
   refine (hC _ ha hb).mono ?_
   rintro e w1 ⟨rfl,n1,rfl⟩
   have d1:=below_drewN (Below.refl W0.heap.size W0) n1
   have ha:=ha.below d1
   have hb:=hb.below d1
   have hT:=hT.b d1
   have hR:=hR.b d1
   have hB:=below_drewN hB n1
   generalize W0.drewN n1=w1 at *
   obtain⟨q00,q01,q10,q11⟩:=hT.cells22
   go_wp2_with fail
   refine (hSab _ ha hb).mono ?_
   rintro e w2 ⟨v2,rfl,h2,b2⟩
   have hT:=hT.b b2
   have hR:=hR.b b2
   have hB:=hB.trans (b2.mono hB.size)
   obtain⟨q00,q01,q10,q11⟩:=hT.cells22
   go_wp2_with fail
   refine (hM _ _ h2).mono ?_
   rintro e w3 ⟨v3,rfl,⟨n3,rfl,h3⟩,b3⟩
   obtain⟨A3,L3,C3,rfl⟩:=h3.frm
   have hR:=hR.b b3
   have hB:=hB.trans (b3.mono hB.size)
   clear hM hAdd
   obtain⟨p1,p2,p3⟩:=put2 hR (.bool (decide (c<0))) (.slice A3 L3 C3) (by simp[noU]) hB (by rw[hW'.out.2];omega)
   have q0:=hR.cell 0
   have z0:=hR.frozen 0
   have q1:=hR.cell 1
   have z1:=hR.frozen 1
   have P:=Lib.hid (And.intro (⟨_,rfl,p2 _ _ h3⟩:IsZ _ (.agg #[.bool (decide (c<0)),.slice A3 L3 C3]) c) (And.intro p3 p1.cells2))
   clear p1 p2 p3
   go_wp2
   obtain⟨P1,P2,P3,P4⟩:=P.out
   exact bodyPost_ret (v:= .agg #[.bool (decide (c<0)),.slice A3 L3 C3]) (by simp[results,Tryz.results71,go_sem,P3,P4]) rfl ⟨_,rfl,P1,P2⟩
  ·rw[sided_add_lt _ _ _ _ hs (by omega)] at hc
   have hSba:=fun w ha hb=>hSba w ha hb (by omega)
   have hM:=fun v w hn=>hM s2 v (y - x) w hn
   rw[←hc] at hM
   clear hc
   generalize y - x=n at *
   obtain⟨q00,q01,q10,q11⟩:=CT
   have hne:(s1 == s2)=false:=by simpa using hs
   have hne2:decide (s1=s2)=false:=decide_eq_false hs
   have HS:=Lib.hid hs
   clear hs
   have hk:cmpI (x:Int) (y:Int)<0:=by unfold cmpI;split<;>(try split)<;>omega
   generalize cmpI (x:Int) (y:Int)=k at *
   go_enter Tryz.func71,Tryz.ntmps71
   go_wp2_with fail
   rw[←hW'.out.1,←hW'.out.2]
   refine (hC _ ha hb).mono ?_
   rintro e w1 ⟨rfl,n1,rfl⟩
   have d1:=below_drewN (Below.refl W0.heap.size W0) n1
   have ha:=ha.below d1
   have hb:=hb.below d1
   have hT:=hT.b d1
   have hR:=hR.b d1
   have hB:=below_drewN hB n1
   generalize W0.drewN n1=w1 at *
   obtain⟨q00,q01,q10,q11⟩:=hT.cells22
   go_wp2_with fail
   refine (hSba _ ha hb).mono ?_
   rintro e w2 ⟨v2,rfl,h2,b2⟩
   have hT:=hT.b b2
   have hR:=hR.b b2
   have hB:=hB.trans (b2.mono hB.size)
   obtain⟨q00,q01,q10,q11⟩:=hT.cells22
   go_wp2_with fail
   refine (hM _ _ h2).mono ?_
   rintro e w3 ⟨v3,rfl,⟨n3,rfl,h3⟩,b3⟩
   obtain⟨A3,L3,C3,rfl⟩:=h3.frm
   have hR:=hR.b b3
   have hB:=hB.trans (b3.mono hB.size)
   clear hM hAdd
   obtain⟨p1,p2,p3⟩:=put2 hR (.bool (decide (c<0))) (.slice A3 L3 C3) (by simp[noU]) hB (by rw[hW'.out.2];omega)
   have q0:=hR.cell 0
   have z0:=hR.frozen 0
   have q1:=hR.cell 1
   have z1:=hR.frozen 1
   have P:=Lib.hid (And.intro (⟨_,rfl,p2 _ _ h3⟩:IsZ _ (.agg #[.bool (decide (c<0)),.slice A3 L3 C3]) c) (And.intro p3 p1.cells2))
   clear p1 p2 p3
   go_wp2
   obtain⟨P1,P2,P3,P4⟩:=P.out
   exact bodyPost_ret (v:= .agg #[.bool (decide (c<0)),.slice A3 L3 C3]) (by simp[results,Tryz.results71,go_sem,P3,P4]) rfl ⟨_,rfl,P1,P2⟩
end Go.Proofs.YtdnjdglekifhpaaGreat
namespace Go.Proofs.YtdnjdglekifhpaaGreat
open Go.RowKit
attribute [local go_sem ↓] Go.wp_at_zero Go.wp_at_succ
theorem rqover_any (vp vq:Value) (p:Int) (q:Nat) (w:World) (hp:IsZ w vp p) (hq:IsN w vq q) (sp:Sz p.natAbs 400000) (sq:Sz q 400000):
 Calls Tryz.prog 72 #[vp,vq] w fun e w'=>∃v',e= .returned v'∧IsZ w' v' (p*(q:Int))∧Below w.heap.size w w':=by
 have hM:=fun w va vb ha hb=>rzmul_any va vb p (q:Int) w ha hb sp (by simpa using sq)
 have hZ:∀w,IsN w vq q→IsZ w (.agg #[.bool false,vq]) (q:Int):=fun w h=>⟨vq,by rw[decide_eq_false (by omega)],by simpa using h⟩
 have hp0:=hp
 obtain⟨np,rfl,hp⟩:=hp
 obtain⟨Aq,Lq,Cq,rfl⟩:=hq.frm
 obtain⟨Ap,Lp,Cp,rfl⟩:=hp.frm
 obtain⟨c,hc⟩:∃c,c=p*(q:Int):=⟨_,rfl⟩
 rw[←hc] at hM ⊢
 have HZ:=Lib.hid hZ
 clear hc hZ sp sq
 generalize decide (p<0)=b at *
 obtain⟨W0,hW,hT,hB⟩:=box2 w 30 30 #[.bool b,.slice Ap Lp Cp] #[.bool false,.slice none 0 0]
 obtain⟨g,hg⟩:∃g,g=w.heap.size:=⟨_,rfl⟩
 have hW':=Lib.hid (And.intro hW hg)
 rw[←hg] at hT
 clear hW hg
 have hp0:=hp0.below hB
 have hq:=HZ.out _ (hq.below hB)
 obtain⟨q00,q01⟩:=hT.1.cells2
 go_enter Tryz.func72,Tryz.ntmps72
 go_wp2_with fail
 rw[←hW'.out.1,←hW'.out.2]
 refine (hM _ _ _ hp0 hq).mono ?_
 rintro e w1 ⟨v1,rfl,⟨n1,rfl,h1⟩,b1⟩
 obtain⟨A2,L2,C2,rfl⟩:=h1.frm
 have hT:=hT.b b1
 have hB:=hB.trans (b1.mono hB.size)
 have hR:=hT.2
 obtain⟨p1,p2,p3⟩:=put2 hR (.bool (decide (c<0))) (.slice A2 L2 C2) (by simp[noU]) hB (by rw[hW'.out.2];omega)
 have q0:=hR.cell 0
 have z0:=hR.frozen 0
 have q1:=hR.cell 1
 have z1:=hR.frozen 1
 have P:=Lib.hid (And.intro (⟨_,rfl,p2 _ _ h1⟩:IsZ _ (.agg #[.bool (decide (c<0)),.slice A2 L2 C2]) c) (And.intro p3 p1.cells2))
 clear p1 p2 p3 hM
 go_wp2
 obtain⟨P1,P2,P3,P4⟩:=P.out
 exact bodyPost_ret (v:= .agg #[.bool (decide (c<0)),.slice A2 L2 C2]) (by simp[results,Tryz.results72,go_sem,P3,P4]) rfl ⟨_,rfl,P1,P2⟩
end Go.Proofs.YtdnjdglekifhpaaGreat
namespace Go.Proofs.YtdnjdglekifhpaaGreat
open Go.RowKit
section
variable {w:World} {R:Nat} {t:TypeId}
theorem put6 {a b c d e f:Value} (hR:Blk w R t #[a,b,c,d,e,f]) (x y z p q r:Value) (hcs:(#[a,b,c,d,e,f]:Array Value).all noU=true) {B:Nat} {w0:World} (hB:Below B w0 w) (hBR:B≤R):
 Blk ((((((w.setCell ⟨R,0,none⟩ x).setCell ⟨R,1,none⟩ y).setCell ⟨R,2,none⟩ z).setCell ⟨R,3,none⟩ p).setCell ⟨R,4,none⟩ q).setCell ⟨R,5,none⟩ r) R t #[x,y,z,p,q,r]∧(∀v n,IsN w v n→IsN ((((((w.setCell ⟨R,0,none⟩ x).setCell ⟨R,1,none⟩ y).setCell ⟨R,2,none⟩ z).setCell ⟨R,3,none⟩ p).setCell ⟨R,4,none⟩ q).setCell ⟨R,5,none⟩ r) v n)∧Below B w0 ((((((w.setCell ⟨R,0,none⟩ x).setCell ⟨R,1,none⟩ y).setCell ⟨R,2,none⟩ z).setCell ⟨R,3,none⟩ p).setCell ⟨R,4,none⟩ q).setCell ⟨R,5,none⟩ r):=by
 obtain⟨W,rfl,h1,h2,h3,h4⟩:=fill6 hR x y z p q r hcs
 exact⟨h1,fun v n h=>h2 _ _ h,h4 _ _ hBR hB⟩
theorem Blk.cells6 {g:Nat} {a b c d e f:Value} (h:Blk w g t #[a,b,c,d,e,f]):w.cell? ⟨g,0,none⟩=some a∧w.cell? ⟨g,1,none⟩=some b∧w.cell? ⟨g,2,none⟩=some c∧w.cell? ⟨g,3,none⟩=some d∧w.cell? ⟨g,4,none⟩=some e∧w.cell? ⟨g,5,none⟩=some f:=⟨h.cell 0,h.cell 1,h.cell 2,h.cell 3,h.cell 4,h.cell 5⟩
end
section
variable {w w':World} {es:List Eq3} {rs:List Rat} {v:Value}
theorem flatQ_len:∀es:List Eq3,(flatQ es).length=es.length*3
 | []=>rfl
 | e :: r => by
   have:=flatQ_len r
   unfold flatQ at *
   rw[List.flatMap_cons,List.length_append,this]
   simp[cellsQ];omega
end
attribute [local go_sem ↓] Go.wp_at_zero Go.wp_at_succ
theorem cmp_sided2 (a b:Int):cmpI a b=if decide (a<0)=true∧decide (b<0)=false then -1 else if decide (b<0)=true∧decide (a<0)=false then 1 else if decide (a<0)=true then cmpI b.natAbs a.natAbs else cmpI a.natAbs b.natAbs:=by
 unfold cmpI
 by_cases ha:a<0<;>by_cases hb:b<0<;>simp only[ha,hb,decide_true,decide_false,and_self,and_true,and_false,if_true,if_false,Bool.false_eq_true,Bool.true_eq_false]<;>(repeat' split)<;>omega
theorem pzcmp_any (va vb:Value) (a b:Int) (w:World) (ha:IsZ w va a) (hb:IsZ w vb b):
 Calls Tryz.prog 210 #[va,vb] w fun e w'=>e= .returned (.int .i64 (cmpI a b))∧Below w.heap.size w w':=by
 rw[cmp_sided2]
 obtain⟨na,rfl,ha⟩:=ha
 obtain⟨nb,rfl,hb⟩:=hb
 have hC:=fun w ha hb=>cmp_any na nb a.natAbs b.natAbs w ha hb
 have hD:=fun w ha hb=>cmp_any nb na b.natAbs a.natAbs w ha hb
 generalize cmpI (a.natAbs:Int) (b.natAbs:Int)=c at *
 generalize cmpI (b.natAbs:Int) (a.natAbs:Int)=d at *
 generalize decide (a<0)=s1 at *
 generalize decide (b<0)=s2 at *
 rcases s1 with _ | _
 ·rcases s2 with _ | _
  ·obtain⟨W0,hW,hT,hB⟩:=box2 w 30 30 #[.bool false,na] #[.bool false,nb]
   obtain⟨g,hg⟩:∃g,g=w.heap.size:=⟨_,rfl⟩
   have hW':=Lib.hid (And.intro hW hg)
   rw[←hg] at hT
   have hgw:w.heap.size≤g:=by omega
   clear hW hg
   obtain⟨hX,hY⟩:=hT
   replace ha:=ha.b hB
   replace hb:=hb.b hB
   obtain⟨c1_hX_0,c1_hX_1⟩:=hX.cells2
   obtain⟨c1_hY_0,c1_hY_1⟩:=hY.cells2
   go_enter Tryz.func210,Tryz.ntmps210
   go_wp2_with fail
   rw[←hW'.out.1,←hW'.out.2]
   refine (hC _ ha hb).mono ?_
   rintro e w1 ⟨rfl,b1⟩
   replace ha:=ha.b b1
   replace hb:=hb.b b1
   replace hX:=hX.b b1
   replace hY:=hY.b b1
   replace hB:=bOn hB b1
   clear c1_hX_0 c1_hX_1 c1_hY_0 c1_hY_1
   obtain⟨c2_hX_0,c2_hX_1⟩:=hX.cells2
   obtain⟨c2_hY_0,c2_hY_1⟩:=hY.cells2
   go_wp2
   go_ret
   exact⟨rfl,hB⟩
  ·obtain⟨W0,hW,hT,hB⟩:=box2 w 30 30 #[.bool false,na] #[.bool true,nb]
   obtain⟨g,hg⟩:∃g,g=w.heap.size:=⟨_,rfl⟩
   have hW':=Lib.hid (And.intro hW hg)
   rw[←hg] at hT
   have hgw:w.heap.size≤g:=by omega
   clear hW hg
   obtain⟨hX,hY⟩:=hT
   replace ha:=ha.b hB
   replace hb:=hb.b hB
   obtain⟨c1_hX_0,c1_hX_1⟩:=hX.cells2
   obtain⟨c1_hY_0,c1_hY_1⟩:=hY.cells2
   go_enter Tryz.func210,Tryz.ntmps210
   go_wp2
   go_ret
   exact⟨rfl,by have:=hB;rw[hW'.out.1] at this;exact this⟩
 ·rcases s2 with _ | _
  ·obtain⟨W0,hW,hT,hB⟩:=box2 w 30 30 #[.bool true,na] #[.bool false,nb]
   obtain⟨g,hg⟩:∃g,g=w.heap.size:=⟨_,rfl⟩
   have hW':=Lib.hid (And.intro hW hg)
   rw[←hg] at hT
   have hgw:w.heap.size≤g:=by omega
   clear hW hg
   obtain⟨hX,hY⟩:=hT
   replace ha:=ha.b hB
   replace hb:=hb.b hB
   obtain⟨c1_hX_0,c1_hX_1⟩:=hX.cells2
   obtain⟨c1_hY_0,c1_hY_1⟩:=hY.cells2
   go_enter Tryz.func210,Tryz.ntmps210
   go_wp2
   go_ret
   exact⟨rfl,by have:=hB;rw[hW'.out.1] at this;exact this⟩
  ·obtain⟨Aa,La,Ca,rfl⟩:=ha.frm
   obtain⟨Ab,Lb,Cb,rfl⟩:=hb.frm
   obtain⟨W0,hW,hT,hB⟩:=box2 w 30 30 #[.bool true,.slice Ab Lb Cb] #[.bool true,.slice Aa La Ca]
   obtain⟨g,hg⟩:∃g,g=w.heap.size:=⟨_,rfl⟩
   have hW':=Lib.hid (And.intro hW hg)
   rw[←hg] at hT
   have hgw:w.heap.size≤g:=by omega
   clear hW hg
   obtain⟨hX,hY⟩:=hT
   replace ha:=ha.b hB
   replace hb:=hb.b hB
   obtain⟨c1_hX_0,c1_hX_1⟩:=hX.cells2
   obtain⟨c1_hY_0,c1_hY_1⟩:=hY.cells2
   go_enter Tryz.func210,Tryz.ntmps210
   go_wp2_with fail
   rw[←hW'.out.1,←hW'.out.2]
   refine (hD _ hb ha).mono ?_
   rintro e w1 ⟨rfl,b1⟩
   replace ha:=ha.b b1
   replace hb:=hb.b b1
   replace hX:=hX.b b1
   replace hY:=hY.b b1
   replace hB:=bOn hB b1
   clear c1_hX_0 c1_hX_1 c1_hY_0 c1_hY_1
   obtain⟨c2_hX_0,c2_hX_1⟩:=hX.cells2
   obtain⟨c2_hY_0,c2_hY_1⟩:=hY.cells2
   go_wp2
   go_ret
   exact⟨rfl,hB⟩
def rightZ (b:Bool) (l:List Nat):Bool:=decide (l=[]∨lat l (l.length - 1)≠0) && !(b && decide (l.length=0))
end Go.Proofs.YtdnjdglekifhpaaGreat
namespace Go.Proofs.YtdnjdglekifhpaaGreat
open Go.RowKit
attribute [local go_sem ↓] Go.wp_at_zero Go.wp_at_succ
theorem rqcmp_any (va vb:Value) (a b:Rat) (w:World) (ha:IsQ w va a) (hb:IsQ w vb b) (sa:BQ a 10000) (sb:BQ b 10000):
 Calls Tryz.prog 28 #[va,vb] w fun e w'=>e= .returned (.int .i64 (cmpQ a b))∧Below w.heap.size w w':=by
 obtain⟨pa,qa,rfl,hpa,hqa⟩:=ha
 have hza:IsZ w (.agg #[.bool (decide (a.num<0)),pa]) a.num:=⟨_,rfl,hpa⟩
 obtain⟨pb,qb,rfl,hpb,hqb⟩:=hb
 have hzb:IsZ w (.agg #[.bool (decide (b.num<0)),pb]) b.num:=⟨_,rfl,hpb⟩
 have hO1:=fun w hp hq=>rqover_any (.agg #[.bool (decide (a.num<0)),pa]) qb a.num b.den w hp hq (sa.1.more (by omega)) (sb.2.more (by omega))
 have hO2:=fun w hp hq=>rqover_any (.agg #[.bool (decide (b.num<0)),pb]) qa b.num a.den w hp hq (sb.1.more (by omega)) (sa.2.more (by omega))
 have hC:=fun u v w hu hv=>rzcmp_any u v (a.num*b.den) (b.num*a.den) w hu hv
 rw[show cmpQ a b=cmpI (a.num*b.den) (b.num*a.den) from rfl]
 generalize cmpI (a.num*b.den) (b.num*a.den)=c at *
 generalize a.num*(b.den:Int)=m1 at *
 generalize b.num*(a.den:Int)=m2 at *
 generalize a.num=na at *
 generalize b.num=nb at *
 clear hpa hpb sa sb
 generalize decide (na<0)=sa at *
 generalize decide (nb<0)=sb at *
 obtain⟨W0,hW,hT,hB⟩:=box2 w 32 32 #[.bool sa,pa,qa] #[.bool sb,pb,qb]
 obtain⟨g,hg⟩:∃g,g=w.heap.size:=⟨_,rfl⟩
 have hW':=Lib.hid (And.intro hW hg)
 rw[←hg] at hT
 clear hW hg
 have hza:=hza.below hB
 have hzb:=hzb.below hB
 have hqa:=hqa.below hB
 have hqb:=hqb.below hB
 go_enter Tryz.func28,Tryz.ntmps28
 go_wp2
 rw[←hW'.out.1,←hW'.out.2]
 go_region_held3 (fun w'=>w'.cell? ⟨g,0,none⟩=some (.bool sa)∧w'.cell? ⟨g,1,none⟩=some pa∧w'.cell? ⟨g,2,none⟩=some qa∧w'.cell? ⟨g+1,0,none⟩=some (.bool sb)∧w'.cell? ⟨g+1,1,none⟩=some pb∧w'.cell? ⟨g+1,2,none⟩=some qb) (exact Two.cells33 (hT.below (by first | assumption | exact balloc (by assumption) _ | exact bdrew _ | exact balloc (bdrew _) _) hT.lt))
  (first
   | (go_at_call 72;(with_reducible refine (hO1 _ ?_ ?_).mono ?_);exact hza.below (by first | assumption | exact balloc (by assumption) _ | exact bdrew _ | exact balloc (bdrew _) _);exact hqb.below (by first | assumption | exact balloc (by assumption) _ | exact bdrew _ | exact balloc (bdrew _) _);rintro x w1 ⟨v1,rfl,h1,b1⟩;have B1:=bstep (by first | assumption | exact balloc (by assumption) _ | exact bdrew _ | exact balloc (bdrew _) _) b1)
   | (go_at_call 72;(with_reducible refine (hO2 _ ?_ ?_).mono ?_);exact hzb.below (by first | assumption | exact balloc (by assumption) _ | exact bdrew _ | exact balloc (bdrew _) _);exact hqa.below (by first | assumption | exact balloc (by assumption) _ | exact bdrew _ | exact balloc (bdrew _) _);rintro x w2 ⟨v2,rfl,h2,b2⟩;have B2:=bstep (by first | assumption | exact balloc (by assumption) _ | exact bdrew _ | exact balloc (bdrew _) _) b2;have h1:=h1.below (by first | exact b2 | exact bstep (balloc (Below.refl _ _) _) b2))
   | (go_at_call 79;(with_reducible refine (hC _ _ _ ?_ ?_).mono ?_);exact h1.below (by first | exact Below.refl _ _ | exact balloc (Below.refl _ _) _);exact h2.below (by first | exact Below.refl _ _ | exact balloc (Below.refl _ _) _);rintro x w3 ⟨rfl,b3⟩;have B3:=bstep (by first | assumption | exact balloc (by assumption) _ | exact bdrew _ | exact balloc (bdrew _) _) b3))
 go_wp2
 go_ret
 exact⟨rfl,hB.trans (B3.mono hB.size)⟩
theorem rqneg_any (v:Value) (a:Rat) (w:World) (ha:IsQ w v a):
 Calls Tryz.prog 78 #[v] w fun e w'=>∃v',e= .returned v'∧IsQ w' v' (-a)∧Below w.heap.size w w':=by
 obtain⟨pa,qa,rfl,hpa,hqa⟩:=ha
 have hza:IsZ w (.agg #[.bool (decide (a.num<0)),pa]) a.num:=⟨_,rfl,hpa⟩
 have hN:=fun w hz=>rzneg_any (.agg #[.bool (decide (a.num<0)),pa]) a.num w hz
 obtain⟨c,hc⟩:∃c,c= -a.num:=⟨_,rfl⟩
 have KEY:Hid (∀w' b x y,IsN w' x c.natAbs→IsN w' y a.den→b=decide (c<0)→IsQ w' (.agg #[.bool b,x,y]) (-a)):=by
  rw[hc];rintro w' b x y h1 h2 rfl;exact⟨x,y,rfl,h1,h2⟩
 rw[←hc] at hN
 clear hc hpa
 generalize a.num=na at *
 generalize a.den=da at *
 generalize decide (na<0)=sa at *
 obtain⟨Aq,Lq,Cq,rfl⟩:=hqa.frm
 obtain⟨W0,hW,hT,hB⟩:=box2 w 32 32 #[.bool sa,pa,.slice Aq Lq Cq] #[.bool false,.slice none 0 0,.slice none 0 0]
 obtain⟨g,hg⟩:∃g,g=w.heap.size:=⟨_,rfl⟩
 have hW':=Lib.hid (And.intro hW hg)
 rw[←hg] at hT
 clear hW hg
 have hza:=hza.below hB
 have hqa:=hqa.below hB
 go_enter Tryz.func78,Tryz.ntmps78
 go_wp2
 rw[←hW'.out.1,←hW'.out.2]
 go_region_held3 (fun w'=>w'.cell? ⟨g,0,none⟩=some (.bool sa)∧w'.cell? ⟨g,1,none⟩=some pa∧w'.cell? ⟨g,2,none⟩=some (.slice Aq Lq Cq)) (first | exact Blk.cells3 (hT.1.below (by first | assumption | exact balloc (by assumption) _ | exact bdrew _ | exact balloc (bdrew _) _) hT.1.lt) | exact Blk.cells3 (Blk.far3 (hT.1.below (by first | assumption | exact balloc (by assumption) _ | exact bdrew _ | exact balloc (bdrew _) _) hT.1.lt) _ _ _))
  (first
   | (go_at_call 142;(with_reducible refine (hN _ ?_).mono ?_);exact hza.below (by first | assumption | exact balloc (by assumption) _ | exact bdrew _ | exact balloc (bdrew _) _);rintro x w1 ⟨v1,rfl,⟨n1,rfl,h1⟩,b1⟩;obtain⟨A1,L1,C1,rfl⟩:=h1.frm;have B1:=bstep (by first | assumption | exact balloc (by assumption) _ | exact bdrew _ | exact balloc (bdrew _) _) b1;have hqa1:=hqa.below B1;have hR1:=hT.2.below B1 hT.2.lt;have q0:=hR1.cell 0;have q1:=hR1.cell 1;have q2:=hR1.cell 2;have z0:=hR1.frozen 0;have z1:=hR1.frozen 1;have z2:=hR1.frozen 2))
 obtain⟨p1,p2,p3⟩:=put3 hR1 (.bool (decide (c<0))) (.slice A1 L1 C1) (.slice Aq Lq Cq) (by simp[noU]) (hB.trans (B1.mono hB.size)) (by rw[hW'.out.2];omega)
 have q0:=hR1.cell 0
 have z0:=hR1.frozen 0
 have q1:=hR1.cell 1
 have z1:=hR1.frozen 1
 have q2:=hR1.cell 2
 have z2:=hR1.frozen 2
 have P:=Lib.hid (And.intro (KEY.out _ _ _ _ (p2 _ _ h1) (p2 _ _ hqa1) rfl) (And.intro p3 p1.cells3))
 clear p1 p2 p3 hN
 go_wp2
 obtain⟨P1,P2,P3,P4,P5⟩:=P.out
 exact bodyPost_ret (v:= .agg #[.bool (decide (c<0)),.slice A1 L1 C1,.slice Aq Lq Cq]) (by simp[results,Tryz.results78,go_sem,P3,P4,P5]) rfl ⟨_,rfl,P1,P2⟩
end Go.Proofs.YtdnjdglekifhpaaGreat
namespace Go.Proofs.YtdnjdglekifhpaaGreat
open Go.RowKit
attribute [local go_sem ↓] Go.wp_at_zero Go.wp_at_succ
theorem rqmul_any (va vb:Value) (a b:Rat) (w:World) (ha:IsQ w va a) (hb:IsQ w vb b) (sa:BQ a 10000) (sb:BQ b 10000):
 Calls Tryz.prog 25 #[va,vb] w fun e w'=>∃v',e= .returned v'∧IsQ w' v' (a*b)∧Below w.heap.size w w':=by
 have hda:0<a.den:=Rat.den_pos a
 have hdb:0<b.den:=Rat.den_pos b
 obtain⟨pa,qa,rfl,hpa,hqa⟩:=ha
 have hza:IsZ w (.agg #[.bool (decide (a.num<0)),pa]) a.num:=⟨_,rfl,hpa⟩
 obtain⟨pb,qb,rfl,hpb,hqb⟩:=hb
 have hzb:IsZ w (.agg #[.bool (decide (b.num<0)),pb]) b.num:=⟨_,rfl,hpb⟩
 have hA:=fun w hu hv=>rzmul_any (.agg #[.bool (decide (a.num<0)),pa]) (.agg #[.bool (decide (b.num<0)),pb]) a.num b.num w hu hv (sa.1.more (by omega)) (sb.1.more (by omega))
 have hM:=fun w hu hv=>rmul_any qa qb a.den b.den w hu hv (sa.2.fin (by omega)) (sb.2.fin (by omega))
 have hK:=fun u v w hu hv=>rqmake_any u v (a.num*b.num) (a.den*b.den) w hu hv ((sa.1.imul sb.1).more (by omega)) ((sa.2.mul sb.2).more (by omega)) (Nat.mul_pos hda hdb)
 rw[←Rat.mul_def'] at hK
 obtain⟨r,hr⟩:∃r,r=a*b:=⟨_,rfl⟩
 rw[←hr] at hK ⊢
 clear hr
 generalize a.num*b.num=m3 at *
 generalize a.den*b.den=d at *
 generalize a.num=na at *
 generalize b.num=nb at *
 generalize a.den=da at *
 generalize b.den=db at *
 clear hpa hpb sa sb hda hdb
 generalize decide (na<0)=sa at *
 generalize decide (nb<0)=sb at *
 obtain⟨W0,hW,hT,hR,hB⟩:=box3 w 32 32 32 #[.bool sa,pa,qa] #[.bool sb,pb,qb] #[.bool false,.slice none 0 0,.slice none 0 0]
 obtain⟨g,hg⟩:∃g,g=w.heap.size:=⟨_,rfl⟩
 have hW':=Lib.hid (And.intro hW hg)
 rw[←hg] at hT hR
 clear hW hg
 have hza:=hza.below hB
 have hzb:=hzb.below hB
 have hqa:=hqa.below hB
 have hqb:=hqb.below hB
 have hgw:w.heap.size≤g:=by rw[hW'.out.2];omega
 go_enter Tryz.func25,Tryz.ntmps25
 go_upto_region 1 with fail
 rw[←hW'.out.1,←hW'.out.2]
 go_cut [5] (fun s wx=>∃(X:Nat) (A1 A2:Option Addr) (L1 L2 C1 C2:Nat),s= .pointer (some ⟨X,0,none⟩)∧Blk wx X 32 #[.bool (decide (r.num<0)),.slice A1 L1 C1,.slice A2 L2 C2]∧IsN wx (.slice A1 L1 C1) r.num.natAbs∧IsN wx (.slice A2 L2 C2) r.den∧Blk wx (g+1+1) 32 #[.bool false,.slice none 0 0,.slice none 0 0]∧Below w.heap.size w wx)
 case first=>
  go_region_held3 (fun w'=>w'.cell? ⟨g,0,none⟩=some (.bool sa)∧w'.cell? ⟨g,1,none⟩=some pa∧w'.cell? ⟨g,2,none⟩=some qa∧w'.cell? ⟨g+1,0,none⟩=some (.bool sb)∧w'.cell? ⟨g+1,1,none⟩=some pb∧w'.cell? ⟨g+1,2,none⟩=some qb) (first | exact Two.cells33 (hT.below (by first | assumption | exact balloc (by assumption) _ | exact bdrew _ | exact balloc (bdrew _) _) hT.lt) | exact Two.cells33 (hT.below (bset (bset (bset (by assumption) (by assumption) _) (by assumption) _) (by assumption) _) hT.lt))
   (first
    | (go_at_call 77;(with_reducible refine (hA _ ?_ ?_).mono ?_);exact hza.below (by first | assumption | exact balloc (by assumption) _ | exact bdrew _ | exact balloc (bdrew _) _);exact hzb.below (by first | assumption | exact balloc (by assumption) _ | exact bdrew _ | exact balloc (bdrew _) _);rintro x w3 ⟨v3,rfl,h3,b3⟩;(first | ((first | have hXX:=newX b3 W0 (by first | assumption | exact bdrew _) | have hXX:=newX (undrew b3) W0 (by first | exact Below.refl _ _ | assumption));obtain⟨hX,sX⟩:=hXX;try simp only[World.size_drew] at hX sX) | (have hX:=hX.below b3 hX.lt) | skip);have B3:=bstep (a:=W0) (by first | assumption | exact balloc (by assumption) _ | exact bdrew _ | exact balloc (bdrew _) _) b3)
    | (go_at_call 73;(with_reducible refine (hM _ ?_ ?_).mono ?_);exact hqa.below (by first | assumption | exact balloc (by assumption) _ | exact bdrew _ | exact balloc (bdrew _) _);exact hqb.below (by first | assumption | exact balloc (by assumption) _ | exact bdrew _ | exact balloc (bdrew _) _);rintro x w4 ⟨v4,rfl,h4,b4⟩;(first | ((first | have hXX:=newX b4 W0 (by first | assumption | exact bdrew _) | have hXX:=newX (undrew b4) W0 (by first | exact Below.refl _ _ | assumption));obtain⟨hX,sX⟩:=hXX;try simp only[World.size_drew] at hX sX) | (have hX:=hX.below b4 hX.lt) | skip);have B4:=bstep (a:=W0) (by first | assumption | exact balloc (by assumption) _ | exact bdrew _ | exact balloc (bdrew _) _) b4;have h3:=h3.below (by first | exact b4 | exact bstep (balloc (Below.refl _ _) _) b4))
    | (go_at_call 70;(with_reducible refine (hK _ _ _ ?_ ?_).mono ?_);exact h3.below (by first | exact Below.refl _ _ | exact balloc (Below.refl _ _) _);exact h4.below (by first | exact Below.refl _ _ | exact balloc (Below.refl _ _) _);rintro x w5 ⟨v5,rfl,⟨n5,d5,rfl,h5,k5⟩,b5⟩;(first | ((first | have hXX:=newX b5 W0 (by first | assumption | exact bdrew _) | have hXX:=newX (undrew b5) W0 (by first | exact Below.refl _ _ | assumption));obtain⟨hX,sX⟩:=hXX;try simp only[World.size_drew] at hX sX) | (have hX:=hX.below b5 hX.lt) | skip);have B5:=bstep (a:=W0) (by first | assumption | exact balloc (by assumption) _ | exact bdrew _ | exact balloc (bdrew _) _) b5;obtain⟨A1,L1,C1,rfl⟩:=h5.frm;obtain⟨A2,L2,C2,rfl⟩:=k5.frm;(try (have x0:=hX.cell 0;have x1:=hX.cell 1;have x2:=hX.cell 2;have y0:=hX.frozen 0;have y1:=hX.frozen 1;have y2:=hX.frozen 2))))
  all_goals (go_wp2_with fail;go_meet)
  all_goals
   have hRlt:=hR.lt
   have hR:=hR.b B5
   have hB0:=hB
   have hB:=hB.trans (B5.mono hB.size)
   have hsz:=hT.lt
   first
    | exact⟨_,_,_,_,_,_,_,rfl,Blk.new _ _ _,h5.below (balloc (Below.refl _ _) _),k5.below (balloc (Below.refl _ _) _),hR.alloc _,hB.alloc hB.size _⟩
    | (obtain ⟨p1, p2, p3⟩ := put3 hX (.bool (decide (r.num < 0))) (.slice A1 L1 C1) (.slice A2 L2 C2) (by simp [noU]) hB (Nat.le_trans hB0.size (by first | assumption | exact Nat.le_refl _))
       exact⟨_,_,_,_,_,_,_,rfl,p1,p2 _ _ h5,p2 _ _ k5,hR.farX (Nat.ne_of_lt (Nat.lt_of_lt_of_le hRlt (by first | assumption | exact Nat.le_refl _))) _ _ _,p3⟩)
 obtain⟨X,A1,A2,L1,L2,C1,C2,rfl,hX,h1,h2,hR,hB⟩:=hcut
 obtain⟨x0,x1,x2⟩:=hX.cells3
 obtain⟨p1,p2,p3⟩:=put3 hR (.bool (decide (r.num<0))) (.slice A1 L1 C1) (.slice A2 L2 C2) (by simp[noU]) hB (by omega)
 have q0:=hR.cell 0
 have z0:=hR.frozen 0
 have q1:=hR.cell 1
 have z1:=hR.frozen 1
 have q2:=hR.cell 2
 have z2:=hR.frozen 2
 have P:=Lib.hid (And.intro (⟨_,_,rfl,p2 _ _ h1,p2 _ _ h2⟩:IsQ _ (.agg #[.bool (decide (r.num<0)),.slice A1 L1 C1,.slice A2 L2 C2]) r) (And.intro p3 p1.cells3))
 clear p1 p2 p3
 go_wp2
 obtain⟨P1,P2,P3,P4,P5⟩:=P.out
 exact bodyPost_ret (v:= .agg #[.bool (decide (r.num<0)),.slice A1 L1 C1,.slice A2 L2 C2]) (by simp[results,Tryz.results25,go_sem,P3,P4,P5]) rfl ⟨_,rfl,P1,P2⟩
end Go.Proofs.YtdnjdglekifhpaaGreat
namespace Go.Proofs.YtdnjdglekifhpaaGreat
open Go.RowKit
attribute [local go_sem ↓] Go.wp_at_zero Go.wp_at_succ
theorem rqadd_any (va vb:Value) (a b:Rat) (w:World) (ha:IsQ w va a) (hb:IsQ w vb b) (sa:BQ a 10000) (sb:BQ b 10000):
 Calls Tryz.prog 23 #[va,vb] w fun e w'=>∃v',e= .returned v'∧IsQ w' v' (a+b)∧Below w.heap.size w w':=by
 have hda:0<a.den:=Rat.den_pos a
 have hdb:0<b.den:=Rat.den_pos b
 obtain⟨pa,qa,rfl,hpa,hqa⟩:=ha
 have hza:IsZ w (.agg #[.bool (decide (a.num<0)),pa]) a.num:=⟨_,rfl,hpa⟩
 obtain⟨pb,qb,rfl,hpb,hqb⟩:=hb
 have hzb:IsZ w (.agg #[.bool (decide (b.num<0)),pb]) b.num:=⟨_,rfl,hpb⟩
 have hO1:=fun w hp hq=>rqover_any (.agg #[.bool (decide (a.num<0)),pa]) qb a.num b.den w hp hq (sa.1.more (by omega)) (sb.2.more (by omega))
 have hO2:=fun w hp hq=>rqover_any (.agg #[.bool (decide (b.num<0)),pb]) qa b.num a.den w hp hq (sb.1.more (by omega)) (sa.2.more (by omega))
 have s1:Sz (a.num*(b.den:Int)).natAbs 20000:=sa.1.imul (b:=(b.den:Int)) (by simpa using sb.2)
 have s2:Sz (b.num*(a.den:Int)).natAbs 20000:=sb.1.imul (b:=(a.den:Int)) (by simpa using sa.2)
 have hA:=fun u v w hu hv=>rzadd_any u v (a.num*(b.den:Int)) (b.num*(a.den:Int)) w hu hv (s1.more (by omega)) (s2.more (by omega))
 have hM:=fun w hu hv=>rmul_any qa qb a.den b.den w hu hv (sa.2.fin (by omega)) (sb.2.fin (by omega))
 have hK:=fun u v w hu hv=>rqmake_any u v (a.num*(b.den:Int)+b.num*(a.den:Int)) (a.den*b.den) w hu hv ((s1.iadd s2).more (by omega)) ((sa.2.mul sb.2).more (by omega)) (Nat.mul_pos hda hdb)
 rw[←Rat.add_def'] at hK
 obtain⟨r,hr⟩:∃r,r=a+b:=⟨_,rfl⟩
 rw[←hr] at hK ⊢
 clear hr s1 s2
 generalize a.num*(b.den:Int)+b.num*(a.den:Int)=m3 at *
 generalize a.num*(b.den:Int)=m1 at *
 generalize b.num*(a.den:Int)=m2 at *
 generalize a.den*b.den=d at *
 generalize a.num=na at *
 generalize b.num=nb at *
 generalize a.den=da at *
 generalize b.den=db at *
 clear hpa hpb sa sb hda hdb
 generalize decide (na<0)=sa at *
 generalize decide (nb<0)=sb at *
 obtain⟨W0,hW,hT,hR,hB⟩:=box3 w 32 32 32 #[.bool sa,pa,qa] #[.bool sb,pb,qb] #[.bool false,.slice none 0 0,.slice none 0 0]
 obtain⟨g,hg⟩:∃g,g=w.heap.size:=⟨_,rfl⟩
 have hW':=Lib.hid (And.intro hW hg)
 rw[←hg] at hT hR
 clear hW hg
 have hza:=hza.below hB
 have hzb:=hzb.below hB
 have hqa:=hqa.below hB
 have hqb:=hqb.below hB
 have hgw:w.heap.size≤g:=by rw[hW'.out.2];omega
 go_enter Tryz.func23,Tryz.ntmps23
 go_upto_region 1 with fail
 rw[←hW'.out.1,←hW'.out.2]
 go_cut [5] (fun s wx=>∃(X:Nat) (A1 A2:Option Addr) (L1 L2 C1 C2:Nat),s= .pointer (some ⟨X,0,none⟩)∧Blk wx X 32 #[.bool (decide (r.num<0)),.slice A1 L1 C1,.slice A2 L2 C2]∧IsN wx (.slice A1 L1 C1) r.num.natAbs∧IsN wx (.slice A2 L2 C2) r.den∧Blk wx (g+1+1) 32 #[.bool false,.slice none 0 0,.slice none 0 0]∧Below w.heap.size w wx)
 case first=>
  go_region_held3 (fun w'=>w'.cell? ⟨g,0,none⟩=some (.bool sa)∧w'.cell? ⟨g,1,none⟩=some pa∧w'.cell? ⟨g,2,none⟩=some qa∧w'.cell? ⟨g+1,0,none⟩=some (.bool sb)∧w'.cell? ⟨g+1,1,none⟩=some pb∧w'.cell? ⟨g+1,2,none⟩=some qb) (first | exact Two.cells33 (hT.below (by first | assumption | exact balloc (by assumption) _ | exact bdrew _ | exact balloc (bdrew _) _) hT.lt) | exact Two.cells33 (hT.below (bset (bset (bset (by assumption) (by assumption) _) (by assumption) _) (by assumption) _) hT.lt))
   (first
    | (go_at_call 72;(with_reducible refine (hO1 _ ?_ ?_).mono ?_);exact hza.below (by first | assumption | exact balloc (by assumption) _ | exact bdrew _ | exact balloc (bdrew _) _);exact hqb.below (by first | assumption | exact balloc (by assumption) _ | exact bdrew _ | exact balloc (bdrew _) _);rintro x w1 ⟨v1,rfl,h1,b1⟩;(first | ((first | have hXX:=newX b1 W0 (by first | assumption | exact bdrew _) | have hXX:=newX (undrew b1) W0 (by first | exact Below.refl _ _ | assumption));obtain⟨hX,sX⟩:=hXX;try simp only[World.size_drew] at hX sX) | (have hX:=hX.below b1 hX.lt) | skip);have B1:=bstep (a:=W0) (by first | assumption | exact balloc (by assumption) _ | exact bdrew _ | exact balloc (bdrew _) _) b1)
    | (go_at_call 72;(with_reducible refine (hO2 _ ?_ ?_).mono ?_);exact hzb.below (by first | assumption | exact balloc (by assumption) _ | exact bdrew _ | exact balloc (bdrew _) _);exact hqa.below (by first | assumption | exact balloc (by assumption) _ | exact bdrew _ | exact balloc (bdrew _) _);rintro x w2 ⟨v2,rfl,h2,b2⟩;(first | ((first | have hXX:=newX b2 W0 (by first | assumption | exact bdrew _) | have hXX:=newX (undrew b2) W0 (by first | exact Below.refl _ _ | assumption));obtain⟨hX,sX⟩:=hXX;try simp only[World.size_drew] at hX sX) | (have hX:=hX.below b2 hX.lt) | skip);have B2:=bstep (a:=W0) (by first | assumption | exact balloc (by assumption) _ | exact bdrew _ | exact balloc (bdrew _) _) b2;have h1:=h1.below (by first | exact b2 | exact bstep (balloc (Below.refl _ _) _) b2))
    | (go_at_call 71;(with_reducible refine (hA _ _ _ ?_ ?_).mono ?_);exact h1.below (by first | exact Below.refl _ _ | exact balloc (Below.refl _ _) _);exact h2.below (by first | exact Below.refl _ _ | exact balloc (Below.refl _ _) _);rintro x w3 ⟨v3,rfl,h3,b3⟩;(first | ((first | have hXX:=newX b3 W0 (by first | assumption | exact bdrew _) | have hXX:=newX (undrew b3) W0 (by first | exact Below.refl _ _ | assumption));obtain⟨hX,sX⟩:=hXX;try simp only[World.size_drew] at hX sX) | (have hX:=hX.below b3 hX.lt) | skip);have B3:=bstep (a:=W0) (by first | assumption | exact balloc (by assumption) _ | exact bdrew _ | exact balloc (bdrew _) _) b3)
    | (go_at_call 73;(with_reducible refine (hM _ ?_ ?_).mono ?_);exact hqa.below (by first | assumption | exact balloc (by assumption) _ | exact bdrew _ | exact balloc (bdrew _) _);exact hqb.below (by first | assumption | exact balloc (by assumption) _ | exact bdrew _ | exact balloc (bdrew _) _);rintro x w4 ⟨v4,rfl,h4,b4⟩;(first | ((first | have hXX:=newX b4 W0 (by first | assumption | exact bdrew _) | have hXX:=newX (undrew b4) W0 (by first | exact Below.refl _ _ | assumption));obtain⟨hX,sX⟩:=hXX;try simp only[World.size_drew] at hX sX) | (have hX:=hX.below b4 hX.lt) | skip);have B4:=bstep (a:=W0) (by first | assumption | exact balloc (by assumption) _ | exact bdrew _ | exact balloc (bdrew _) _) b4;have h3:=h3.below (by first | exact b4 | exact bstep (balloc (Below.refl _ _) _) b4))
    | (go_at_call 70;(with_reducible refine (hK _ _ _ ?_ ?_).mono ?_);exact h3.below (by first | exact Below.refl _ _ | exact balloc (Below.refl _ _) _);exact h4.below (by first | exact Below.refl _ _ | exact balloc (Below.refl _ _) _);rintro x w5 ⟨v5,rfl,⟨n5,d5,rfl,h5,k5⟩,b5⟩;(first | ((first | have hXX:=newX b5 W0 (by first | assumption | exact bdrew _) | have hXX:=newX (undrew b5) W0 (by first | exact Below.refl _ _ | assumption));obtain⟨hX,sX⟩:=hXX;try simp only[World.size_drew] at hX sX) | (have hX:=hX.below b5 hX.lt) | skip);have B5:=bstep (a:=W0) (by first | assumption | exact balloc (by assumption) _ | exact bdrew _ | exact balloc (bdrew _) _) b5;obtain⟨A1,L1,C1,rfl⟩:=h5.frm;obtain⟨A2,L2,C2,rfl⟩:=k5.frm;(try (have x0:=hX.cell 0;have x1:=hX.cell 1;have x2:=hX.cell 2;have y0:=hX.frozen 0;have y1:=hX.frozen 1;have y2:=hX.frozen 2))))
  all_goals (go_wp2_with fail;go_meet)
  all_goals
   have hRlt:=hR.lt
   have hR:=hR.b B5
   have hB0:=hB
   have hB:=hB.trans (B5.mono hB.size)
   have hsz:=hT.lt
   first
    | exact⟨_,_,_,_,_,_,_,rfl,Blk.new _ _ _,h5.below (balloc (Below.refl _ _) _),k5.below (balloc (Below.refl _ _) _),hR.alloc _,hB.alloc hB.size _⟩
    | (obtain ⟨p1, p2, p3⟩ := put3 hX (.bool (decide (r.num < 0))) (.slice A1 L1 C1) (.slice A2 L2 C2) (by simp [noU]) hB (Nat.le_trans hB0.size (by first | assumption | exact Nat.le_refl _))
       exact⟨_,_,_,_,_,_,_,rfl,p1,p2 _ _ h5,p2 _ _ k5,hR.farX (Nat.ne_of_lt (Nat.lt_of_lt_of_le hRlt (by first | assumption | exact Nat.le_refl _))) _ _ _,p3⟩)
 obtain⟨X,A1,A2,L1,L2,C1,C2,rfl,hX,h1,h2,hR,hB⟩:=hcut
 obtain⟨x0,x1,x2⟩:=hX.cells3
 obtain⟨p1,p2,p3⟩:=put3 hR (.bool (decide (r.num<0))) (.slice A1 L1 C1) (.slice A2 L2 C2) (by simp[noU]) hB (by omega)
 have q0:=hR.cell 0
 have z0:=hR.frozen 0
 have q1:=hR.cell 1
 have z1:=hR.frozen 1
 have q2:=hR.cell 2
 have z2:=hR.frozen 2
 have P:=Lib.hid (And.intro (⟨_,_,rfl,p2 _ _ h1,p2 _ _ h2⟩:IsQ _ (.agg #[.bool (decide (r.num<0)),.slice A1 L1 C1,.slice A2 L2 C2]) r) (And.intro p3 p1.cells3))
 clear p1 p2 p3
 go_wp2
 obtain⟨P1,P2,P3,P4,P5⟩:=P.out
 exact bodyPost_ret (v:= .agg #[.bool (decide (r.num<0)),.slice A1 L1 C1,.slice A2 L2 C2]) (by simp[results,Tryz.results23,go_sem,P3,P4,P5]) rfl ⟨_,rfl,P1,P2⟩
end Go.Proofs.YtdnjdglekifhpaaGreat
namespace Go.Proofs.YtdnjdglekifhpaaGreat
open Go.RowKit
attribute [local go_sem ↓] Go.wp_at_zero Go.wp_at_succ
theorem rqsub_any (va vb:Value) (a b:Rat) (w:World) (ha:IsQ w va a) (hb:IsQ w vb b) (sa:BQ a 10000) (sb:BQ b 10000):
 Calls Tryz.prog 26 #[va,vb] w fun e w'=>∃v',e= .returned v'∧IsQ w' v' (a - b)∧Below w.heap.size w w':=by
 have hN:=fun w hb=>rqneg_any vb b w hb
 have hA:=fun u w ha hu=>rqadd_any va u a (-b) w ha hu sa sb.neg
 rw[←Rat.sub_eq_add_neg] at hA
 have ha0:=ha
 have hb0:=hb
 obtain⟨pa,qa,rfl,hpa,hqa⟩:=ha
 have hza:IsZ w (.agg #[.bool (decide (a.num<0)),pa]) a.num:=⟨_,rfl,hpa⟩
 obtain⟨pb,qb,rfl,hpb,hqb⟩:=hb
 have hzb:IsZ w (.agg #[.bool (decide (b.num<0)),pb]) b.num:=⟨_,rfl,hpb⟩
 obtain⟨r,hr⟩:∃r,r=a - b:=⟨_,rfl⟩
 rw[←hr] at hA ⊢
 clear hr hza hzb hpa hpb hqa hqb sa sb
 obtain⟨W0,hW,hT,hR,hB⟩:=box3 w 32 32 32 #[.bool (decide (a.num<0)),pa,qa] #[.bool (decide (b.num<0)),pb,qb] #[.bool false,.slice none 0 0,.slice none 0 0]
 obtain⟨g,hg⟩:∃g,g=w.heap.size:=⟨_,rfl⟩
 have hW':=Lib.hid (And.intro hW hg)
 rw[←hg] at hT hR
 clear hW hg
 have ha0:=ha0.below hB
 have hb0:=hb0.below hB
 go_enter Tryz.func26,Tryz.ntmps26
 go_wp2
 rw[←hW'.out.1,←hW'.out.2]
 go_region_held3 (fun w'=>w'.cell? ⟨g,0,none⟩=some (.bool (decide (a.num<0)))∧w'.cell? ⟨g,1,none⟩=some pa∧w'.cell? ⟨g,2,none⟩=some qa∧w'.cell? ⟨g+1,0,none⟩=some (.bool (decide (b.num<0)))∧w'.cell? ⟨g+1,1,none⟩=some pb∧w'.cell? ⟨g+1,2,none⟩=some qb) (first | exact Two.cells33 (hT.below (by first | assumption | exact balloc (by assumption) _ | exact bdrew _ | exact balloc (bdrew _) _) hT.lt) | exact Two.cells33 (Two.far3 (hT.below (by first | assumption | exact balloc (by assumption) _ | exact bdrew _ | exact balloc (bdrew _) _) hT.lt) _ _ _))
  (first
   | (go_at_call 78;(with_reducible refine (hN _ ?_).mono ?_);exact hb0.below (by first | assumption | exact balloc (by assumption) _ | exact bdrew _ | exact balloc (bdrew _) _);rintro x w1 ⟨v1,rfl,h1,b1⟩;have B1:=bstep (a:=W0) (by first | assumption | exact balloc (by assumption) _ | exact bdrew _ | exact balloc (bdrew _) _) b1)
   | (go_at_call 23;(with_reducible refine (hA _ _ ?_ ?_).mono ?_);exact ha0.below (by first | assumption | exact balloc (by assumption) _ | exact bdrew _ | exact balloc (bdrew _) _);exact h1.below (by first | exact Below.refl _ _ | exact balloc (Below.refl _ _) _);rintro x w2 ⟨v2,rfl,⟨n2,d2,rfl,h2,k2⟩,b2⟩;obtain⟨A1,L1,C1,rfl⟩:=h2.frm;obtain⟨A2,L2,C2,rfl⟩:=k2.frm;have B2:=bstep (a:=W0) (by first | assumption | exact balloc (by assumption) _ | exact bdrew _ | exact balloc (bdrew _) _) b2;have hR1:=hR.below B2 hR.lt;have q0:=hR1.cell 0;have q1:=hR1.cell 1;have q2:=hR1.cell 2;have z0:=hR1.frozen 0;have z1:=hR1.frozen 1;have z2:=hR1.frozen 2))
 obtain⟨p1,p2,p3⟩:=put3 hR1 (.bool (decide (r.num<0))) (.slice A1 L1 C1) (.slice A2 L2 C2) (by simp[noU]) (hB.trans (B2.mono hB.size)) (by rw[hW'.out.2];omega)
 have q0:=hR1.cell 0
 have z0:=hR1.frozen 0
 have q1:=hR1.cell 1
 have z1:=hR1.frozen 1
 have q2:=hR1.cell 2
 have z2:=hR1.frozen 2
 have P:=Lib.hid (And.intro (⟨_,_,rfl,p2 _ _ h2,p2 _ _ k2⟩:IsQ _ (.agg #[.bool (decide (r.num<0)),.slice A1 L1 C1,.slice A2 L2 C2]) r) (And.intro p3 p1.cells3))
 clear p1 p2 p3
 go_wp2
 obtain⟨P1,P2,P3,P4,P5⟩:=P.out
 exact bodyPost_ret (v:= .agg #[.bool (decide (r.num<0)),.slice A1 L1 C1,.slice A2 L2 C2]) (by simp[results,Tryz.results26,go_sem,P3,P4,P5]) rfl ⟨_,rfl,P1,P2⟩
end Go.Proofs.YtdnjdglekifhpaaGreat
namespace Go.Proofs.YtdnjdglekifhpaaGreat
open Go.RowKit
attribute [local go_sem ↓] Go.wp_at_zero Go.wp_at_succ
theorem back_any (v:Value) (z:Int) (k:Nat) (w:World) (h:IsZ w v z) (hk:k≤2000) (sz:Sz z.natAbs 10000):
 Calls Tryz.prog 75 #[v,.int .i64 k] w fun e w'=>∃v',e= .returned (.tuple #[v',.int .i64 0])∧IsQ w' v' (mkRat z (2^k))∧Below w.heap.size w w':=by
 have hO:=fun w=>rof_any 1 (by unfold W64;omega) w
 have hS:=fun v w h=>shl_any v 1 k (by omega) w h (Sz.one.more (by omega))
 have hp:0<2^k:=Nat.pow_pos (by omega)
 have sp:Sz (2^k) 10000:=(Sz.two_pow k).more (by omega)
 have hM:=fun u w hu h=>rqmake_any v u z (2^k) w h hu (sz.more (by omega)) (sp.more (by omega)) hp
 rw[Nat.one_mul] at hS
 have hz:=h
 obtain⟨nv,rfl,hn⟩:=h
 obtain⟨An,Ln,Cn,rfl⟩:=hn.frm
 generalize mkRat z (2^k)=r at *
 generalize 2^k=p at *
 generalize decide (z<0)=s at *
 clear hp sp sz hn
 obtain⟨W0,hW,hT,hB⟩:=box2 w 30 32 #[.bool s,.slice An Ln Cn] #[.bool false,.slice none 0 0,.slice none 0 0]
 obtain⟨g,hg⟩:∃g,g=w.heap.size:=⟨_,rfl⟩
 have hW':=Lib.hid (And.intro hW hg)
 rw[←hg] at hT
 have hgw:w.heap.size≤g:=by omega
 clear hW hg
 obtain⟨hA,hR⟩:=hT
 replace hz:=hz.b hB
 obtain⟨c1_hA_0,c1_hA_1⟩:=hA.cells2
 obtain⟨c1_hR_0,c1_hR_1,c1_hR_2⟩:=hR.cells3
 go_enter Tryz.func75,Tryz.ntmps75
 go_wp2_with fail
 rw[←hW'.out.1,←hW'.out.2]
 refine (hO _).mono ?_
 rintro e w1 ⟨v1,rfl,h1,b1⟩
 replace hz:=hz.b b1
 replace hA:=hA.b b1
 replace hR:=hR.b b1
 replace hB:=bOn hB b1
 clear c1_hA_0 c1_hA_1 c1_hR_0 c1_hR_1 c1_hR_2
 obtain⟨c2_hA_0,c2_hA_1⟩:=hA.cells2
 obtain⟨c2_hR_0,c2_hR_1,c2_hR_2⟩:=hR.cells3
 go_wp2_with fail
 refine (hS _ _ h1).mono ?_
 rintro e w2 ⟨v2,rfl,h2,b2⟩
 replace hz:=hz.b b2
 replace hA:=hA.b b2
 replace hR:=hR.b b2
 replace h1:=h1.b b2
 replace hB:=bOn hB b2
 clear c2_hA_0 c2_hA_1 c2_hR_0 c2_hR_1 c2_hR_2
 obtain⟨c3_hA_0,c3_hA_1⟩:=hA.cells2
 obtain⟨c3_hR_0,c3_hR_1,c3_hR_2⟩:=hR.cells3
 go_wp2_with fail
 refine (hM _ _ h2 hz).mono ?_
 rintro e w3 ⟨v3,rfl,⟨n3,d3,rfl,h3,k3⟩,b3⟩
 replace hz:=hz.b b3
 replace hA:=hA.b b3
 replace hR:=hR.b b3
 replace h1:=h1.b b3
 replace h2:=h2.b b3
 replace hB:=bOn hB b3
 clear c3_hA_0 c3_hA_1 c3_hR_0 c3_hR_1 c3_hR_2
 obtain⟨c4_hA_0,c4_hA_1⟩:=hA.cells2
 obtain⟨c4_hR_0,c4_hR_1,c4_hR_2⟩:=hR.cells3
 obtain⟨A2,L2,C2,rfl⟩:=h3.frm
 obtain⟨A3,L3,C3,rfl⟩:=k3.frm
 obtain⟨p1,p2,p3⟩:=put3 hR (.bool (decide (r.num<0))) (.slice A2 L2 C2) (.slice A3 L3 C3) (by simp[noU]) hB (by omega)
 have q0:=hR.cell 0
 have z0:=hR.frozen 0
 have q1:=hR.cell 1
 have z1:=hR.frozen 1
 have q2:=hR.cell 2
 have z2:=hR.frozen 2
 have P:=Lib.hid (And.intro (⟨_,_,rfl,p2 _ _ h3,p2 _ _ k3⟩:IsQ _ (.agg #[.bool (decide (r.num<0)),.slice A2 L2 C2,.slice A3 L3 C3]) r) (And.intro p3 p1.cells3))
 clear p1 p2 p3 hO hS hM
 go_wp2_with fail
 obtain⟨P1,P2,P3,P4,P5⟩:=P.out
 exact bodyPost_ret (v:= .tuple #[.agg #[.bool (decide (r.num<0)),.slice A2 L2 C2,.slice A3 L3 C3],.int .i64 0]) (by simp[results,Tryz.results75,go_sem,P3,P4,P5]) rfl ⟨_,rfl,P1,P2⟩
theorem floor_any (v:Value) (a:Rat) (k:Nat) (w:World) (h:IsQ w v a) (hk:k≤2000) (sa:BQ a 10000):
 Calls Tryz.prog 156 #[v,.int .i64 k] w fun e w'=>∃v',e= .returned (.tuple #[v',.int .i64 0])∧IsZ w' v' (flr a k)∧Below w.heap.size w w':=by
 have hd:=Rat.den_pos a
 have fp:=flr_pos a k
 have fn:=flr_neg a k
 obtain⟨pv,qv,rfl,hp,hq⟩:=h
 have hS:=fun w h=>shl_any pv a.num.natAbs k (by omega) w h (sa.1.more (by omega))
 have s2:Sz (a.num.natAbs*2^k) 20000:=(sa.1.mul (Sz.two_pow k)).more (by omega)
 have hD:=fun u w hu hq=>divmod_any u qv (a.num.natAbs*2^k) a.den w hu hq (s2.more (by omega)) (sa.2.more (by omega)) hd
 have s3:Sz (a.num.natAbs*2^k / a.den) 20000:=s2.le (Nat.div_le_self _ _)
 have hO:=fun w=>rof_any 1 (by unfold W64;omega) w
 have hA:=fun u v w hu hv=>radd_any u v (a.num.natAbs*2^k / a.den) 1 w hu hv (s3.fin (by omega)) (Sz.one.fin (by omega))
 obtain⟨Ap,Lp,Cp,rfl⟩:=hp.frm
 obtain⟨Aq,Lq,Cq,rfl⟩:=hq.frm
 have hrL:=fun (v:Value) (w:World) (h:IsN w v (a.num.natAbs*2^k % a.den))=>h.open_
 generalize flr a k=z at *
 generalize a.num.natAbs*2^k / a.den=n at *
 generalize a.num.natAbs*2^k % a.den=r at *
 generalize a.num.natAbs*2^k=m at *
 generalize a.num.natAbs=x at *
 generalize a.den=d at *
 clear s2 s3 sa hd
 by_cases hs:a.num<0
 ·have fz:=fn hs
  rw[decide_eq_true hs]
  clear fp fn hs
  obtain⟨W0,hW,hT,hB⟩:=box2 w 32 30 #[.bool true,.slice Ap Lp Cp,.slice Aq Lq Cq] #[.bool false,.slice none 0 0]
  obtain⟨g,hg⟩:∃g,g=w.heap.size:=⟨_,rfl⟩
  have hW':=Lib.hid (And.intro hW hg)
  rw[←hg] at hT
  have hgw:w.heap.size≤g:=by omega
  clear hW hg
  obtain⟨hA0,hR⟩:=hT
  replace hp:=hp.b hB
  replace hq:=hq.b hB
  obtain⟨c1_hA0_0,c1_hA0_1,c1_hA0_2⟩:=hA0.cells3
  obtain⟨c1_hR_0,c1_hR_1⟩:=hR.cells2
  go_enter Tryz.func156,Tryz.ntmps156
  go_wp2_with fail
  rw[←hW'.out.1,←hW'.out.2]
  refine (hS _ hp).mono ?_
  rintro e w1 ⟨v1,rfl,h1,b1⟩
  replace hp:=hp.b b1
  replace hq:=hq.b b1
  replace hA0:=hA0.b b1
  replace hR:=hR.b b1
  replace hB:=bOn hB b1
  clear c1_hA0_0 c1_hA0_1 c1_hA0_2 c1_hR_0 c1_hR_1
  obtain⟨c2_hA0_0,c2_hA0_1,c2_hA0_2⟩:=hA0.cells3
  obtain⟨c2_hR_0,c2_hR_1⟩:=hR.cells2
  go_wp2_with fail
  refine (hD _ _ h1 hq).mono ?_
  rintro e w2 ⟨v2,r2,rfl,h2,hr2,b2⟩
  replace hp:=hp.b b2
  replace hq:=hq.b b2
  replace hA0:=hA0.b b2
  replace hR:=hR.b b2
  replace h1:=h1.b b2
  replace hB:=bOn hB b2
  clear c2_hA0_0 c2_hA0_1 c2_hA0_2 c2_hR_0 c2_hR_1
  obtain⟨c3_hA0_0,c3_hA0_1,c3_hA0_2⟩:=hA0.cells3
  obtain⟨c3_hR_0,c3_hR_1⟩:=hR.cells2
  obtain⟨A2,L2,C2,rfl⟩:=h2.frm
  obtain⟨A9,L9,C9,rfl,hL9⟩:=hrL _ _ hr2
  by_cases hr0:0<r
  ·have hLp:0<L9:=by rw[hL9];exact List.length_pos_iff.2 (fun e=>by have:=limbs_nil.1 e;omega)
   rw[if_pos hr0] at fz
   have FZ:=Lib.hid fz
   clear hL9 hr0 fz
   go_wp2_with fail
   refine (hO _).mono ?_
   rintro e w3 ⟨v3,rfl,h3,b3⟩
   replace hp:=hp.b b3
   replace hq:=hq.b b3
   replace hA0:=hA0.b b3
   replace hR:=hR.b b3
   replace h1:=h1.b b3
   replace h2:=h2.b b3
   replace hr2:=hr2.b b3
   replace hB:=bOn hB b3
   clear c3_hA0_0 c3_hA0_1 c3_hA0_2 c3_hR_0 c3_hR_1
   obtain⟨c4_hA0_0,c4_hA0_1,c4_hA0_2⟩:=hA0.cells3
   obtain⟨c4_hR_0,c4_hR_1⟩:=hR.cells2
   go_wp2_with fail
   refine (hA _ _ _ h2 h3).mono ?_
   rintro e w4 ⟨v4,rfl,h4,b4⟩
   replace hp:=hp.b b4
   replace hq:=hq.b b4
   replace hA0:=hA0.b b4
   replace hR:=hR.b b4
   replace h1:=h1.b b4
   replace h2:=h2.b b4
   replace hr2:=hr2.b b4
   replace h3:=h3.b b4
   replace hB:=bOn hB b4
   clear c4_hA0_0 c4_hA0_1 c4_hA0_2 c4_hR_0 c4_hR_1
   obtain⟨c5_hA0_0,c5_hA0_1,c5_hA0_2⟩:=hA0.cells3
   obtain⟨c5_hR_0,c5_hR_1⟩:=hR.cells2
   obtain⟨A4,L4,C4,rfl⟩:=h4.frm
   have hZ:∀w' u,IsN w' u (n+1)→IsZ w' (.agg #[.bool false,u]) ((n+1:Nat):Int):=fun w' u h=>⟨u,by rw[decide_eq_false (by omega)],by rw[Int.natAbs_natCast];exact h⟩
   have hN:=fun u w h=>rzneg_any (.agg #[.bool false,u]) ((n+1:Nat):Int) w (hZ w u h)
   rw[←FZ.out] at hN
   clear hZ
   go_wp2_with fail
   refine (hN _ _ h4).mono ?_
   rintro e w5 ⟨v5,rfl,⟨n5,rfl,h5⟩,b5⟩
   replace hp:=hp.b b5
   replace hq:=hq.b b5
   replace hA0:=hA0.b b5
   replace hR:=hR.b b5
   replace h1:=h1.b b5
   replace h2:=h2.b b5
   replace hr2:=hr2.b b5
   replace h3:=h3.b b5
   replace h4:=h4.b b5
   replace hB:=bOn hB b5
   clear c5_hA0_0 c5_hA0_1 c5_hA0_2 c5_hR_0 c5_hR_1
   obtain⟨c6_hA0_0,c6_hA0_1,c6_hA0_2⟩:=hA0.cells3
   obtain⟨c6_hR_0,c6_hR_1⟩:=hR.cells2
   obtain⟨A5,L5,C5,rfl⟩:=h5.frm
   obtain⟨p1,p2,p3⟩:=put2 hR (.bool (decide (z<0))) (.slice A5 L5 C5) (by simp[noU]) hB (by omega)
   have q0:=hR.cell 0
   have z0:=hR.frozen 0
   have q1:=hR.cell 1
   have z1:=hR.frozen 1
   have P:=Lib.hid (And.intro (⟨_,rfl,p2 _ _ h5⟩:IsZ _ (.agg #[.bool (decide (z<0)),.slice A5 L5 C5]) z) (And.intro p3 p1.cells2))
   clear p1 p2 p3 hS hD hO hA hrL hN
   go_wp2_with fail
   obtain⟨P1,P2,P3,P4⟩:=P.out
   exact bodyPost_ret (v:= .tuple #[.agg #[.bool (decide (z<0)),.slice A5 L5 C5],.int .i64 0]) (by simp[results,Tryz.results156,go_sem,P3,P4]) rfl ⟨_,rfl,P1,P2⟩
  ·have hr1:r=0:=by omega
   have hLz:L9=0:=by rw[hL9,hr1,limbs_zero];rfl
   subst hLz
   rw[if_neg hr0,Nat.add_zero] at fz
   have FZ:=Lib.hid fz
   clear hL9 hr0 fz hr1
   have hZ:∀w' u,IsN w' u (n)→IsZ w' (.agg #[.bool false,u]) ((n:Nat):Int):=fun w' u h=>⟨u,by rw[decide_eq_false (by omega)],by rw[Int.natAbs_natCast];exact h⟩
   have hN:=fun u w h=>rzneg_any (.agg #[.bool false,u]) ((n:Nat):Int) w (hZ w u h)
   rw[←FZ.out] at hN
   clear hZ
   go_wp2_with fail
   refine (hN _ _ h2).mono ?_
   rintro e w3 ⟨v5,rfl,⟨n5,rfl,h5⟩,b3⟩
   replace hp:=hp.b b3
   replace hq:=hq.b b3
   replace hA0:=hA0.b b3
   replace hR:=hR.b b3
   replace h1:=h1.b b3
   replace h2:=h2.b b3
   replace hr2:=hr2.b b3
   replace hB:=bOn hB b3
   clear c3_hA0_0 c3_hA0_1 c3_hA0_2 c3_hR_0 c3_hR_1
   obtain⟨c4_hA0_0,c4_hA0_1,c4_hA0_2⟩:=hA0.cells3
   obtain⟨c4_hR_0,c4_hR_1⟩:=hR.cells2
   obtain⟨A5,L5,C5,rfl⟩:=h5.frm
   obtain⟨p1,p2,p3⟩:=put2 hR (.bool (decide (z<0))) (.slice A5 L5 C5) (by simp[noU]) hB (by omega)
   have q0:=hR.cell 0
   have z0:=hR.frozen 0
   have q1:=hR.cell 1
   have z1:=hR.frozen 1
   have P:=Lib.hid (And.intro (⟨_,rfl,p2 _ _ h5⟩:IsZ _ (.agg #[.bool (decide (z<0)),.slice A5 L5 C5]) z) (And.intro p3 p1.cells2))
   clear p1 p2 p3 hS hD hO hA hrL hN
   go_wp2_with fail
   obtain⟨P1,P2,P3,P4⟩:=P.out
   exact bodyPost_ret (v:= .tuple #[.agg #[.bool (decide (z<0)),.slice A5 L5 C5],.int .i64 0]) (by simp[results,Tryz.results156,go_sem,P3,P4]) rfl ⟨_,rfl,P1,P2⟩
 ·have fz:=fp hs
  rw[decide_eq_false hs]
  clear fp fn
  have KEY:Hid (∀w' u,IsN w' u n→IsZ w' (.agg #[.bool false,u]) z):=Lib.hid fun w' u h=>⟨u,by rw[fz,decide_eq_false (by omega)],by rw[fz];simpa using h⟩
  clear fz hs
  obtain⟨W0,hW,hT,hB⟩:=box2 w 32 30 #[.bool false,.slice Ap Lp Cp,.slice Aq Lq Cq] #[.bool false,.slice none 0 0]
  obtain⟨g,hg⟩:∃g,g=w.heap.size:=⟨_,rfl⟩
  have hW':=Lib.hid (And.intro hW hg)
  rw[←hg] at hT
  have hgw:w.heap.size≤g:=by omega
  clear hW hg
  obtain⟨hA0,hR⟩:=hT
  replace hp:=hp.b hB
  replace hq:=hq.b hB
  obtain⟨c1_hA0_0,c1_hA0_1,c1_hA0_2⟩:=hA0.cells3
  obtain⟨c1_hR_0,c1_hR_1⟩:=hR.cells2
  go_enter Tryz.func156,Tryz.ntmps156
  go_wp2_with fail
  rw[←hW'.out.1,←hW'.out.2]
  refine (hS _ hp).mono ?_
  rintro e w1 ⟨v1,rfl,h1,b1⟩
  replace hp:=hp.b b1
  replace hq:=hq.b b1
  replace hA0:=hA0.b b1
  replace hR:=hR.b b1
  replace hB:=bOn hB b1
  clear c1_hA0_0 c1_hA0_1 c1_hA0_2 c1_hR_0 c1_hR_1
  obtain⟨c2_hA0_0,c2_hA0_1,c2_hA0_2⟩:=hA0.cells3
  obtain⟨c2_hR_0,c2_hR_1⟩:=hR.cells2
  go_wp2_with fail
  refine (hD _ _ h1 hq).mono ?_
  rintro e w2 ⟨v2,r2,rfl,h2,hr2,b2⟩
  replace hp:=hp.b b2
  replace hq:=hq.b b2
  replace hA0:=hA0.b b2
  replace hR:=hR.b b2
  replace h1:=h1.b b2
  replace hB:=bOn hB b2
  clear c2_hA0_0 c2_hA0_1 c2_hA0_2 c2_hR_0 c2_hR_1
  obtain⟨c3_hA0_0,c3_hA0_1,c3_hA0_2⟩:=hA0.cells3
  obtain⟨c3_hR_0,c3_hR_1⟩:=hR.cells2
  obtain⟨A2,L2,C2,rfl⟩:=h2.frm
  obtain⟨p1,p2,p3⟩:=put2 hR (.bool false) (.slice A2 L2 C2) (by simp[noU]) hB (by omega)
  have q0:=hR.cell 0
  have z0:=hR.frozen 0
  have q1:=hR.cell 1
  have z1:=hR.frozen 1
  have P:=Lib.hid (And.intro (KEY.out _ _ (p2 _ _ h2)) (And.intro p3 p1.cells2))
  clear p1 p2 p3 hS hD hO hA hrL
  go_wp2_with fail
  obtain⟨P1,P2,P3,P4⟩:=P.out
  exact bodyPost_ret (v:= .tuple #[.agg #[.bool false,.slice A2 L2 C2],.int .i64 0]) (by simp[results,Tryz.results156,go_sem,P3,P4]) rfl ⟨_,rfl,P1,P2⟩
theorem ceil_any (v:Value) (a:Rat) (k:Nat) (w:World) (h:IsQ w v a) (hk:k≤2000) (sa:BQ a 10000):
 Calls Tryz.prog 131 #[v,.int .i64 k] w fun e w'=>∃v',e= .returned (.tuple #[v',.int .i64 0])∧IsZ w' v' (cel a k)∧Below w.heap.size w w':=by
 have hN:=fun w h=>rqneg_any v a w h
 have hF:=fun u w h=>floor_any u (-a) k w h hk sa.neg
 have hM:=fun u w h=>rzneg_any u (flr (-a) k) w h
 rw[show -flr (-a) k=cel a k from rfl] at hM
 have hv:=h
 obtain⟨pv,qv,rfl,hp,hq⟩:=h
 generalize cel a k=z at *
 generalize flr (-a) k=y at *
 clear hp hq sa
 obtain⟨W0,hW,hT,hB⟩:=box2 w 32 30 #[.bool (decide (a.num<0)),pv,qv] #[.bool false,.slice none 0 0]
 obtain⟨g,hg⟩:∃g,g=w.heap.size:=⟨_,rfl⟩
 have hW':=Lib.hid (And.intro hW hg)
 rw[←hg] at hT
 have hgw:w.heap.size≤g:=by omega
 clear hW hg
 obtain⟨hA,hR⟩:=hT
 replace hv:=hv.b hB
 obtain⟨c1_hA_0,c1_hA_1,c1_hA_2⟩:=hA.cells3
 obtain⟨c1_hR_0,c1_hR_1⟩:=hR.cells2
 go_enter Tryz.func131,Tryz.ntmps131
 go_wp2_with fail
 rw[←hW'.out.1,←hW'.out.2]
 refine (hN _ hv).mono ?_
 rintro e w1 ⟨v1,rfl,h1,b1⟩
 replace hv:=hv.b b1
 replace hA:=hA.b b1
 replace hR:=hR.b b1
 replace hB:=bOn hB b1
 clear c1_hA_0 c1_hA_1 c1_hA_2 c1_hR_0 c1_hR_1
 obtain⟨c2_hA_0,c2_hA_1,c2_hA_2⟩:=hA.cells3
 obtain⟨c2_hR_0,c2_hR_1⟩:=hR.cells2
 go_wp2_with fail
 refine (hF _ _ h1).mono ?_
 rintro e w2 ⟨v2,rfl,h2,b2⟩
 replace hv:=hv.b b2
 replace hA:=hA.b b2
 replace hR:=hR.b b2
 replace h1:=h1.b b2
 replace hB:=bOn hB b2
 clear c2_hA_0 c2_hA_1 c2_hA_2 c2_hR_0 c2_hR_1
 obtain⟨c3_hA_0,c3_hA_1,c3_hA_2⟩:=hA.cells3
 obtain⟨c3_hR_0,c3_hR_1⟩:=hR.cells2
 have h2z:=h2
 obtain⟨n2,rfl,h2n⟩:=h2z
 obtain⟨A2,L2,C2,rfl⟩:=h2n.frm
 clear h2n
 obtain⟨V1,eV,hL,bV1⟩:=box1 w2 30 #[.bool (decide (y<0)),.slice A2 L2 C2]
 obtain⟨X1,eX⟩:∃X,X=w2.heap.size:=⟨_,rfl⟩
 rw[←eX] at hL
 have EV1:=Lib.hid (And.intro eV eX)
 clear eV eX
 replace hv:=hv.b bV1
 replace hA:=hA.b bV1
 replace hR:=hR.b bV1
 replace h1:=h1.b bV1
 replace h2:=h2.b bV1
 replace hB:=bOn hB bV1
 obtain⟨c4_hA_0,c4_hA_1,c4_hA_2⟩:=hA.cells3
 obtain⟨c4_hR_0,c4_hR_1⟩:=hR.cells2
 clear c3_hA_0 c3_hA_1 c3_hA_2 c3_hR_0 c3_hR_1 c4_hA_0 c4_hA_1 c4_hA_2 c4_hR_0 c4_hR_1
 obtain⟨c5_hA_0,c5_hA_1,c5_hA_2⟩:=hA.cells3
 obtain⟨c5_hR_0,c5_hR_1⟩:=hR.cells2
 obtain⟨c5_hL_0,c5_hL_1⟩:=hL.cells2
 go_wp2_with fail
 rw[←EV1.out.1,←EV1.out.2]
 refine (hM _ _ h2).mono ?_
 rintro e w3 ⟨v3,rfl,⟨n3,rfl,h3⟩,b3⟩
 replace hv:=hv.b b3
 replace hA:=hA.b b3
 replace hR:=hR.b b3
 replace h1:=h1.b b3
 replace h2:=h2.b b3
 replace hL:=hL.b b3
 replace hB:=bOn hB b3
 clear c5_hA_0 c5_hA_1 c5_hA_2 c5_hR_0 c5_hR_1 c5_hL_0 c5_hL_1
 obtain⟨c6_hA_0,c6_hA_1,c6_hA_2⟩:=hA.cells3
 obtain⟨c6_hR_0,c6_hR_1⟩:=hR.cells2
 obtain⟨c6_hL_0,c6_hL_1⟩:=hL.cells2
 obtain⟨A3,L3,C3,rfl⟩:=h3.frm
 obtain⟨p1,p2,p3⟩:=put2 hR (.bool (decide (z<0))) (.slice A3 L3 C3) (by simp[noU]) hB (by omega)
 have q0:=hR.cell 0
 have z0:=hR.frozen 0
 have q1:=hR.cell 1
 have z1:=hR.frozen 1
 have P:=Lib.hid (And.intro (⟨_,rfl,p2 _ _ h3⟩:IsZ _ (.agg #[.bool (decide (z<0)),.slice A3 L3 C3]) z) (And.intro p3 p1.cells2))
 clear p1 p2 p3 hN hF hM
 go_wp2_with fail
 obtain⟨P1,P2,P3,P4⟩:=P.out
 exact bodyPost_ret (v:= .tuple #[.agg #[.bool (decide (z<0)),.slice A3 L3 C3],.int .i64 0]) (by simp[results,Tryz.results131,go_sem,P3,P4]) rfl ⟨_,rfl,P1,P2⟩
theorem rnd_flr (a:Rat) (k:Nat):flr a k=sided (decide (a.num<0)) (rndN a k (decide (a.num<0))):=by
 unfold rndN
 by_cases h:a.num<0
 ·rw[flr_neg _ _ h,decide_eq_true h];simp[sided]
 ·rw[flr_pos _ _ h,decide_eq_false h];simp[sided]
theorem pfloor1_any (u v x:Value) (X:Nat) (s:Bool) (pa qa:Value) (w:World) (hX:Blk w X 32 #[.bool s,pa,qa]):
 Calls Tryz.prog 207 #[u,v,x,.pointer (some ⟨X,0,none⟩)] w fun e w'=>e= .returned (.bool s)∧w=w':=by
 have c0:World.cell? w ⟨X,0,none⟩=some (.bool s):=hX.cell 0
 go_enter Tryz.func207,Tryz.ntmps207
 go_wp2
 go_ret
 exact⟨rfl,rfl⟩
theorem prounded_floor (v:Value) (a:Rat) (k:Nat) (X:Nat) (w:World) (h:IsQ w v a) (hk:k≤2000) (sa:BQ a 10000) (hX:∃p q,Blk w X 32 #[.bool (decide (a.num<0)),p,q]):
 Calls Tryz.prog 128 #[v,.int .i64 k,.func (.func 207) #[] #[.pointer (some ⟨X,0,none⟩)]] w fun e w'=>∃v',e= .returned (.tuple #[v',.int .i64 0])∧IsZ w' v' (flr a k)∧Below w.heap.size w w':=by
 have hd:=Rat.den_pos a
 obtain⟨px,qx,hX⟩:=hX
 obtain⟨s,A,L,C,D,M,E,rfl,hq⟩:=h.opn
 obtain⟨es,hz,hn⟩:=hq.parts
 obtain⟨-,hp⟩:=hz.parts
 rw[←es] at hX
 have hS:=fun w h=>dshl_any (.slice A L C) a.num.natAbs k (by omega) w h (sa.1.fin (by omega))
 have s2:Sz (a.num.natAbs*2^k) 20000:=(sa.1.mul (Sz.two_pow k)).more (by omega)
 have hD:=fun u w hu hv=>ddivmod_any u (.slice D M E) (a.num.natAbs*2^k) a.den w hu hv (s2.more (by omega)) (sa.2.more (by omega)) hd
 have s3:Sz (a.num.natAbs*2^k / a.den) 20000:=s2.le (Nat.div_le_self _ _)
 have hO:=fun w=>of_any 1 (by unfold W64;omega) w
 have hA:=fun u v w hu hv=>add_any u v (a.num.natAbs*2^k / a.den) 1 w hu hv (s3.fin (by omega)) (Sz.one.fin (by omega))
 have hC:=fun u v x w h=>pfloor1_any u v x X s px qx w h
 have hv:flr a k=sided s (rndN a k s):=by rw[es];exact rnd_flr a k
 have hr:rndN a k s=a.num.natAbs*2^k / a.den+(if 0<a.num.natAbs*2^k % a.den∧s=true then 1 else 0):=rfl
 rw[hr] at hv
 generalize flr a k=z at *
 generalize a.num.natAbs*2^k / a.den=n at *
 generalize a.num.natAbs*2^k % a.den=r at *
 generalize a.num.natAbs*2^k=m at *
 generalize a.num.natAbs=x at *
 generalize a.den=d at *
 have hd0:decide ((k:Int)<0)=false:=decide_eq_false (by omega)
 have hd1:¬(2000:Int)<(k:Int):=by omega
 clear s2 s3 sa hd hz es hr hq
 rcases s with _ | _
 ·-- s = False
  rcases Nat.eq_zero_or_pos r with hr0 | hr0
  ·have HR:=Lib.hid hr0
   rw[if_neg (by omega),Nat.add_zero] at hv
   have HZ:Hid (decide (z<0)=false∧z.natAbs=n):=by rw[Hid,hv];simp[sided]
   clear hr0 hv
   obtain⟨Y0,eY0,hT,bY0⟩:=box1 w 32 #[.bool false,.slice A L C,.slice D M E]
   obtain⟨Y1,eY1,hR,bY1⟩:=box1 Y0 30 #[.bool false,.slice none 0 0]
   obtain⟨g,hg⟩:∃g,g=w.heap.size:=⟨_,rfl⟩
   have zY0:Y0.heap.size=g+1:=by rw[eY0,World.size_alloc,←hg]
   rw[←hg] at hT
   rw[zY0] at hR
   replace hT:=hT.b bY1
   replace hX:=(hX.below bY0 hX.lt).below bY1 (by have:=hX.lt;have:=bY0.size;omega)
   replace hp:=(hp.below bY0).below bY1
   replace hn:=(hn.below bY0).below bY1
   have hB:=bY0.trans (bY1.mono bY0.size)
   have hgw:w.heap.size≤g:=by omega
   have EY:=Lib.hid (And.intro hg (And.intro eY0 eY1))
   clear hg eY0 eY1 zY0
   obtain⟨c0,c1,c2⟩:=hX.q3
   obtain⟨c3,c4,c5⟩:=hT.q3
   obtain⟨c6,c7⟩:=hR.q2
   go_enter Tryz.func128,Tryz.ntmps128
   go_wp2_with fail
   rw[←EY.out.2.1,←EY.out.2.2,←EY.out.1]
   refine (hS _ hp).mono ?_
   rintro e w2 ⟨v1,rfl,h1,b2⟩
   replace hp:=hp.b b2
   replace hn:=hn.b b2
   replace hX:=hX.b b2
   replace hT:=hT.b b2
   replace hR:=hR.b b2
   replace hB:=bOn hB b2
   clear c0 c1 c2 c3 c4 c5 c6 c7
   obtain⟨c8,c9,c10⟩:=hX.q3
   obtain⟨c11,c12,c13⟩:=hT.q3
   obtain⟨c14,c15⟩:=hR.q2
   go_wp2_with fail
   refine (hD _ _ h1 hn).mono ?_
   rintro e w4 ⟨v2,v3,rfl,h2,h3,b4⟩
   replace hn:=hn.b b4
   replace hX:=hX.b b4
   replace hT:=hT.b b4
   replace hR:=hR.b b4
   replace h1:=h1.b b4
   replace hB:=bOn hB b4
   clear c8 c9 c10 c11 c12 c13 c14 c15
   obtain⟨c16,c17,c18⟩:=hX.q3
   obtain⟨c19,c20,c21⟩:=hT.q3
   obtain⟨c22,c23⟩:=hR.q2
   obtain⟨A2,L2,C2,rfl,h2⟩:=h2.opn
   obtain⟨A3,C3,rfl⟩:=h3.zeroL HR.out
   clear h3
   obtain⟨p1,p2,p3⟩:=put2 hR (.bool false) (.slice A2 L2 C2) (by simp[noU]) hB (by omega)
   have rc0:World.cell? _ ⟨g+1,0,none⟩=some (.bool false):=hR.cell 0
   have rf0:=hR.frozen 0
   have rc1:World.cell? _ ⟨g+1,1,none⟩=some (.slice none 0 0):=hR.cell 1
   have rf1:=hR.frozen 1
   have P:=Lib.hid (And.intro (show IsZ _ (.agg #[.bool false,.slice A2 L2 C2]) z from ⟨_,by rw[show decide (z<0)=false from HZ.out.1],by rw[HZ.out.2];exact p2 _ _ h2⟩) (And.intro p3 p1.cells2))
   clear p1 p2 p3
   go_wp2_with fail
   obtain⟨P1,P2,P3,P4⟩:=P.out
   exact bodyPost_ret (v:= .tuple #[.agg #[.bool false,.slice A2 L2 C2],.int .i64 0]) (by simp[results,Tryz.results128,go_sem,P3,P4]) rfl ⟨_,rfl,P1,P2⟩
  ·have HR:=Lib.hid hr0
   rw[if_neg (by simp),Nat.add_zero] at hv
   have HZ:Hid (decide (z<0)=false∧z.natAbs=n):=by rw[Hid,hv];simp[sided]
   clear hr0 hv
   obtain⟨Y0,eY0,hT,bY0⟩:=box1 w 32 #[.bool false,.slice A L C,.slice D M E]
   obtain⟨Y1,eY1,hR,bY1⟩:=box1 Y0 30 #[.bool false,.slice none 0 0]
   obtain⟨g,hg⟩:∃g,g=w.heap.size:=⟨_,rfl⟩
   have zY0:Y0.heap.size=g+1:=by rw[eY0,World.size_alloc,←hg]
   rw[←hg] at hT
   rw[zY0] at hR
   replace hT:=hT.b bY1
   replace hX:=(hX.below bY0 hX.lt).below bY1 (by have:=hX.lt;have:=bY0.size;omega)
   replace hp:=(hp.below bY0).below bY1
   replace hn:=(hn.below bY0).below bY1
   have hB:=bY0.trans (bY1.mono bY0.size)
   have hgw:w.heap.size≤g:=by omega
   have EY:=Lib.hid (And.intro hg (And.intro eY0 eY1))
   clear hg eY0 eY1 zY0
   obtain⟨c0,c1,c2⟩:=hX.q3
   obtain⟨c3,c4,c5⟩:=hT.q3
   obtain⟨c6,c7⟩:=hR.q2
   go_enter Tryz.func128,Tryz.ntmps128
   go_wp2_with fail
   rw[←EY.out.2.1,←EY.out.2.2,←EY.out.1]
   refine (hS _ hp).mono ?_
   rintro e w2 ⟨v1,rfl,h1,b2⟩
   replace hp:=hp.b b2
   replace hn:=hn.b b2
   replace hX:=hX.b b2
   replace hT:=hT.b b2
   replace hR:=hR.b b2
   replace hB:=bOn hB b2
   clear c0 c1 c2 c3 c4 c5 c6 c7
   obtain⟨c8,c9,c10⟩:=hX.q3
   obtain⟨c11,c12,c13⟩:=hT.q3
   obtain⟨c14,c15⟩:=hR.q2
   go_wp2_with fail
   refine (hD _ _ h1 hn).mono ?_
   rintro e w4 ⟨v2,v3,rfl,h2,h3,b4⟩
   replace hn:=hn.b b4
   replace hX:=hX.b b4
   replace hT:=hT.b b4
   replace hR:=hR.b b4
   replace h1:=h1.b b4
   replace hB:=bOn hB b4
   clear c8 c9 c10 c11 c12 c13 c14 c15
   obtain⟨c16,c17,c18⟩:=hX.q3
   obtain⟨c19,c20,c21⟩:=hT.q3
   obtain⟨c22,c23⟩:=hR.q2
   obtain⟨A2,L2,C2,rfl,h2⟩:=h2.opn
   obtain⟨A3,L3,C3,rfl,hL3⟩:=h3.pos HR.out
   have hL3i:(0:Int)<(L3:Int):=by omega
   clear h3
   go_wp2_with fail
   refine (hC _ _ _ _ hX).mono ?_
   rintro e w6 ⟨rfl,rfl⟩
   obtain⟨p1,p2,p3⟩:=put2 hR (.bool false) (.slice A2 L2 C2) (by simp[noU]) hB (by omega)
   have rc0:World.cell? _ ⟨g+1,0,none⟩=some (.bool false):=hR.cell 0
   have rf0:=hR.frozen 0
   have rc1:World.cell? _ ⟨g+1,1,none⟩=some (.slice none 0 0):=hR.cell 1
   have rf1:=hR.frozen 1
   have P:=Lib.hid (And.intro (show IsZ _ (.agg #[.bool false,.slice A2 L2 C2]) z from ⟨_,by rw[show decide (z<0)=false from HZ.out.1],by rw[HZ.out.2];exact p2 _ _ h2⟩) (And.intro p3 p1.cells2))
   clear p1 p2 p3
   go_wp2_with fail
   obtain⟨P1,P2,P3,P4⟩:=P.out
   exact bodyPost_ret (v:= .tuple #[.agg #[.bool false,.slice A2 L2 C2],.int .i64 0]) (by simp[results,Tryz.results128,go_sem,P3,P4]) rfl ⟨_,rfl,P1,P2⟩
 ·-- s = True
  rcases Nat.eq_zero_or_pos r with hr0 | hr0
  ·have HR:=Lib.hid hr0
   rw[if_neg (by omega),Nat.add_zero] at hv
   rcases Nat.eq_zero_or_pos n with hn0 | hn0
   ·have HQ:=Lib.hid hn0
    have HZ:Hid (decide (z<0)=false∧z.natAbs=n):=by rw[Hid,hv,hn0];simp[sided]
    clear hr0 hv hn0
    obtain⟨Y0,eY0,hT,bY0⟩:=box1 w 32 #[.bool true,.slice A L C,.slice D M E]
    obtain⟨Y1,eY1,hR,bY1⟩:=box1 Y0 30 #[.bool false,.slice none 0 0]
    obtain⟨g,hg⟩:∃g,g=w.heap.size:=⟨_,rfl⟩
    have zY0:Y0.heap.size=g+1:=by rw[eY0,World.size_alloc,←hg]
    rw[←hg] at hT
    rw[zY0] at hR
    replace hT:=hT.b bY1
    replace hX:=(hX.below bY0 hX.lt).below bY1 (by have:=hX.lt;have:=bY0.size;omega)
    replace hp:=(hp.below bY0).below bY1
    replace hn:=(hn.below bY0).below bY1
    have hB:=bY0.trans (bY1.mono bY0.size)
    have hgw:w.heap.size≤g:=by omega
    have EY:=Lib.hid (And.intro hg (And.intro eY0 eY1))
    clear hg eY0 eY1 zY0
    obtain⟨c0,c1,c2⟩:=hX.q3
    obtain⟨c3,c4,c5⟩:=hT.q3
    obtain⟨c6,c7⟩:=hR.q2
    go_enter Tryz.func128,Tryz.ntmps128
    go_wp2_with fail
    rw[←EY.out.2.1,←EY.out.2.2,←EY.out.1]
    refine (hS _ hp).mono ?_
    rintro e w2 ⟨v1,rfl,h1,b2⟩
    replace hp:=hp.b b2
    replace hn:=hn.b b2
    replace hX:=hX.b b2
    replace hT:=hT.b b2
    replace hR:=hR.b b2
    replace hB:=bOn hB b2
    clear c0 c1 c2 c3 c4 c5 c6 c7
    obtain⟨c8,c9,c10⟩:=hX.q3
    obtain⟨c11,c12,c13⟩:=hT.q3
    obtain⟨c14,c15⟩:=hR.q2
    go_wp2_with fail
    refine (hD _ _ h1 hn).mono ?_
    rintro e w4 ⟨v2,v3,rfl,h2,h3,b4⟩
    replace hn:=hn.b b4
    replace hX:=hX.b b4
    replace hT:=hT.b b4
    replace hR:=hR.b b4
    replace h1:=h1.b b4
    replace hB:=bOn hB b4
    clear c8 c9 c10 c11 c12 c13 c14 c15
    obtain⟨c16,c17,c18⟩:=hX.q3
    obtain⟨c19,c20,c21⟩:=hT.q3
    obtain⟨c22,c23⟩:=hR.q2
    obtain⟨A2,L2,C2,rfl,h2⟩:=h2.opn
    obtain⟨A3,C3,rfl⟩:=h3.zeroL HR.out
    clear h3
    obtain⟨A6,C6,e6⟩:=h2.zeroL HQ.out
    obtain⟨rfl,rfl,rfl⟩:=Value.slice.inj e6
    clear e6
    obtain⟨p1,p2,p3⟩:=put2 hR (.bool false) (.slice A2 0 C2) (by simp[noU]) hB (by omega)
    have rc0:World.cell? _ ⟨g+1,0,none⟩=some (.bool false):=hR.cell 0
    have rf0:=hR.frozen 0
    have rc1:World.cell? _ ⟨g+1,1,none⟩=some (.slice none 0 0):=hR.cell 1
    have rf1:=hR.frozen 1
    have P:=Lib.hid (And.intro (show IsZ _ (.agg #[.bool false,.slice A2 0 C2]) z from ⟨_,by rw[show decide (z<0)=false from HZ.out.1],by rw[HZ.out.2];exact p2 _ _ h2⟩) (And.intro p3 p1.cells2))
    clear p1 p2 p3
    go_wp2_with fail
    obtain⟨P1,P2,P3,P4⟩:=P.out
    exact bodyPost_ret (v:= .tuple #[.agg #[.bool false,.slice A2 0 C2],.int .i64 0]) (by simp[results,Tryz.results128,go_sem,P3,P4]) rfl ⟨_,rfl,P1,P2⟩
   ·have HQ:=Lib.hid hn0
    have HZ:Hid (decide (z<0)=true∧z.natAbs=n):=by rw[Hid,hv];simp[sided];omega
    clear hr0 hv hn0
    obtain⟨Y0,eY0,hT,bY0⟩:=box1 w 32 #[.bool true,.slice A L C,.slice D M E]
    obtain⟨Y1,eY1,hR,bY1⟩:=box1 Y0 30 #[.bool false,.slice none 0 0]
    obtain⟨g,hg⟩:∃g,g=w.heap.size:=⟨_,rfl⟩
    have zY0:Y0.heap.size=g+1:=by rw[eY0,World.size_alloc,←hg]
    rw[←hg] at hT
    rw[zY0] at hR
    replace hT:=hT.b bY1
    replace hX:=(hX.below bY0 hX.lt).below bY1 (by have:=hX.lt;have:=bY0.size;omega)
    replace hp:=(hp.below bY0).below bY1
    replace hn:=(hn.below bY0).below bY1
    have hB:=bY0.trans (bY1.mono bY0.size)
    have hgw:w.heap.size≤g:=by omega
    have EY:=Lib.hid (And.intro hg (And.intro eY0 eY1))
    clear hg eY0 eY1 zY0
    obtain⟨c0,c1,c2⟩:=hX.q3
    obtain⟨c3,c4,c5⟩:=hT.q3
    obtain⟨c6,c7⟩:=hR.q2
    go_enter Tryz.func128,Tryz.ntmps128
    go_wp2_with fail
    rw[←EY.out.2.1,←EY.out.2.2,←EY.out.1]
    refine (hS _ hp).mono ?_
    rintro e w2 ⟨v1,rfl,h1,b2⟩
    replace hp:=hp.b b2
    replace hn:=hn.b b2
    replace hX:=hX.b b2
    replace hT:=hT.b b2
    replace hR:=hR.b b2
    replace hB:=bOn hB b2
    clear c0 c1 c2 c3 c4 c5 c6 c7
    obtain⟨c8,c9,c10⟩:=hX.q3
    obtain⟨c11,c12,c13⟩:=hT.q3
    obtain⟨c14,c15⟩:=hR.q2
    go_wp2_with fail
    refine (hD _ _ h1 hn).mono ?_
    rintro e w4 ⟨v2,v3,rfl,h2,h3,b4⟩
    replace hn:=hn.b b4
    replace hX:=hX.b b4
    replace hT:=hT.b b4
    replace hR:=hR.b b4
    replace h1:=h1.b b4
    replace hB:=bOn hB b4
    clear c8 c9 c10 c11 c12 c13 c14 c15
    obtain⟨c16,c17,c18⟩:=hX.q3
    obtain⟨c19,c20,c21⟩:=hT.q3
    obtain⟨c22,c23⟩:=hR.q2
    obtain⟨A2,L2,C2,rfl,h2⟩:=h2.opn
    obtain⟨A3,C3,rfl⟩:=h3.zeroL HR.out
    clear h3
    obtain⟨A6,L6,C6,e6,hL6⟩:=h2.pos HQ.out
    obtain⟨rfl,rfl,rfl⟩:=Value.slice.inj e6
    clear e6
    have hL6i:(0:Int)<(L2:Int):=by omega
    skip
    obtain⟨p1,p2,p3⟩:=put2 hR (.bool true) (.slice A2 L2 C2) (by simp[noU]) hB (by omega)
    have rc0:World.cell? _ ⟨g+1,0,none⟩=some (.bool false):=hR.cell 0
    have rf0:=hR.frozen 0
    have rc1:World.cell? _ ⟨g+1,1,none⟩=some (.slice none 0 0):=hR.cell 1
    have rf1:=hR.frozen 1
    have P:=Lib.hid (And.intro (show IsZ _ (.agg #[.bool true,.slice A2 L2 C2]) z from ⟨_,by rw[show decide (z<0)=true from HZ.out.1],by rw[HZ.out.2];exact p2 _ _ h2⟩) (And.intro p3 p1.cells2))
    clear p1 p2 p3
    go_wp2_with fail
    obtain⟨P1,P2,P3,P4⟩:=P.out
    exact bodyPost_ret (v:= .tuple #[.agg #[.bool true,.slice A2 L2 C2],.int .i64 0]) (by simp[results,Tryz.results128,go_sem,P3,P4]) rfl ⟨_,rfl,P1,P2⟩
  ·have HR:=Lib.hid hr0
   rw[if_pos ⟨hr0,rfl⟩] at hv
   have HQ:Hid (0<n+1):=by rw[Hid];omega
   have HZ:Hid (decide (z<0)=true∧z.natAbs=n+1):=by rw[Hid,hv];simp[sided];omega
   clear hr0 hv
   obtain⟨Y0,eY0,hT,bY0⟩:=box1 w 32 #[.bool true,.slice A L C,.slice D M E]
   obtain⟨Y1,eY1,hR,bY1⟩:=box1 Y0 30 #[.bool false,.slice none 0 0]
   obtain⟨g,hg⟩:∃g,g=w.heap.size:=⟨_,rfl⟩
   have zY0:Y0.heap.size=g+1:=by rw[eY0,World.size_alloc,←hg]
   rw[←hg] at hT
   rw[zY0] at hR
   replace hT:=hT.b bY1
   replace hX:=(hX.below bY0 hX.lt).below bY1 (by have:=hX.lt;have:=bY0.size;omega)
   replace hp:=(hp.below bY0).below bY1
   replace hn:=(hn.below bY0).below bY1
   have hB:=bY0.trans (bY1.mono bY0.size)
   have hgw:w.heap.size≤g:=by omega
   have EY:=Lib.hid (And.intro hg (And.intro eY0 eY1))
   clear hg eY0 eY1 zY0
   obtain⟨c0,c1,c2⟩:=hX.q3
   obtain⟨c3,c4,c5⟩:=hT.q3
   obtain⟨c6,c7⟩:=hR.q2
   go_enter Tryz.func128,Tryz.ntmps128
   go_wp2_with fail
   rw[←EY.out.2.1,←EY.out.2.2,←EY.out.1]
   refine (hS _ hp).mono ?_
   rintro e w2 ⟨v1,rfl,h1,b2⟩
   replace hp:=hp.b b2
   replace hn:=hn.b b2
   replace hX:=hX.b b2
   replace hT:=hT.b b2
   replace hR:=hR.b b2
   replace hB:=bOn hB b2
   clear c0 c1 c2 c3 c4 c5 c6 c7
   obtain⟨c8,c9,c10⟩:=hX.q3
   obtain⟨c11,c12,c13⟩:=hT.q3
   obtain⟨c14,c15⟩:=hR.q2
   go_wp2_with fail
   refine (hD _ _ h1 hn).mono ?_
   rintro e w4 ⟨v2,v3,rfl,h2,h3,b4⟩
   replace hn:=hn.b b4
   replace hX:=hX.b b4
   replace hT:=hT.b b4
   replace hR:=hR.b b4
   replace h1:=h1.b b4
   replace hB:=bOn hB b4
   clear c8 c9 c10 c11 c12 c13 c14 c15
   obtain⟨c16,c17,c18⟩:=hX.q3
   obtain⟨c19,c20,c21⟩:=hT.q3
   obtain⟨c22,c23⟩:=hR.q2
   obtain⟨A2,L2,C2,rfl,h2⟩:=h2.opn
   obtain⟨A3,L3,C3,rfl,hL3⟩:=h3.pos HR.out
   have hL3i:(0:Int)<(L3:Int):=by omega
   clear h3
   go_wp2_with fail
   refine (hC _ _ _ _ hX).mono ?_
   rintro e w6 ⟨rfl,rfl⟩
   go_wp2_with fail
   refine (hO _).mono ?_
   rintro e w7 ⟨v4,rfl,h4,b7⟩
   replace hX:=hX.b b7
   replace hT:=hT.b b7
   replace hR:=hR.b b7
   replace h2:=h2.b b7
   replace hB:=bOn hB b7
   clear c16 c17 c18 c19 c20 c21 c22 c23
   obtain⟨c24,c25,c26⟩:=hX.q3
   obtain⟨c27,c28,c29⟩:=hT.q3
   obtain⟨c30,c31⟩:=hR.q2
   go_wp2_with fail
   refine (hA _ _ _ h2 h4).mono ?_
   rintro e w9 ⟨v5,rfl,h5,b9⟩
   replace hX:=hX.b b9
   replace hT:=hT.b b9
   replace hR:=hR.b b9
   replace h2:=h2.b b9
   replace h4:=h4.b b9
   replace hB:=bOn hB b9
   clear c24 c25 c26 c27 c28 c29 c30 c31
   obtain⟨c32,c33,c34⟩:=hX.q3
   obtain⟨c35,c36,c37⟩:=hT.q3
   obtain⟨c38,c39⟩:=hR.q2
   obtain⟨A6,L6,C6,e6,hL6⟩:=h5.pos HQ.out
   subst e6
   have hL6i:(0:Int)<(L6:Int):=by omega
   obtain⟨p1,p2,p3⟩:=put2 hR (.bool true) (.slice A6 L6 C6) (by simp[noU]) hB (by omega)
   have rc0:World.cell? _ ⟨g+1,0,none⟩=some (.bool false):=hR.cell 0
   have rf0:=hR.frozen 0
   have rc1:World.cell? _ ⟨g+1,1,none⟩=some (.slice none 0 0):=hR.cell 1
   have rf1:=hR.frozen 1
   have P:=Lib.hid (And.intro (show IsZ _ (.agg #[.bool true,.slice A6 L6 C6]) z from ⟨_,by rw[show decide (z<0)=true from HZ.out.1],by rw[HZ.out.2];exact p2 _ _ h5⟩) (And.intro p3 p1.cells2))
   clear p1 p2 p3
   go_wp2_with fail
   obtain⟨P1,P2,P3,P4⟩:=P.out
   exact bodyPost_ret (v:= .tuple #[.agg #[.bool true,.slice A6 L6 C6],.int .i64 0]) (by simp[results,Tryz.results128,go_sem,P3,P4]) rfl ⟨_,rfl,P1,P2⟩
theorem pfloor_any (v:Value) (a:Rat) (k:Nat) (w:World) (h:IsQ w v a) (hk:k≤2000) (sa:BQ a 10000):
 Calls Tryz.prog 154 #[v,.int .i64 k] w fun e w'=>∃v',e= .returned (.tuple #[v',.int .i64 0])∧IsZ w' v' (flr a k)∧Below w.heap.size w w':=by
 have hK:=fun X v w h hX=>prounded_floor v a k X w h hk sa hX
 generalize flr a k=z at *
 obtain⟨s,A,L,C,D,M,E,rfl,hq⟩:=h.opn
 have es:=hq.parts.1
 rw[←es] at hK
 clear es h sa
 obtain⟨g,hg⟩:∃g,g=w.heap.size:=⟨_,rfl⟩
 obtain⟨Y0,eY0,hT,bY0⟩:=box1 w 32 #[.bool s,.slice A L C,.slice D M E]
 have zY0:Y0.heap.size=g+1:=by rw[eY0,World.size_alloc,←hg]
 rw[←hg] at hT
 replace hq:=hq.b bY0
 have hB:=bY0
 obtain⟨Y1,eY1,hR,bY1⟩:=box1 Y0 30 #[.bool false,.slice none 0 0]
 have zY1:Y1.heap.size=g+1+1:=by rw[eY1,World.size_alloc,zY0]
 rw[zY0] at hR
 replace hT:=hT.b bY1
 replace hq:=hq.b bY1
 replace hB:=bOn hB bY1
 have hgw:w.heap.size≤g:=by omega
 have EY:=Lib.hid (And.intro hg (And.intro eY0 eY1))
 clear hg eY0 zY0 eY1 zY1
 obtain⟨c0,c1,c2⟩:=hT.q3
 obtain⟨c3,c4⟩:=hR.q2
 go_enter Tryz.func154,Tryz.ntmps154
 go_wp2_with fail
 rw[←EY.out.2.1,←EY.out.2.2,←EY.out.1]
 refine (hK _ _ _ hq ⟨_,_,hT⟩).mono ?_
 rintro e w2 ⟨v1,rfl,h1,b2⟩
 replace hq:=hq.b b2
 replace hT:=hT.b b2
 replace hR:=hR.b b2
 replace hB:=bOn hB b2
 clear c0 c1 c2 c3 c4
 obtain⟨c5,c6,c7⟩:=hT.q3
 obtain⟨c8,c9⟩:=hR.q2
 obtain⟨s1,A1,L1,C1,rfl,h1⟩:=h1.opn
 obtain⟨p1,p2,p3⟩:=put2 hR (.bool s1) (.slice A1 L1 C1) (by simp[noU]) hB (by omega)
 have rc0:World.cell? _ ⟨g+1,0,none⟩=some (.bool false):=hR.cell 0
 have rf0:=hR.frozen 0
 have rc1:World.cell? _ ⟨g+1,1,none⟩=some (.slice none 0 0):=hR.cell 1
 have rf1:=hR.frozen 1
 have P:=Lib.hid (And.intro (h1.kept p2) (And.intro p3 p1.cells2))
 clear p1 p2 p3
 go_wp2_with fail
 obtain⟨P1,P2,P3,P4⟩:=P.out
 exact bodyPost_ret (v:= .tuple #[.agg #[.bool s1,.slice A1 L1 C1],.int .i64 0]) (by simp[results,Tryz.results154,go_sem,P3,P4]) rfl ⟨_,rfl,P1,P2⟩
theorem rfrac_any (f:Int) (w:World):Calls Tryz.prog 74 #[.int .i64 f] w fun e w'=>e= .returned (.bool (decide (0≤f∧f≤40)))∧w=w':=by
 by_cases h0:0≤f
 ·by_cases h1:f≤40
  ·rw[decide_eq_true ⟨h0,h1⟩]
   go_enter Tryz.func74,Tryz.ntmps74
   go_wp2
   go_ret
   exact⟨rfl,rfl⟩
  ·rw[decide_eq_false (fun h=>h1 h.2)]
   go_enter Tryz.func74,Tryz.ntmps74
   go_wp2
   go_ret
   exact⟨rfl,rfl⟩
 ·rw[decide_eq_false (fun h=>h0 h.1)]
  go_enter Tryz.func74,Tryz.ntmps74
  go_wp2
  go_ret
  exact⟨rfl,rfl⟩
theorem rrat_any (a:Int) (k:Nat) (w:World) (hk:k≤40) (ha:In64 a):
 Calls Tryz.prog 24 #[.int .i64 a,.int .i64 k] w fun e w'=>∃v',e= .returned (.tuple #[v',.int .i64 0])∧IsQ w' v' (mkRat a (2^k))∧Below w.heap.size w w':=by
 have hF:=fun w=>rfrac_any k w
 rw[decide_eq_true (by omega)] at hF
 have hO:=fun w=>rzof_any a ha.1 ha.2 w
 have sz:Sz a.natAbs 1:=Sz.u64 (by have:=ha.1;have:=ha.2;unfold W64;omega)
 have hBk:=fun u w h=>back_any u a k w h (by omega) (sz.more (by omega))
 generalize mkRat a (2^k)=r at *
 clear sz ha
 obtain⟨W0,hW,hR,hB⟩:=box1 w 32 #[.bool false,.slice none 0 0,.slice none 0 0]
 obtain⟨g,hg⟩:∃g,g=w.heap.size:=⟨_,rfl⟩
 have hW':=Lib.hid (And.intro hW hg)
 rw[←hg] at hR
 have hgw:w.heap.size≤g:=by omega
 clear hW hg
 skip
 obtain⟨c1_hR_0,c1_hR_1,c1_hR_2⟩:=hR.cells3
 go_enter Tryz.func24,Tryz.ntmps24
 go_wp2_with fail
 rw[←hW'.out.1,←hW'.out.2]
 refine (hF _).mono ?_
 rintro e w1 ⟨rfl,rfl⟩
 go_wp2_with fail
 refine (hO _).mono ?_
 rintro e w2 ⟨v1,rfl,h1,b2⟩
 replace hR:=hR.b b2
 replace hB:=bOn hB b2
 clear c1_hR_0 c1_hR_1 c1_hR_2
 obtain⟨c2_hR_0,c2_hR_1,c2_hR_2⟩:=hR.cells3
 go_wp2_with fail
 refine (hBk _ _ h1).mono ?_
 rintro e w3 ⟨v2,rfl,⟨n2,d2,rfl,h2,k2⟩,b3⟩
 replace hR:=hR.b b3
 replace h1:=h1.b b3
 replace hB:=bOn hB b3
 clear c2_hR_0 c2_hR_1 c2_hR_2
 obtain⟨c3_hR_0,c3_hR_1,c3_hR_2⟩:=hR.cells3
 obtain⟨A2,L2,C2,rfl⟩:=h2.frm
 obtain⟨A3,L3,C3,rfl⟩:=k2.frm
 obtain⟨p1,p2,p3⟩:=put3 hR (.bool (decide (r.num<0))) (.slice A2 L2 C2) (.slice A3 L3 C3) (by simp[noU]) hB (by omega)
 have q0:=hR.cell 0
 have z0:=hR.frozen 0
 have q1:=hR.cell 1
 have z1:=hR.frozen 1
 have q2:=hR.cell 2
 have z2:=hR.frozen 2
 have P:=Lib.hid (And.intro (⟨_,_,rfl,p2 _ _ h2,p2 _ _ k2⟩:IsQ _ (.agg #[.bool (decide (r.num<0)),.slice A2 L2 C2,.slice A3 L3 C3]) r) (And.intro p3 p1.cells3))
 clear p1 p2 p3 hF hO hBk
 go_wp2_with fail
 obtain⟨P1,P2,P3,P4,P5⟩:=P.out
 exact bodyPost_ret (v:= .tuple #[.agg #[.bool (decide (r.num<0)),.slice A2 L2 C2,.slice A3 L3 C3],.int .i64 0]) (by simp[results,Tryz.results24,go_sem,P3,P4,P5]) rfl ⟨_,rfl,P1,P2⟩
theorem one_any (n:Nat) (hn:n≤40) (w:World):Calls Tryz.prog 167 #[.int .i64 n] w fun e w'=>e= .returned (.int .i64 ((2^n:Nat):Int))∧w=w':=by
 have HP:=Lib.hid (fun k (hk:k≤40)=>(⟨Nat.pow_pos (by omega),Nat.pow_le_pow_right (by omega) hk⟩:1≤2^k∧2^k≤1099511627776))
 go_enter Tryz.func167,Tryz.ntmps167
 go_wp2
 go_loop [3,4] (fun o i=>∃k:Nat,k≤n∧i= .int .i64 k∧o= .int .i64 ((2^k:Nat):Int)) (fun _ i=>n - (intOf i).toNat)
 case atStart=>exact⟨0,by omega,rfl,rfl⟩
 case round=>
  obtain⟨k,hk,rfl,rfl⟩:=hrel
  by_cases hlt:k<n
  ·have hb:=(HP.out (k+1) (by omega)).2
   obtain⟨x,hx⟩:∃x,x=2^k:=⟨_,rfl⟩
   have hx2:2^(k+1)=x*2:=by rw[hx,Nat.pow_succ]
   rw[hx2] at hb
   rw[←hx]
   have hb':((x:Nat):Int)≤1099511627776:=by omega
   have X:=Lib.hid hx2
   clear hx hx2 hb
   go_wp2
   go_round
   case rel=>exact⟨k+1,by omega,by go_num,by rw[X.out];go_num⟩
   case measure=>simp[intOf];omega
  ·obtain rfl:k=n:=by omega
   go_wp2
   go_ret
   exact⟨rfl,rfl⟩
theorem one17_any (n:Nat) (hn:n≤40) (w:World):Calls Tryz.prog 106 #[.int .i64 n] w fun e w'=>e= .returned (.int .i64 ((2^n:Nat):Int))∧w=w':=by
 have h:=fun w=>one_any n hn w
 generalize ((2^n:Nat):Int)=x at *
 go_enter Tryz.func106,Tryz.ntmps106
 go_wp2_with fail
 refine (h _).mono ?_
 rintro e w' ⟨rfl,rfl⟩
 go_wp2
 go_ret
 exact⟨rfl,rfl⟩
theorem prcmp_any (va vb:Value) (a b:Rat) (w:World) (ha:IsQ w va a) (hb:IsQ w vb b) (sa:BQ a 10000) (sb:BQ b 10000):
 Calls Tryz.prog 191 #[va,vb] w fun e w'=>e= .returned (.int .i64 (cmpQ a b))∧Below w.heap.size w w':=by
 obtain⟨pa,qa,rfl,hpa,hqa⟩:=ha
 have hza:IsZ w (.agg #[.bool (decide (a.num<0)),pa]) a.num:=⟨_,rfl,hpa⟩
 obtain⟨pb,qb,rfl,hpb,hqb⟩:=hb
 have hzb:IsZ w (.agg #[.bool (decide (b.num<0)),pb]) b.num:=⟨_,rfl,hpb⟩
 have hO1:=fun w hp hq=>prtimes_any (.agg #[.bool (decide (a.num<0)),pa]) qb a.num b.den w hp hq (sa.1.more (by omega)) (sb.2.more (by omega))
 have hO2:=fun w hp hq=>prtimes_any (.agg #[.bool (decide (b.num<0)),pb]) qa b.num a.den w hp hq (sb.1.more (by omega)) (sa.2.more (by omega))
 have hC:=fun u v w hu hv=>pzcmp_any u v (a.num*b.den) (b.num*a.den) w hu hv
 rw[show cmpQ a b=cmpI (a.num*b.den) (b.num*a.den) from rfl]
 generalize cmpI (a.num*b.den) (b.num*a.den)=c at *
 generalize a.num*(b.den:Int)=m1 at *
 generalize b.num*(a.den:Int)=m2 at *
 generalize a.num=na at *
 generalize b.num=nb at *
 clear hpa hpb sa sb
 generalize decide (na<0)=sa at *
 generalize decide (nb<0)=sb at *
 obtain⟨W0,hW,hT,hB⟩:=box2 w 32 32 #[.bool sa,pa,qa] #[.bool sb,pb,qb]
 obtain⟨g,hg⟩:∃g,g=w.heap.size:=⟨_,rfl⟩
 have hW':=Lib.hid (And.intro hW hg)
 rw[←hg] at hT
 clear hW hg
 have hza:=hza.below hB
 have hzb:=hzb.below hB
 have hqa:=hqa.below hB
 have hqb:=hqb.below hB
 go_enter Tryz.func191,Tryz.ntmps191
 go_wp2
 rw[←hW'.out.1,←hW'.out.2]
 go_region_held3 (fun w'=>w'.cell? ⟨g,0,none⟩=some (.bool sa)∧w'.cell? ⟨g,1,none⟩=some pa∧w'.cell? ⟨g,2,none⟩=some qa∧w'.cell? ⟨g+1,0,none⟩=some (.bool sb)∧w'.cell? ⟨g+1,1,none⟩=some pb∧w'.cell? ⟨g+1,2,none⟩=some qb) (exact Two.cells33 (hT.below (by first | assumption | exact balloc (by assumption) _ | exact bdrew _ | exact balloc (bdrew _) _) hT.lt))
  (first
   | (go_at_call 183;(with_reducible refine (hO1 _ ?_ ?_).mono ?_);exact hza.below (by first | assumption | exact balloc (by assumption) _ | exact bdrew _ | exact balloc (bdrew _) _);exact hqb.below (by first | assumption | exact balloc (by assumption) _ | exact bdrew _ | exact balloc (bdrew _) _);rintro x w1 ⟨v1,rfl,h1,b1⟩;have B1:=bstep (by first | assumption | exact balloc (by assumption) _ | exact bdrew _ | exact balloc (bdrew _) _) b1)
   | (go_at_call 183;(with_reducible refine (hO2 _ ?_ ?_).mono ?_);exact hzb.below (by first | assumption | exact balloc (by assumption) _ | exact bdrew _ | exact balloc (bdrew _) _);exact hqa.below (by first | assumption | exact balloc (by assumption) _ | exact bdrew _ | exact balloc (bdrew _) _);rintro x w2 ⟨v2,rfl,h2,b2⟩;have B2:=bstep (by first | assumption | exact balloc (by assumption) _ | exact bdrew _ | exact balloc (bdrew _) _) b2;have h1:=h1.below (by first | exact b2 | exact bstep (balloc (Below.refl _ _) _) b2))
   | (go_at_call 210;(with_reducible refine (hC _ _ _ ?_ ?_).mono ?_);exact h1.below (by first | exact Below.refl _ _ | exact balloc (Below.refl _ _) _);exact h2.below (by first | exact Below.refl _ _ | exact balloc (Below.refl _ _) _);rintro x w3 ⟨rfl,b3⟩;have B3:=bstep (by first | assumption | exact balloc (by assumption) _ | exact bdrew _ | exact balloc (bdrew _) _) b3))
 go_wp2
 go_ret
 exact⟨rfl,hB.trans (B3.mono hB.size)⟩
end Go.Proofs.YtdnjdglekifhpaaGreat
namespace Go.Proofs.YtdnjdglekifhpaaGreat
def I64 (a:Int):Prop:= -9223372036854775808≤a∧a≤9223372036854775807
end Go.Proofs.YtdnjdglekifhpaaGreat

namespace Go.Proofs.YtdnjdglekifhpaaGreat
open Go.ChangeShapes Go.WideShapes Go.ChangeAt Go.RowKit
section
variable {H:Type} {enc:TypeId×Value→H} {P:Program}
theorem post_of_below {f:Func} {s:ChangeSpec} {apart fresh handsOn again:Bool} {W W':World} {args:Array Value} {v:Value} {ds gs:List (DataW H)} {before pa pv:List MemPlace}
 (hW:DataW.Whole enc P f.params.toList s.vars apart W args.toList ds gs before)
 (hres:∀(b:Nat) (sp:Nat→Bool) (hd:Bool),DataW.TrodAll enc P W' b sp hd f.resultTypes.toList (v.resultList f.resultTypes.size) (s.fn H (ds++gs)).results [])
 (hargs:∀sp:Nat→Bool,(∀p∈before,sp p.block=true)→DataW.TrodAll enc P W' 0 sp true f.params.toList args.toList (s.fn H (ds++gs)).args pa)
 (hvars:∀sp:Nat→Bool,(∀p∈before,sp p.block=true)→DataW.TrodVars enc P W' sp s.vars (s.fn H (ds++gs)).vars pv)
 (hps:before=pa++pv) (hb:Below W.heap.size W W')
 (hok:∀(j:Nat) (t:TypeId) (r:Value),f.resultTypes[j]?=some t→(v.resultList f.resultTypes.size)[j]?=some r→Value.okWide P W' .any 0 t r):
 s.post enc P f apart fresh handsOn again W args v W':=by
 have hlt:∀p∈before,p.block<W.heap.size:=fun p hp=>hW.lt p hp
 have hold:∀p∈before,(fun b=>decide (b<W.heap.size)) p.block=true:=fun p hp=>by simpa using hlt p hp
 refine ⟨ds,gs,before,[],pa,pv,hW,hres _ _ _,hargs _ hold,hvars _ hold,World.keptBut_mono (fun p hp=>⟨hp,?_⟩) (hb.frame (· ∈before)),fun _=>?_⟩
 ·rw[hps,List.mem_append] at hp
  exact Or.inr hp
 ·obtain⟨_,_,_,_,_,hz,hn⟩:=hW
  refine ⟨hok,_,_,([]++pa)++pv,⟨[]++pa,pv,trodAll_append (hargs _ (fun _ _=>rfl)) (hres _ _ _),hvars _ (fun _ _=>rfl),rfl,?_,?_⟩,?_⟩
  ·intro b off hp
   have hin:MemPlace.cell b off∈before:=by rw[hps];simpa using hp
   rw[hb.frozen (hlt _ hin)]
   exact hz b off hin
  ·intro ha
   have:=hn ha
   rw[hps] at this
   simpa using this
  ·intro p hp _
   rw[hps]
   simpa using hp
theorem below_trodAll (hl:laidOutB P=true) {W W':World} (hb:Below W.heap.size W W') (sp:Nat→Bool):∀{ts:List TypeId} {vs:List Value} {ds:List (DataW H)} {ps:List MemPlace},
 (∀t∈ts,P.readableRec t=true∧t<P.types.size)→DataW.TrodAll enc P W 0 (fun _=>true) true ts vs ds ps→(∀x∈ps,x.block<W.heap.size)→(∀x∈ps,sp x.block=true)→
 DataW.TrodAll enc P W' 0 sp true ts vs ds ps:=by
 intro ts
 induction ts with
 | nil=>intro vs ds ps _ h _ _;obtain⟨rfl,rfl,rfl⟩:=trodAll_nil h;rfl
 | cons t ts ih =>
   intro vs ds ps hr h hlt hsp
   obtain⟨v,vs',d,ds',p,q,rfl,rfl,rfl,h1,h2⟩:=trodAll_cons h
   obtain⟨k1,k2⟩:=hr t (List.mem_cons_self ..)
   exact⟨p,q,WideElems.Trod_stays hl k1 k2 h1 (fun x hx=>hb.same (hlt x (List.mem_append_left _ hx))) (fun x hx=>hsp x (List.mem_append_left _ hx)),ih (fun t' ht=>hr t' (List.mem_cons_of_mem _ ht)) h2 (fun x hx=>hlt x (List.mem_append_right _ hx)) (fun x hx=>hsp x (List.mem_append_right _ hx)),rfl⟩
theorem trodAll_len {w:World} {b:Nat} {sp:Nat→Bool} {hd:Bool}:∀{ts:List TypeId} {vs:List Value} {ds:List (DataW H)} {ps:List MemPlace},DataW.TrodAll enc P w b sp hd ts vs ds ps→ds.length=ts.length:=by
 intro ts
 induction ts with
 | nil=>intro vs ds ps h;obtain⟨rfl,rfl,rfl⟩:=trodAll_nil h;rfl
 | cons t ts ih =>
   intro vs ds ps h
   obtain⟨v,vs',d,ds',p,q,rfl,rfl,rfl,h1,h2⟩:=trodAll_cons h
   simp[ih h2]
end
theorem Tryz.own:ownKnob Tryz.prog.godebug=none:=by kernel_rfl
theorem Tryz.laidOut:laidOutB Tryz.prog=true:=by kernel_rfl
def LawWalk (f:FuncId) (fn:Func):Prop:=
 ∀(W:World) (base:Nat) (args:Array Value) (H:Type) (enc:TypeId×Value→H) (ds:List (DataW H)) (p:List MemPlace),
  (∀(j:Nat) t v,fn.params[j]?=some t→args[j]?=some v→Value.okWide Tryz.prog W .any base t v)→
  DataW.TrodAll enc Tryz.prog W 0 (fun _=>true) true fn.params.toList args.toList ds p→(∀x∈p,x.block<W.heap.size)→
  (DataW.weightsEach Tryz.prog fn.params.toList ds).all (· ≤reachBytes)=true→
  Calls Tryz.prog f args W fun e W'=>e= .returned (.bool true)∧Below W.heap.size W W'
theorem law_lifted (f:FuncId) (fn:Func) (s:ChangeSpec) (conds:List PathCond) (_:conds=[]) (hvars:s.vars=[]) (hres:fn.resultTypes= #[4])
 (hfn:Tryz.prog.funcs[f]?=some fn) (noInit:Tryz.checked.prog.inits.idxOf? f=none) (hread:∀t∈fn.params.toList,Tryz.prog.readableRec t=true∧t<Tryz.prog.types.size)
 (hs:∀(H:Type) (ds:List (DataW H)),ds.length=fn.params.toList.length→(s.fn H ds).results=[.lit (.bool true)]∧(s.fn H ds).args=ds∧(s.fn H ds).vars=[])
 (wit : ∀ (os : Os), os.Started → ∀ (H : Type) (enc : TypeId × Value → H), ∃ (w : World) (tape : Tape) (i : Input), w.os = os ∧ (w.forCall tape i).Shaped Tryz.checked.prog ∧ i.vars = [] ∧ Input.okWide Tryz.checked.prog (w.forCall tape i) .any w.heap.size f i ∧
  s.pre6 enc Tryz.checked.prog fn conds false (w.forCall tape i).memory i.args∧({}:Assume).holds Tryz.checked.prog (lone (Frame.enter Tryz.checked.prog f i.args .normal) [] (w.forCall tape i)))
 (walk:LawWalk f fn) (os:Os) (started:os.Started) (H:Type) (enc:TypeId×Value→H):
 ReturnsInHanded {} Tryz.checked os f .any (s.pre6 enc Tryz.prog fn conds false) (s.post enc Tryz.prog fn false true false false):=by
 refine returnsInHanded_of_change_sized (C:=Tryz.checked) Tryz.own started noInit hfn (wit os started H enc) ?_
 intro W base args ds gs before hval hW _ hsz _
 have hW':=hW
 obtain⟨p,q,hA,hV,rfl,_,_⟩:=hW
 rw[hvars] at hV
 obtain⟨rfl,rfl⟩:=trodVars_none hV
 have hlt:∀x∈p,x.block<W.heap.size:=fun x hx=>hW'.lt x (by simpa using hx)
 have hlen:ds.length=fn.params.toList.length:=trodAll_len hA
 obtain⟨e1,e2,e3⟩:=hs H ds hlen
 have hsz':(DataW.weightsEach Tryz.prog fn.params.toList ds).all (· ≤reachBytes)=true:=by
  have hv:s.plain.varTypes Tryz.checked.prog=[]:=by simp[ChangeSpec.plain,hvars,DataSpec.varTypes]
  rw[hv,List.append_nil,List.append_nil] at hsz
  exact hsz
 refine (walk W base args H enc ds p hval hA hlt hsz').mono fun e W' ⟨he,hb⟩=>?_
 subst he
 refine ⟨_,rfl,post_of_below (pa:=p) (pv:=[]) hW' (fun _ _ _=>?_) (fun sp hsp=>?_) (fun _ _=>?_) rfl hb ?_⟩
 ·rw[hres,List.append_nil,e1]
  exact trodAll_mk1 (shut_bool Tryz.underlying4 true)
 ·rw[List.append_nil,e2]
  exact below_trodAll Tryz.laidOut hb sp hread hA hlt (fun x hx=>hsp x (by simpa using hx))
 ·rw[hvars,List.append_nil,e3];rfl
 ·exact ok_one hres rfl (okWide_bool_mk Tryz.underlying4 true)
end Go.Proofs.YtdnjdglekifhpaaGreat
namespace Go.Proofs.YtdnjdglekifhpaaGreat
open Go.ChangeShapes Go.WideShapes Go.ChangeAt Go.RowKit
theorem wf_u64 {n:Int} (h:(Lit.int .u64 n).wf=true):0≤n∧n<(W64:Int):=by
 have h1:IntKind.u64.min=0:=rfl
 have h2:IntKind.u64.max=18446744073709551615:=rfl
 simp only[Lit.wf,Bool.and_eq_true,decide_eq_true_eq] at h
 unfold W64
 omega
end Go.Proofs.YtdnjdglekifhpaaGreat
namespace Go.Proofs.YtdnjdglekifhpaaGreat
open Go.ChangeShapes Go.WideShapes Go.ChangeAt Go.RowKit
theorem wf_I64 {n:Int} (h:(Lit.int .i64 n).wf=true):I64 n:=by
 have h1:IntKind.i64.min= -9223372036854775808:=rfl
 have h2:IntKind.i64.max=9223372036854775807:=rfl
 simp only[Lit.wf,Bool.and_eq_true,decide_eq_true_eq] at h
 unfold I64
 omega
end Go.Proofs.YtdnjdglekifhpaaGreat
namespace Go.Proofs.YtdnjdglekifhpaaGreat
open Go.ChangeShapes Go.WideShapes Go.ChangeAt Go.RowKit Go.Joins Go.Deep
section
variable {H:Type} {enc:TypeId×Value→H} {W:World}
theorem cells_intk:Tryz.prog.cellsOf 3=1:=by kernel_rfl
theorem cells_i64k:Tryz.prog.cellsOf 2=1:=by kernel_rfl
end
end Go.Proofs.YtdnjdglekifhpaaGreat
namespace Go.Proofs.YtdnjdglekifhpaaGreat
open Go.RowKit
attribute [local go_sem ↓] Go.wp_at_zero Go.wp_at_succ
def divQ (a b:Rat):Rat:=mkRat (a.num*sided (decide (b.num<0)) b.den) (a.den*b.num.natAbs)
theorem rqdiv_any (va vb:Value) (a b:Rat) (w:World) (ha:IsQ w va a) (hb:IsQ w vb b) (sa:BQ a 10000) (sb:BQ b 10000) (h0:b.num≠0):
 Calls Tryz.prog 80 #[va,vb] w fun e w'=>∃v',e= .returned (.tuple #[v',.int .i64 0])∧IsQ w' v' (divQ a b)∧Below w.heap.size w w':=by
 have hda:0<a.den:=Rat.den_pos a
 have hdb:0<b.den:=Rat.den_pos b
 have hnb:0<b.num.natAbs:=by omega
 obtain⟨pa,qa,rfl,hpa,hqa⟩:=ha
 have hza:IsZ w (.agg #[.bool (decide (a.num<0)),pa]) a.num:=⟨_,rfl,hpa⟩
 obtain⟨pb,qb,rfl,hpb,hqb⟩:=hb
 have hzb:IsZ w (.agg #[.bool (decide (b.num<0)),pb]) b.num:=⟨_,rfl,hpb⟩
 obtain⟨Ap,Lp,Cp,rfl,hLp⟩:=hpb.pos hnb
 obtain⟨Aq,Lq,Cq,rfl⟩:=hqb.frm
 obtain⟨c2,hc2⟩:∃c2,c2=sided (decide (b.num<0)) b.den:=⟨_,rfl⟩
 have hc3:decide (c2<0)=decide (b.num<0)∧c2.natAbs=b.den:=by
  rw[hc2];unfold sided
  cases h:decide (b.num<0)
  ·simp
  ·simp;omega
 have hzc:IsZ w (.agg #[.bool (decide (b.num<0)),.slice Aq Lq Cq]) c2:=⟨_,by rw[hc3.1],by rw[hc3.2];exact hqb⟩
 have hA:=fun w hu hv=>rzmul_any (.agg #[.bool (decide (a.num<0)),pa]) (.agg #[.bool (decide (b.num<0)),.slice Aq Lq Cq]) a.num c2 w hu hv (sa.1.more (by omega)) (by rw[hc3.2];exact sb.2.more (by omega))
 have hM:=fun w hu hv=>rmul_any qa (.slice Ap Lp Cp) a.den b.num.natAbs w hu hv (sa.2.fin (by omega)) (sb.1.fin (by omega))
 have s2:Sz c2.natAbs 10000:=by rw[hc3.2];exact sb.2
 have hK:=fun u v w hu hv=>rqmake_any u v (a.num*c2) (a.den*b.num.natAbs) w hu hv ((sa.1.imul s2).more (by omega)) ((sa.2.mul sb.1).more (by omega)) (Nat.mul_pos hda hnb)
 have hr:divQ a b=mkRat (a.num*c2) (a.den*b.num.natAbs):=by unfold divQ;rw[hc2]
 rw[←hr] at hK
 clear hr hc2 hc3 s2 hzb
 generalize divQ a b=r at *
 generalize a.num*c2=m3 at *
 generalize a.den*b.num.natAbs=d at *
 generalize a.num=na at *
 generalize b.num=nb at *
 generalize a.den=da at *
 generalize b.den=db at *
 clear hpa hqb sa sb hda hdb h0 hnb
 generalize decide (na<0)=sa at *
 generalize decide (nb<0)=sb at *
 have hL1:((Lp:Int) == 0)=false:=by rw[beq_eq_false_iff_ne];omega
 have hL2:decide (Lp=0)=false:=decide_eq_false (by omega)
 obtain⟨W0,hW,hT,hR,hB⟩:=box3 w 32 32 32 #[.bool sa,pa,qa] #[.bool sb,.slice Ap Lp Cp,.slice Aq Lq Cq] #[.bool false,.slice none 0 0,.slice none 0 0]
 obtain⟨g,hg⟩:∃g,g=w.heap.size:=⟨_,rfl⟩
 have hW':=Lib.hid (And.intro hW hg)
 rw[←hg] at hT hR
 clear hW hg
 have hza:=hza.below hB
 have hzc:=hzc.below hB
 have hqa:=hqa.below hB
 have hpb:=hpb.below hB
 have hgw:w.heap.size≤g:=by rw[hW'.out.2];omega
 obtain⟨k0,k1,k2,k3,k4,k5⟩:=hT.cells33
 go_enter Tryz.func80,Tryz.ntmps80
 go_upto_region 3 with fail
 rw[←hW'.out.1,←hW'.out.2]
 clear k0 k1 k2 k3 k4 k5
 go_region_held3 (fun w'=>w'.cell? ⟨g,0,none⟩=some (.bool sa)∧w'.cell? ⟨g,1,none⟩=some pa∧w'.cell? ⟨g,2,none⟩=some qa∧w'.cell? ⟨g+1,0,none⟩=some (.bool sb)∧w'.cell? ⟨g+1,1,none⟩=some (.slice Ap Lp Cp)∧w'.cell? ⟨g+1,2,none⟩=some (.slice Aq Lq Cq)) (first | exact Two.cells33 (hT.below (by first | assumption | exact balloc (by assumption) _ | exact bdrew _ | exact balloc (bdrew _) _) hT.lt) | exact Two.cells33 (Two.far3 (hT.below (by first | assumption | exact balloc (by assumption) _ | exact bdrew _ | exact balloc (bdrew _) _) hT.lt) _ _ _))
  (first
   | (go_at_call 77;(with_reducible refine (hA _ ?_ ?_).mono ?_);exact hza.below (by first | assumption | exact balloc (by assumption) _ | exact bdrew _ | exact balloc (bdrew _) _);exact hzc.below (by first | assumption | exact balloc (by assumption) _ | exact bdrew _ | exact balloc (bdrew _) _);rintro x w3 ⟨v3,rfl,h3,b3⟩;have B3:=bstep (a:=W0) (by first | assumption | exact balloc (by assumption) _ | exact bdrew _ | exact balloc (bdrew _) _) b3)
   | (go_at_call 73;(with_reducible refine (hM _ ?_ ?_).mono ?_);exact hqa.below (by first | assumption | exact balloc (by assumption) _ | exact bdrew _ | exact balloc (bdrew _) _);exact hpb.below (by first | assumption | exact balloc (by assumption) _ | exact bdrew _ | exact balloc (bdrew _) _);rintro x w4 ⟨v4,rfl,h4,b4⟩;have B4:=bstep (a:=W0) (by first | assumption | exact balloc (by assumption) _ | exact bdrew _ | exact balloc (bdrew _) _) b4;have h3:=h3.below (by first | exact b4 | exact bstep (balloc (Below.refl _ _) _) b4))
   | (go_at_call 70;(with_reducible refine (hK _ _ _ ?_ ?_).mono ?_);exact h3.below (by first | exact Below.refl _ _ | exact balloc (Below.refl _ _) _);exact h4.below (by first | exact Below.refl _ _ | exact balloc (Below.refl _ _) _);rintro x w5 ⟨v5,rfl,⟨n5,d5,rfl,h5,k5⟩,b5⟩;have B5:=bstep (a:=W0) (by first | assumption | exact balloc (by assumption) _ | exact bdrew _ | exact balloc (bdrew _) _) b5;obtain⟨A1,L1,C1,rfl⟩:=h5.frm;obtain⟨A2,L2,C2,rfl⟩:=k5.frm;have hR1:=hR.below B5 hR.lt;have q0:=hR1.cell 0;have q1:=hR1.cell 1;have q2:=hR1.cell 2;have z0:=hR1.frozen 0;have z1:=hR1.frozen 1;have z2:=hR1.frozen 2))
 obtain⟨p1,p2,p3⟩:=put3 hR1 (.bool (decide (r.num<0))) (.slice A1 L1 C1) (.slice A2 L2 C2) (by simp[noU]) (hB.trans (B5.mono hB.size)) (by rw[hW'.out.2];omega)
 have q0:=hR1.cell 0
 have z0:=hR1.frozen 0
 have q1:=hR1.cell 1
 have z1:=hR1.frozen 1
 have q2:=hR1.cell 2
 have z2:=hR1.frozen 2
 have P:=Lib.hid (And.intro (⟨_,_,rfl,p2 _ _ h5,p2 _ _ k5⟩:IsQ _ (.agg #[.bool (decide (r.num<0)),.slice A1 L1 C1,.slice A2 L2 C2]) r) (And.intro p3 p1.cells3))
 clear p1 p2 p3
 go_wp2
 obtain⟨P1,P2,P3,P4,P5⟩:=P.out
 exact bodyPost_ret (v:= .tuple #[.agg #[.bool (decide (r.num<0)),.slice A1 L1 C1,.slice A2 L2 C2],.int .i64 0]) (by simp[results,Tryz.results80,go_sem,P3,P4,P5]) rfl ⟨_,rfl,P1,P2⟩
end Go.Proofs.YtdnjdglekifhpaaGreat
namespace Go.Proofs.YtdnjdglekifhpaaGreat
open Go.RowKit
section
variable {t t':TypeId} {c c':Array Value} {B n n':Nat} {w w':World} {b b':Bool} {x y:Value}
theorem Got.no:Got t c B w false x n:=fun e=>nomatch e
end
attribute [local go_sem ↓] Go.wp_at_zero Go.wp_at_succ
theorem rzright_any (b:Bool) (nv:Value) (l:List Nat) (w:World) (h:IsL w nv l):
 Calls Tryz.prog 114 #[.agg #[.bool b,nv]] w fun e w'=>e= .returned (.bool (rightZ b l))∧Below w.heap.size w w':=by
 unfold rightZ
 have hS:=fun w hn=>rright_any nv l w hn
 obtain⟨W0,hW,hR,hB⟩:=box1 w 30 #[.bool b,nv]
 obtain⟨g,hg⟩:∃g,g=w.heap.size:=⟨_,rfl⟩
 have hW':=Lib.hid (And.intro hW hg)
 rw[←hg] at hR
 clear hW hg
 have hn:=h.below hB
 have HB:=Lib.hid hB
 obtain⟨A,c,rfl,_⟩:=id h
 obtain⟨q0,q1⟩:=hR.cells2
 generalize decide (l=[]∨lat l (l.length - 1)≠0)=r at *
 obtain⟨d,hd⟩:∃d,d=decide (l.length=0):=⟨_,rfl⟩
 rw[←hd]
 have hl0:decide ((0:Int)<(l.length:Int))= !d:=by
  rw[hd]
  rcases Nat.eq_zero_or_pos l.length with h9 | h9
  ·rw[decide_eq_false (by omega),decide_eq_true h9];rfl
  ·rw[decide_eq_true (by omega),decide_eq_false (by omega)];rfl
 have hl1:decide (0<l.length)= !d:=by
  rw[hd]
  rcases Nat.eq_zero_or_pos l.length with h9 | h9
  ·rw[decide_eq_false (by omega),decide_eq_true h9];rfl
  ·rw[decide_eq_true h9,decide_eq_false (by omega)];rfl
 clear h hd
 cases r<;>cases b<;>cases d
 all_goals
  go_enter Tryz.func114,Tryz.ntmps114
  go_wp2_with fail
  rw[←hW'.out.1,←hW'.out.2]
  refine (hS _ hn).mono ?_
  rintro e w1 ⟨rfl,rfl⟩
  go_wp2
  go_ret
  exact⟨rfl,HB.out⟩
theorem isZ_nil (w:World):IsZ w (.agg #[.bool false,.slice none 0 0]) 0:=⟨_,rfl,IsN.zero _⟩
theorem rqsame_zero (w:World):
 Calls Tryz.prog 21 #[.agg #[.bool false,.slice none 0 0,.slice none 0 0],.agg #[.bool false,.slice none 0 0,.slice none 0 0]] w fun e w'=>e= .returned (.bool true)∧Below w.heap.size w w':=
 rqsame_raw _ _ _ _ _ _ 0 0 0 0 w (isZ_nil w) (isZ_nil w) (IsN.zero w) (IsN.zero w)
theorem rssame_zero (w:World):
 Calls Tryz.prog 22 #[.agg #[.bool false,.slice none 0 0,.slice none 0 0,.bool false,.slice none 0 0,.slice none 0 0],.agg #[.bool false,.slice none 0 0,.slice none 0 0,.bool false,.slice none 0 0,.slice none 0 0]] w fun e w'=>e= .returned (.bool true)∧Below w.heap.size w w':=
 rssame_t _ _ _ _ _ _ _ _ _ _ _ _ _ _ _ _ _ _ _ _ _ _ _ _ _ _ _ _ true true w rfl (fun W _=>rqsame_zero W) (fun W _=>rqsame_zero W)
theorem rshas_t (v u:Value) (a b x:Rat) (w:World) (h:IsS w v a b) (hx:IsQ w u x) (sa:BQ a 10000) (sb:BQ b 10000) (sx:BQ x 10000) (hz:cmpQ a x≤0):
 Calls Tryz.prog 30 #[v,u] w fun e w'=>e= .returned (.bool (decide (cmpQ x b≤0)))∧Below w.heap.size w w':=by
 have hC1:=fun u v w h1 h2=>rqcmp_any u v a x w h1 h2 sa sx
 have hC2:=fun u v w h1 h2=>rqcmp_any u v x b w h1 h2 sx sb
 generalize cmpQ a x=c1 at *
 generalize cmpQ x b=c2 at *
 obtain⟨s1,A1,L1,C1,D1,M1,E1,s2,A2,L2,C2,D2,M2,E2,rfl,q1,q2⟩:=h.opn
 obtain⟨s3,A3,L3,C3,D3,M3,E3,rfl,q3⟩:=hx.opn
 have hd1:decide (c1≤0)=true:=decide_eq_true hz
 clear h hx sa sb sx
 obtain⟨g,hg⟩:∃g,g=w.heap.size:=⟨_,rfl⟩
 obtain⟨Y0,eY0,hA,bY0⟩:=box1 w 46 #[.bool s1,.slice A1 L1 C1,.slice D1 M1 E1,.bool s2,.slice A2 L2 C2,.slice D2 M2 E2]
 have zY0:Y0.heap.size=g+1:=by rw[eY0,World.size_alloc,←hg]
 rw[←hg] at hA
 replace q1:=q1.b bY0
 replace q2:=q2.b bY0
 replace q3:=q3.b bY0
 have hB:=bY0
 obtain⟨Y1,eY1,hC,bY1⟩:=box1 Y0 32 #[.bool s3,.slice A3 L3 C3,.slice D3 M3 E3]
 have zY1:Y1.heap.size=g+1+1:=by rw[eY1,World.size_alloc,zY0]
 rw[zY0] at hC
 replace hA:=hA.b bY1
 replace q1:=q1.b bY1
 replace q2:=q2.b bY1
 replace q3:=q3.b bY1
 replace hB:=bOn hB bY1
 have hgw:w.heap.size≤g:=by omega
 have EY:=Lib.hid (And.intro hg (And.intro eY0 eY1))
 clear hg eY0 zY0 eY1 zY1
 obtain⟨c0,c1,c2,c3,c4,c5⟩:=hA.q6
 obtain⟨c6,c7,c8⟩:=hC.q3
 go_enter Tryz.func30,Tryz.ntmps30
 go_wp2_with fail
 rw[←EY.out.2.1,←EY.out.2.2,←EY.out.1]
 refine (hC1 _ _ _ q1 q3).mono ?_
 rintro e w2 ⟨rfl,b2⟩
 replace q1:=q1.b b2
 replace q2:=q2.b b2
 replace q3:=q3.b b2
 replace hA:=hA.b b2
 replace hC:=hC.b b2
 replace hB:=bOn hB b2
 clear c0 c1 c2 c3 c4 c5 c6 c7 c8
 obtain⟨c9,c10,c11,c12,c13,c14⟩:=hA.q6
 obtain⟨c15,c16,c17⟩:=hC.q3
 go_wp2_with fail
 refine (hC2 _ _ _ q3 q2).mono ?_
 rintro e w4 ⟨rfl,b4⟩
 replace q1:=q1.b b4
 replace q2:=q2.b b4
 replace q3:=q3.b b4
 replace hA:=hA.b b4
 replace hC:=hC.b b4
 replace hB:=bOn hB b4
 clear c9 c10 c11 c12 c13 c14 c15 c16 c17
 obtain⟨c18,c19,c20,c21,c22,c23⟩:=hA.q6
 obtain⟨c24,c25,c26⟩:=hC.q3
 go_wp2
 go_ret
 exact⟨rfl,hB⟩
theorem rshas_f (v u:Value) (a b x:Rat) (w:World) (h:IsS w v a b) (hx:IsQ w u x) (sa:BQ a 10000) (sb:BQ b 10000) (sx:BQ x 10000) (hz:¬cmpQ a x≤0):
 Calls Tryz.prog 30 #[v,u] w fun e w'=>e= .returned (.bool false)∧Below w.heap.size w w':=by
 have hC1:=fun u v w h1 h2=>rqcmp_any u v a x w h1 h2 sa sx
 have hC2:=fun u v w h1 h2=>rqcmp_any u v x b w h1 h2 sx sb
 generalize cmpQ a x=c1 at *
 generalize cmpQ x b=c2 at *
 obtain⟨s1,A1,L1,C1,D1,M1,E1,s2,A2,L2,C2,D2,M2,E2,rfl,q1,q2⟩:=h.opn
 obtain⟨s3,A3,L3,C3,D3,M3,E3,rfl,q3⟩:=hx.opn
 have hd1:decide (c1≤0)=false:=decide_eq_false hz
 clear h hx sa sb sx
 obtain⟨g,hg⟩:∃g,g=w.heap.size:=⟨_,rfl⟩
 obtain⟨Y0,eY0,hA,bY0⟩:=box1 w 46 #[.bool s1,.slice A1 L1 C1,.slice D1 M1 E1,.bool s2,.slice A2 L2 C2,.slice D2 M2 E2]
 have zY0:Y0.heap.size=g+1:=by rw[eY0,World.size_alloc,←hg]
 rw[←hg] at hA
 replace q1:=q1.b bY0
 replace q2:=q2.b bY0
 replace q3:=q3.b bY0
 have hB:=bY0
 obtain⟨Y1,eY1,hC,bY1⟩:=box1 Y0 32 #[.bool s3,.slice A3 L3 C3,.slice D3 M3 E3]
 have zY1:Y1.heap.size=g+1+1:=by rw[eY1,World.size_alloc,zY0]
 rw[zY0] at hC
 replace hA:=hA.b bY1
 replace q1:=q1.b bY1
 replace q2:=q2.b bY1
 replace q3:=q3.b bY1
 replace hB:=bOn hB bY1
 have hgw:w.heap.size≤g:=by omega
 have EY:=Lib.hid (And.intro hg (And.intro eY0 eY1))
 clear hg eY0 zY0 eY1 zY1
 obtain⟨c0,c1,c2,c3,c4,c5⟩:=hA.q6
 obtain⟨c6,c7,c8⟩:=hC.q3
 go_enter Tryz.func30,Tryz.ntmps30
 go_wp2_with fail
 rw[←EY.out.2.1,←EY.out.2.2,←EY.out.1]
 refine (hC1 _ _ _ q1 q3).mono ?_
 rintro e w2 ⟨rfl,b2⟩
 replace q1:=q1.b b2
 replace q2:=q2.b b2
 replace q3:=q3.b b2
 replace hA:=hA.b b2
 replace hC:=hC.b b2
 replace hB:=bOn hB b2
 clear c0 c1 c2 c3 c4 c5 c6 c7 c8
 obtain⟨c9,c10,c11,c12,c13,c14⟩:=hA.q6
 obtain⟨c15,c16,c17⟩:=hC.q3
 go_wp2
 go_ret
 exact⟨rfl,hB⟩
theorem rshas_any (v u:Value) (a b x:Rat) (w:World) (h:IsS w v a b) (hx:IsQ w u x) (sa:BQ a 10000) (sb:BQ b 10000) (sx:BQ x 10000):
 Calls Tryz.prog 30 #[v,u] w fun e w'=>e= .returned (.bool (decide (cmpQ a x≤0) && decide (cmpQ x b≤0)))∧Below w.heap.size w w':=by
 by_cases e:cmpQ a x≤0
 ·rw[decide_eq_true e,Bool.true_and];exact rshas_t v u a b x w h hx sa sb sx e
 ·rw[decide_eq_false e,Bool.false_and];exact rshas_f v u a b x w h hx sa sb sx e
theorem sz_flr {a:Rat} {k n:Nat} (h:BQ a n):Sz (flr a k).natAbs (n+k+4):=by
 have:=sz_cel (k:=k) h.neg
 unfold cel at this
 rw[Rat.neg_neg,Int.natAbs_neg] at this
 exact this
theorem phas_t (v u:Value) (a b x:Rat) (w:World) (h:IsS w v a b) (hx:IsQ w u x) (sa:BQ a 10000) (sb:BQ b 10000) (sx:BQ x 10000) (hz:cmpQ a x≤0):
 Calls Tryz.prog 144 #[v,u] w fun e w'=>e= .returned (.bool (decide (cmpQ x b≤0)))∧Below w.heap.size w w':=by
 have hC1:=fun u v w h1 h2=>prcmp_any u v a x w h1 h2 sa sx
 have hC2:=fun u v w h1 h2=>prcmp_any u v x b w h1 h2 sx sb
 generalize cmpQ a x=c1 at *
 generalize cmpQ x b=c2 at *
 obtain⟨s1,A1,L1,C1,D1,M1,E1,s2,A2,L2,C2,D2,M2,E2,rfl,q1,q2⟩:=h.opn
 obtain⟨s3,A3,L3,C3,D3,M3,E3,rfl,q3⟩:=hx.opn
 have hd1:decide (c1≤0)=true:=decide_eq_true hz
 clear h hx sa sb sx
 obtain⟨g,Y1,hA,hC,hB,hgw,EY⟩:=boxes2 w 46 #[.bool s1,.slice A1 L1 C1,.slice D1 M1 E1,.bool s2,.slice A2 L2 C2,.slice D2 M2 E2] 32 #[.bool s3,.slice A3 L3 C3,.slice D3 M3 E3]
 replace q1:=q1.b hB
 replace q2:=q2.b hB
 replace q3:=q3.b hB
 obtain⟨c0,c1,c2,c3,c4,c5⟩:=hA.q6
 obtain⟨c6,c7,c8⟩:=hC.q3
 go_enter Tryz.func144,Tryz.ntmps144
 go_wp2_with fail
 rw[←EY.out.2,←EY.out.1]
 refine (hC1 _ _ _ q1 q3).mono ?_
 rintro e w2 ⟨rfl,b2⟩
 replace q1:=q1.b b2
 replace q2:=q2.b b2
 replace q3:=q3.b b2
 replace hA:=hA.b b2
 replace hC:=hC.b b2
 replace hB:=bOn hB b2
 clear c0 c1 c2 c3 c4 c5 c6 c7 c8
 obtain⟨c9,c10,c11,c12,c13,c14⟩:=hA.q6
 obtain⟨c15,c16,c17⟩:=hC.q3
 go_wp2_with fail
 refine (hC2 _ _ _ q3 q2).mono ?_
 rintro e w4 ⟨rfl,b4⟩
 replace q1:=q1.b b4
 replace q2:=q2.b b4
 replace q3:=q3.b b4
 replace hA:=hA.b b4
 replace hC:=hC.b b4
 replace hB:=bOn hB b4
 clear c9 c10 c11 c12 c13 c14 c15 c16 c17
 obtain⟨c18,c19,c20,c21,c22,c23⟩:=hA.q6
 obtain⟨c24,c25,c26⟩:=hC.q3
 go_wp2
 go_ret
 exact⟨rfl,hB⟩
theorem phas_f (v u:Value) (a b x:Rat) (w:World) (h:IsS w v a b) (hx:IsQ w u x) (sa:BQ a 10000) (sb:BQ b 10000) (sx:BQ x 10000) (hz:¬cmpQ a x≤0):
 Calls Tryz.prog 144 #[v,u] w fun e w'=>e= .returned (.bool false)∧Below w.heap.size w w':=by
 have hC1:=fun u v w h1 h2=>prcmp_any u v a x w h1 h2 sa sx
 have hC2:=fun u v w h1 h2=>prcmp_any u v x b w h1 h2 sx sb
 generalize cmpQ a x=c1 at *
 generalize cmpQ x b=c2 at *
 obtain⟨s1,A1,L1,C1,D1,M1,E1,s2,A2,L2,C2,D2,M2,E2,rfl,q1,q2⟩:=h.opn
 obtain⟨s3,A3,L3,C3,D3,M3,E3,rfl,q3⟩:=hx.opn
 have hd1:decide (c1≤0)=false:=decide_eq_false hz
 clear h hx sa sb sx
 obtain⟨g,Y1,hA,hC,hB,hgw,EY⟩:=boxes2 w 46 #[.bool s1,.slice A1 L1 C1,.slice D1 M1 E1,.bool s2,.slice A2 L2 C2,.slice D2 M2 E2] 32 #[.bool s3,.slice A3 L3 C3,.slice D3 M3 E3]
 replace q1:=q1.b hB
 replace q2:=q2.b hB
 replace q3:=q3.b hB
 obtain⟨c0,c1,c2,c3,c4,c5⟩:=hA.q6
 obtain⟨c6,c7,c8⟩:=hC.q3
 go_enter Tryz.func144,Tryz.ntmps144
 go_wp2_with fail
 rw[←EY.out.2,←EY.out.1]
 refine (hC1 _ _ _ q1 q3).mono ?_
 rintro e w2 ⟨rfl,b2⟩
 replace q1:=q1.b b2
 replace q2:=q2.b b2
 replace q3:=q3.b b2
 replace hA:=hA.b b2
 replace hC:=hC.b b2
 replace hB:=bOn hB b2
 clear c0 c1 c2 c3 c4 c5 c6 c7 c8
 obtain⟨c9,c10,c11,c12,c13,c14⟩:=hA.q6
 obtain⟨c15,c16,c17⟩:=hC.q3
 go_wp2
 go_ret
 exact⟨rfl,hB⟩
theorem phas_any (v u:Value) (a b x:Rat) (w:World) (h:IsS w v a b) (hx:IsQ w u x) (sa:BQ a 10000) (sb:BQ b 10000) (sx:BQ x 10000):
 Calls Tryz.prog 144 #[v,u] w fun e w'=>e= .returned (.bool (decide (cmpQ a x≤0) && decide (cmpQ x b≤0)))∧Below w.heap.size w w':=by
 by_cases e:cmpQ a x≤0
 ·rw[decide_eq_true e,Bool.true_and];exact phas_t v u a b x w h hx sa sb sx e
 ·rw[decide_eq_false e,Bool.false_and];exact phas_f v u a b x w h hx sa sb sx e
theorem pivof_any (v:Value) (a:Rat) (w:World) (h:IsQ w v a):
 Calls Tryz.prog 87 #[v] w fun e w'=>∃v',e= .returned v'∧IsS w' v' a a∧Below w.heap.size w w':=by
 obtain⟨s1,A1,L1,C1,D1,M1,E1,rfl,q1⟩:=h.opn
 clear h
 obtain⟨g,Y1,hA,hR,hB,hgw,EY⟩:=boxes2 w 32 #[.bool s1,.slice A1 L1 C1,.slice D1 M1 E1] 46 #[.bool s1,.slice A1 L1 C1,.slice D1 M1 E1,.bool s1,.slice A1 L1 C1,.slice D1 M1 E1]
 replace q1:=q1.b hB
 obtain⟨c0,c1,c2⟩:=hA.q3
 obtain⟨c3,c4,c5,c6,c7,c8⟩:=hR.q6
 go_enter Tryz.func87,Tryz.ntmps87
 go_wp2_with fail
 rw[←EY.out.2,←EY.out.1]
 exact bodyPost_ret (v:= .agg #[.bool s1,.slice A1 L1 C1,.slice D1 M1 E1,.bool s1,.slice A1 L1 C1,.slice D1 M1 E1]) (by simp[results,Tryz.results87,go_sem,c3,c4,c5,c6,c7,c8]) rfl ⟨_,rfl,⟨_,_,_,_,_,_,rfl,q1,q1⟩,by rw[EY.out.1];exact hB⟩
theorem pivadd_any (u v:Value) (a b c d:Rat) (w:World) (h:IsS w u a b) (h':IsS w v c d) (sa:BQ a 10000) (sb:BQ b 10000) (sc:BQ c 10000) (sd:BQ d 10000):
 Calls Tryz.prog 86 #[u,v] w fun e w'=>∃v',e= .returned v'∧IsS w' v' (a+c) (b+d)∧Below w.heap.size w w':=by
 have hA1:=fun u v w h1 h2=>pradd_any u v a c w h1 h2 sa sc
 have hA2:=fun u v w h1 h2=>pradd_any u v b d w h1 h2 sb sd
 generalize a+c=r1 at *
 generalize b+d=r2 at *
 obtain⟨s1,A1,L1,C1,D1,M1,E1,s2,A2,L2,C2,D2,M2,E2,rfl,q1,q2⟩:=h.opn
 obtain⟨s3,A3,L3,C3,D3,M3,E3,s4,A4,L4,C4,D4,M4,E4,rfl,q3,q4⟩:=h'.opn
 clear h h' sa sb sc sd
 obtain⟨g,Y2,hA,hC,hR,hB,hgw,EY⟩:=boxes3 w 46 #[.bool s1,.slice A1 L1 C1,.slice D1 M1 E1,.bool s2,.slice A2 L2 C2,.slice D2 M2 E2] 46 #[.bool s3,.slice A3 L3 C3,.slice D3 M3 E3,.bool s4,.slice A4 L4 C4,.slice D4 M4 E4] 46 #[.bool false,.slice none 0 0,.slice none 0 0,.bool false,.slice none 0 0,.slice none 0 0]
 replace q1:=q1.b hB
 replace q2:=q2.b hB
 replace q3:=q3.b hB
 replace q4:=q4.b hB
 obtain⟨c0,c1,c2,c3,c4,c5⟩:=hA.q6
 obtain⟨c6,c7,c8,c9,c10,c11⟩:=hC.q6
 obtain⟨c12,c13,c14,c15,c16,c17⟩:=hR.q6
 go_enter Tryz.func86,Tryz.ntmps86
 go_upto_region 1 with fail
 rw[←EY.out.2,←EY.out.1]
 replace hB:=hB.drew
 replace q1:=q1.b (bdrew _)
 replace q2:=q2.b (bdrew _)
 replace q3:=q3.b (bdrew _)
 replace q4:=q4.b (bdrew _)
 replace hA:=hA.drew
 replace hC:=hC.drew
 replace hR:=hR.drew
 clear c0 c1 c2 c3 c4 c5 c6 c7 c8 c9 c10 c11 c12 c13 c14 c15 c16 c17
 refine wp_region_noPanic ?_
 refine wp_region_held_drew (S:=fun w'=>w'.cell? ⟨g,0,none⟩=some (.bool s1)∧w'.cell? ⟨g,1,none⟩=some (.slice A1 L1 C1)∧w'.cell? ⟨g,2,none⟩=some (.slice D1 M1 E1)∧w'.cell? ⟨g,3,none⟩=some (.bool s2)∧w'.cell? ⟨g,4,none⟩=some (.slice A2 L2 C2)∧w'.cell? ⟨g,5,none⟩=some (.slice D2 M2 E2)∧w'.cell? ⟨g+1,0,none⟩=some (.bool s3)∧w'.cell? ⟨g+1,1,none⟩=some (.slice A3 L3 C3)∧w'.cell? ⟨g+1,2,none⟩=some (.slice D3 M3 E3)∧w'.cell? ⟨g+1,3,none⟩=some (.bool s4)∧w'.cell? ⟨g+1,4,none⟩=some (.slice A4 L4 C4)∧w'.cell? ⟨g+1,5,none⟩=some (.slice D4 M4 E4)) (by kernel_rfl) ?_ (fun hHeld=>?_)
 ·exact⟨hA.cell 0,hA.cell 1,hA.cell 2,hA.cell 3,hA.cell 4,hA.cell 5,hC.cell 0,hC.cell 1,hC.cell 2,hC.cell 3,hC.cell 4,hC.cell 5⟩
 obtain⟨wd1_1,hwd⟩:∃q,q=Y2.drew:=⟨_,rfl⟩
 rw[←hwd] at hB q1 q2 q3 q4 hA hC hR hHeld ⊢
 clear hwd
 refine tkA 0 rfl ?_
 refine tkA 1 rfl ?_
 refine tkA 2 rfl ?_
 refine tkA 3 rfl ?_
 refine tkA 5 rfl ?_
 refine tkA 6 rfl ?_
 refine tkA 7 rfl ?_
 refine tkA 8 rfl ?_
 try simp only[lay]
 refine rd1 4 rfl fun K hK=>?_
 go_simp
 refine (hA1 _ _ _ q1 q3).mono ?_
 rintro e u1_1 ⟨v5,rfl,q5,b1_1⟩
 replace q1:=q1.b b1_1
 replace q2:=q2.b b1_1
 replace q3:=q3.b b1_1
 replace q4:=q4.b b1_1
 replace hA:=hA.b b1_1
 replace hC:=hC.b b1_1
 replace hR:=hR.b b1_1
 replace hB:=bOn hB b1_1
 obtain⟨s5,A5,L5,C5,D5,M5,E5,rfl,q5⟩:=q5.opn
 go_wp2_with fail
 refine hK.out _ _ ?_ fun hHeld=>?_
 ·exact⟨hA.cell 0,hA.cell 1,hA.cell 2,hA.cell 3,hA.cell 4,hA.cell 5,hC.cell 0,hC.cell 1,hC.cell 2,hC.cell 3,hC.cell 4,hC.cell 5⟩
 clear hK K
 try simp only[lay]
 refine rd1 9 rfl fun K hK=>?_
 go_simp
 refine (hA2 _ _ _ q2 q4).mono ?_
 rintro e u1_2 ⟨v6,rfl,q6,b1_2⟩
 replace q1:=q1.b b1_2
 replace q2:=q2.b b1_2
 replace q3:=q3.b b1_2
 replace q4:=q4.b b1_2
 replace hA:=hA.b b1_2
 replace hC:=hC.b b1_2
 replace hR:=hR.b b1_2
 replace q5:=q5.b b1_2
 replace hB:=bOn hB b1_2
 obtain⟨s6,A6,L6,C6,D6,M6,E6,rfl,q6⟩:=q6.opn
 go_wp2_with fail
 refine hK.out _ _ ?_ fun hHeld=>?_
 ·exact⟨hA.cell 0,hA.cell 1,hA.cell 2,hA.cell 3,hA.cell 4,hA.cell 5,hC.cell 0,hC.cell 1,hC.cell 2,hC.cell 3,hC.cell 4,hC.cell 5⟩
 clear hK K
 refine tkA 10 rfl ?_
 try simp only[lay]
 refine rd1 11 rfl fun K hK=>?_
 obtain⟨u1_3,eu,hR',kz,kb,kB⟩:=fill6 hR (.bool s5) (.slice A5 L5 C5) (.slice D5 M5 E5) (.bool s6) (.slice A6 L6 C6) (.slice D6 M6 E6) (by simp[noU])
 obtain⟨x0,x1,x2,x3,x4,x5⟩:=hR.q6
 have xf:=hR.frozen
 go_simp
 rw[←eu]
 replace q1:=q1.filled kz
 replace q2:=q2.filled kz
 replace q3:=q3.filled kz
 replace q4:=q4.filled kz
 replace hA:=kb _ _ _ hA (by omega)
 replace hC:=kb _ _ _ hC (by omega)
 replace q5:=q5.filled kz
 replace q6:=q6.filled kz
 replace hB:=kB _ _ (by omega) hB
 replace hR:=hR'
 clear hR' kz kb kB eu xf x0 x1 x2 x3 x4 x5
 refine hK.out _ _ ?_ fun hHeld=>?_
 ·exact⟨hA.cell 0,hA.cell 1,hA.cell 2,hA.cell 3,hA.cell 4,hA.cell 5,hC.cell 0,hC.cell 1,hC.cell 2,hC.cell 3,hC.cell 4,hC.cell 5⟩
 clear hK K
 try simp only[lay]
 refine wpAnyH_done (by kernel_rfl) ?_ _
 refine NoPanic.normal ?_
 skip
 obtain⟨c18,c19,c20,c21,c22,c23⟩:=hA.q6
 obtain⟨c24,c25,c26,c27,c28,c29⟩:=hC.q6
 obtain⟨c30,c31,c32,c33,c34,c35⟩:=hR.q6
 go_wp2_with fail
 exact bodyPost_ret (v:= .agg #[.bool s5,.slice A5 L5 C5,.slice D5 M5 E5,.bool s6,.slice A6 L6 C6,.slice D6 M6 E6]) (by simp[results,Tryz.results86,go_sem,c30,c31,c32,c33,c34,c35]) rfl ⟨_,rfl,⟨_,_,_,_,_,_,rfl,q5,q6⟩,hB⟩
theorem pgrid60 (w:World):Calls Tryz.prog 147 #[.int .i64 60] w fun e w'=>e= .returned (.bool true)∧w=w':=by
 go_enter Tryz.func147,Tryz.ntmps147
 go_wp2
 go_ret
 exact⟨rfl,rfl⟩
theorem pbetween_any (u v:Value) (x y:Int) (w:World) (h:IsZ w u x) (h':IsZ w v y) (sx:Sz x.natAbs 10000) (sy:Sz y.natAbs 10000):
 Calls Tryz.prog 153 #[u,v,.int .i64 60] w fun e w'=>∃v',e= .returned v'∧IsS w' v' (mkRat x (2^60)) (mkRat y (2^60))∧Below w.heap.size w w':=by
 have hB1:=fun u w h=>pdback_any u x 60 (by omega) w h sx
 have hB2:=fun u w h=>pdback_any u y 60 (by omega) w h sy
 rw[show ((60:Nat):Int)=60 from rfl] at hB1 hB2
 generalize mkRat x (2^60)=r1 at *
 generalize mkRat y (2^60)=r2 at *
 obtain⟨s1,A1,L1,C1,rfl,z1⟩:=h.opn
 obtain⟨s2,A2,L2,C2,rfl,z2⟩:=h'.opn
 clear h h' sx sy
 obtain⟨g,Y2,hA,hC,hR,hB,hgw,EY⟩:=boxes3 w 30 #[.bool s1,.slice A1 L1 C1] 30 #[.bool s2,.slice A2 L2 C2] 46 #[.bool false,.slice none 0 0,.slice none 0 0,.bool false,.slice none 0 0,.slice none 0 0]
 replace z1:=z1.b hB
 replace z2:=z2.b hB
 obtain⟨c0,c1⟩:=hA.q2
 obtain⟨c2,c3⟩:=hC.q2
 obtain⟨c4,c5,c6,c7,c8,c9⟩:=hR.q6
 go_enter Tryz.func153,Tryz.ntmps153
 go_wp2_with fail
 rw[←EY.out.2,←EY.out.1]
 refine (hB1 _ _ z1).mono ?_
 rintro e w2 ⟨v3,rfl,q3,b2⟩
 replace z1:=z1.b b2
 replace z2:=z2.b b2
 replace hA:=hA.b b2
 replace hC:=hC.b b2
 replace hR:=hR.b b2
 replace hB:=bOn hB b2
 clear c0 c1 c2 c3 c4 c5 c6 c7 c8 c9
 obtain⟨c10,c11⟩:=hA.q2
 obtain⟨c12,c13⟩:=hC.q2
 obtain⟨c14,c15,c16,c17,c18,c19⟩:=hR.q6
 obtain⟨s3,A3,L3,C3,D3,M3,E3,rfl,q3⟩:=q3.opn
 obtain⟨X4,V4,h3,bV4,lX4,nX4,EV4⟩:=boxL hB 32 #[.bool s3,.slice A3 L3 C3,.slice D3 M3 E3]
 have dX4_hA:=nX4 _ hA.lt
 have dX4_hC:=nX4 _ hC.lt
 have dX4_hR:=nX4 _ hR.lt
 clear nX4
 go_upto_region 2 with fail
 rw[←EV4.out.1,←EV4.out.2]
 replace z1:=z1.b bV4
 replace z2:=z2.b bV4
 replace hA:=hA.b bV4
 replace hC:=hC.b bV4
 replace hR:=hR.b bV4
 replace q3:=q3.b bV4
 replace hB:=bOn hB bV4
 clear c10 c11 c12 c13 c14 c15 c16 c17 c18 c19
 obtain⟨c20,c21⟩:=hA.q2
 obtain⟨c22,c23⟩:=hC.q2
 obtain⟨c24,c25,c26,c27,c28,c29⟩:=hR.q6
 obtain⟨c30,c31,c32⟩:=h3.q3
 go_wp2_with fail
 refine (hB2 _ _ z2).mono ?_
 rintro e w6 ⟨v4,rfl,q4,b6⟩
 replace z1:=z1.b b6
 replace z2:=z2.b b6
 replace hA:=hA.b b6
 replace hC:=hC.b b6
 replace hR:=hR.b b6
 replace q3:=q3.b b6
 replace h3:=h3.b b6
 replace hB:=bOn hB b6
 clear c20 c21 c22 c23 c24 c25 c26 c27 c28 c29 c30 c31 c32
 obtain⟨c33,c34⟩:=hA.q2
 obtain⟨c35,c36⟩:=hC.q2
 obtain⟨c37,c38,c39,c40,c41,c42⟩:=hR.q6
 obtain⟨c43,c44,c45⟩:=h3.q3
 obtain⟨s4,A4,L4,C4,D4,M4,E4,rfl,q4⟩:=q4.opn
 obtain⟨X8,V8,h4,bV8,lX8,nX8,EV8⟩:=boxL hB 32 #[.bool s4,.slice A4 L4 C4,.slice D4 M4 E4]
 have dX8_hA:=nX8 _ hA.lt
 have dX8_hC:=nX8 _ hC.lt
 have dX8_hR:=nX8 _ hR.lt
 have dX8_h3:=nX8 _ h3.lt
 clear nX8
 go_upto_region 3 with fail
 rw[←EV8.out.1,←EV8.out.2]
 replace z1:=z1.b bV8
 replace z2:=z2.b bV8
 replace hA:=hA.b bV8
 replace hC:=hC.b bV8
 replace hR:=hR.b bV8
 replace q3:=q3.b bV8
 replace h3:=h3.b bV8
 replace q4:=q4.b bV8
 replace hB:=bOn hB bV8
 clear c33 c34 c35 c36 c37 c38 c39 c40 c41 c42 c43 c44 c45
 obtain⟨c46,c47⟩:=hA.q2
 obtain⟨c48,c49⟩:=hC.q2
 obtain⟨c50,c51,c52,c53,c54,c55⟩:=hR.q6
 obtain⟨c56,c57,c58⟩:=h3.q3
 obtain⟨c59,c60,c61⟩:=h4.q3
 obtain⟨p1,p2,p3⟩:=put6 hR (.bool s3) (.slice A3 L3 C3) (.slice D3 M3 E3) (.bool s4) (.slice A4 L4 C4) (.slice D4 M4 E4) (by simp[noU]) hB (by omega)
 have rc0:World.cell? _ ⟨g+1+1,0,none⟩=some (.bool false):=hR.cell 0
 have rf0:=hR.frozen 0
 have rc1:World.cell? _ ⟨g+1+1,1,none⟩=some (.slice none 0 0):=hR.cell 1
 have rf1:=hR.frozen 1
 have rc2:World.cell? _ ⟨g+1+1,2,none⟩=some (.slice none 0 0):=hR.cell 2
 have rf2:=hR.frozen 2
 have rc3:World.cell? _ ⟨g+1+1,3,none⟩=some (.bool false):=hR.cell 3
 have rf3:=hR.frozen 3
 have rc4:World.cell? _ ⟨g+1+1,4,none⟩=some (.slice none 0 0):=hR.cell 4
 have rf4:=hR.frozen 4
 have rc5:World.cell? _ ⟨g+1+1,5,none⟩=some (.slice none 0 0):=hR.cell 5
 have rf5:=hR.frozen 5
 have P:=Lib.hid (And.intro (⟨_,_,_,_,_,_,rfl,q3.kept p2,q4.kept p2⟩:IsS _ _ r1 r2) (And.intro p3 p1.cells6))
 clear p1 p2 p3
 go_wp2_with fail
 obtain⟨P1,P2,P3,P4,P5,P6,P7,P8⟩:=P.out
 exact bodyPost_ret (v:= .agg #[.bool s3,.slice A3 L3 C3,.slice D3 M3 E3,.bool s4,.slice A4 L4 C4,.slice D4 M4 E4]) (by simp[results,Tryz.results153,go_sem,P3,P4,P5,P6,P7,P8]) rfl ⟨_,rfl,P1,P2⟩
theorem pout_any (v:Value) (a b:Rat) (w:World) (h:IsS w v a b) (sa:BQ a 5000) (sb:BQ b 5000):
 Calls Tryz.prog 88 #[v,.int .i64 60] w fun e w'=>∃v',e= .returned (.tuple #[v',.int .i64 0])∧IsS w' v' (mkRat (flr a 60) (2^60)) (mkRat (cel b 60) (2^60))∧Below w.heap.size w w':=by
 have hG:=fun w=>pgrid60 w
 have hF:=fun u w h=>pfloor_any u a 60 w h (by omega) (sa.more (by omega))
 have hC:=fun u w h=>pceil_any u b 60 w h (by omega) (sb.more (by omega))
 rw[show ((60:Nat):Int)=60 from rfl] at hF hC
 have hBt:=fun u v w h h'=>pbetween_any u v (flr a 60) (cel b 60) w h h' ((sz_flr (k:=60) sa).more (by omega)) ((sz_cel (k:=60) sb).more (by omega))
 generalize mkRat (flr a 60) (2^60)=r1 at *
 generalize mkRat (cel b 60) (2^60)=r2 at *
 generalize flr a 60=fl at *
 generalize cel b 60=ce at *
 obtain⟨s1,A1,L1,C1,D1,M1,E1,s2,A2,L2,C2,D2,M2,E2,rfl,q1,q2⟩:=h.opn
 clear h sa sb
 obtain⟨g,Y1,hA,hR,hB,hgw,EY⟩:=boxes2 w 46 #[.bool s1,.slice A1 L1 C1,.slice D1 M1 E1,.bool s2,.slice A2 L2 C2,.slice D2 M2 E2] 46 #[.bool false,.slice none 0 0,.slice none 0 0,.bool false,.slice none 0 0,.slice none 0 0]
 replace q1:=q1.b hB
 replace q2:=q2.b hB
 obtain⟨c0,c1,c2,c3,c4,c5⟩:=hA.q6
 obtain⟨c6,c7,c8,c9,c10,c11⟩:=hR.q6
 go_enter Tryz.func88,Tryz.ntmps88
 go_wp2_with fail
 rw[←EY.out.2,←EY.out.1]
 refine (hG _).mono ?_
 rintro e w2 ⟨rfl,rfl⟩
 go_wp2_with fail
 refine (hF _ _ q1).mono ?_
 rintro e w3 ⟨v3,rfl,z3,b3⟩
 replace q1:=q1.b b3
 replace q2:=q2.b b3
 replace hA:=hA.b b3
 replace hR:=hR.b b3
 replace hB:=bOn hB b3
 clear c0 c1 c2 c3 c4 c5 c6 c7 c8 c9 c10 c11
 obtain⟨c12,c13,c14,c15,c16,c17⟩:=hA.q6
 obtain⟨c18,c19,c20,c21,c22,c23⟩:=hR.q6
 obtain⟨s3,A3,L3,C3,rfl,z3⟩:=z3.opn
 obtain⟨X5,V5,h3,bV5,lX5,nX5,EV5⟩:=boxL hB 30 #[.bool s3,.slice A3 L3 C3]
 have dX5_hA:=nX5 _ hA.lt
 have dX5_hR:=nX5 _ hR.lt
 clear nX5
 go_upto_region 4 with fail
 rw[←EV5.out.1,←EV5.out.2]
 replace q1:=q1.b bV5
 replace q2:=q2.b bV5
 replace hA:=hA.b bV5
 replace hR:=hR.b bV5
 replace z3:=z3.b bV5
 replace hB:=bOn hB bV5
 clear c12 c13 c14 c15 c16 c17 c18 c19 c20 c21 c22 c23
 obtain⟨c24,c25,c26,c27,c28,c29⟩:=hA.q6
 obtain⟨c30,c31,c32,c33,c34,c35⟩:=hR.q6
 obtain⟨c36,c37⟩:=h3.q2
 go_wp2_with fail
 refine (hC _ _ q2).mono ?_
 rintro e w7 ⟨v4,rfl,z4,b7⟩
 replace q1:=q1.b b7
 replace q2:=q2.b b7
 replace hA:=hA.b b7
 replace hR:=hR.b b7
 replace z3:=z3.b b7
 replace h3:=h3.b b7
 replace hB:=bOn hB b7
 clear c24 c25 c26 c27 c28 c29 c30 c31 c32 c33 c34 c35 c36 c37
 obtain⟨c38,c39,c40,c41,c42,c43⟩:=hA.q6
 obtain⟨c44,c45,c46,c47,c48,c49⟩:=hR.q6
 obtain⟨c50,c51⟩:=h3.q2
 obtain⟨s4,A4,L4,C4,rfl,z4⟩:=z4.opn
 obtain⟨X9,V9,h4,bV9,lX9,nX9,EV9⟩:=boxL hB 30 #[.bool s4,.slice A4 L4 C4]
 have dX9_hA:=nX9 _ hA.lt
 have dX9_hR:=nX9 _ hR.lt
 have dX9_h3:=nX9 _ h3.lt
 clear nX9
 go_upto_region 5 with fail
 rw[←EV9.out.1,←EV9.out.2]
 replace q1:=q1.b bV9
 replace q2:=q2.b bV9
 replace hA:=hA.b bV9
 replace hR:=hR.b bV9
 replace z3:=z3.b bV9
 replace h3:=h3.b bV9
 replace z4:=z4.b bV9
 replace hB:=bOn hB bV9
 clear c38 c39 c40 c41 c42 c43 c44 c45 c46 c47 c48 c49 c50 c51
 obtain⟨c52,c53,c54,c55,c56,c57⟩:=hA.q6
 obtain⟨c58,c59,c60,c61,c62,c63⟩:=hR.q6
 obtain⟨c64,c65⟩:=h3.q2
 obtain⟨c66,c67⟩:=h4.q2
 go_wp2_with fail
 refine (hBt _ _ _ z3 z4).mono ?_
 rintro e w11 ⟨v5,rfl,h5,b11⟩
 replace q1:=q1.b b11
 replace q2:=q2.b b11
 replace hA:=hA.b b11
 replace hR:=hR.b b11
 replace z3:=z3.b b11
 replace h3:=h3.b b11
 replace z4:=z4.b b11
 replace h4:=h4.b b11
 replace hB:=bOn hB b11
 clear c52 c53 c54 c55 c56 c57 c58 c59 c60 c61 c62 c63 c64 c65 c66 c67
 obtain⟨c68,c69,c70,c71,c72,c73⟩:=hA.q6
 obtain⟨c74,c75,c76,c77,c78,c79⟩:=hR.q6
 obtain⟨c80,c81⟩:=h3.q2
 obtain⟨c82,c83⟩:=h4.q2
 obtain⟨s5,A5,L5,C5,D5,M5,E5,s6,A6,L6,C6,D6,M6,E6,rfl,q5,q6⟩:=h5.opn
 obtain⟨p1,p2,p3⟩:=put6 hR (.bool s5) (.slice A5 L5 C5) (.slice D5 M5 E5) (.bool s6) (.slice A6 L6 C6) (.slice D6 M6 E6) (by simp[noU]) hB (by omega)
 have rc0:World.cell? _ ⟨g+1,0,none⟩=some (.bool false):=hR.cell 0
 have rf0:=hR.frozen 0
 have rc1:World.cell? _ ⟨g+1,1,none⟩=some (.slice none 0 0):=hR.cell 1
 have rf1:=hR.frozen 1
 have rc2:World.cell? _ ⟨g+1,2,none⟩=some (.slice none 0 0):=hR.cell 2
 have rf2:=hR.frozen 2
 have rc3:World.cell? _ ⟨g+1,3,none⟩=some (.bool false):=hR.cell 3
 have rf3:=hR.frozen 3
 have rc4:World.cell? _ ⟨g+1,4,none⟩=some (.slice none 0 0):=hR.cell 4
 have rf4:=hR.frozen 4
 have rc5:World.cell? _ ⟨g+1,5,none⟩=some (.slice none 0 0):=hR.cell 5
 have rf5:=hR.frozen 5
 have P:=Lib.hid (And.intro (⟨_,_,_,_,_,_,rfl,q5.kept p2,q6.kept p2⟩:IsS _ _ r1 r2) (And.intro p3 p1.cells6))
 clear p1 p2 p3
 go_wp2_with fail
 obtain⟨P1,P2,P3,P4,P5,P6,P7,P8⟩:=P.out
 exact bodyPost_ret (v:= .tuple #[.agg #[.bool s5,.slice A5 L5 C5,.slice D5 M5 E5,.bool s6,.slice A6 L6 C6,.slice D6 M6 E6],.int .i64 0]) (by simp[results,Tryz.results88,go_sem,P3,P4,P5,P6,P7,P8]) rfl ⟨_,rfl,P1,P2⟩
theorem pup_any (v:Value) (a:Rat) (w:World) (h:IsQ w v a) (sa:BQ a 10000):
 Calls Tryz.prog 149 #[v,.int .i64 60] w fun e w'=>∃v',e= .returned v'∧IsN w' v' (a.num.natAbs*2^120)∧Below w.heap.size w w':=by
 obtain⟨s1,A1,L1,C1,D1,M1,E1,rfl,q1⟩:=h.opn
 have hS:=fun w h=>dshl_any (.slice A1 L1 C1) a.num.natAbs 120 (by omega) w h (sa.1.fin (by omega))
 rw[show ((120:Nat):Int)=120 from rfl] at hS
 generalize hm:a.num.natAbs*2^120=m at *
 generalize hn:a.num.natAbs=n at *
 clear h sa hm
 obtain⟨g,Y0,hA,hB,hgw,EY⟩:=boxes1 w 32 #[.bool s1,.slice A1 L1 C1,.slice D1 M1 E1]
 replace q1:=q1.b hB
 obtain⟨c0,c1,c2⟩:=hA.q3
 go_enter Tryz.func149,Tryz.ntmps149
 have n1:=q1.parts.2.1.parts.2
 rw[hn] at n1
 go_wp2_with fail
 rw[←EY.out.2,←EY.out.1]
 refine (hS _ n1).mono ?_
 rintro e w2 ⟨v2,rfl,n2,b2⟩
 replace q1:=q1.b b2
 replace hA:=hA.b b2
 replace n1:=n1.b b2
 replace hB:=bOn hB b2
 clear c0 c1 c2
 obtain⟨c3,c4,c5⟩:=hA.q3
 go_wp2
 go_ret
 exact⟨_,rfl,n2,hB⟩
end Go.Proofs.YtdnjdglekifhpaaGreat
