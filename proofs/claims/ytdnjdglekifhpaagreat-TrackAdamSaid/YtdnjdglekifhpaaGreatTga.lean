/- A part of the proof of: ADAM: against the real moments of the same gradients, from noughts on, kept moments are never farther away than their bounds, step by step. No conditions: every input. -/
import Derived.Deep.RegionHeld3
import Derived.OrdersHeld
import Derived.Below
import Derived.Test.YtdnjdglekifhpaaGreatChecked
import Derived.WalkKit
import Derived.Laws.OwnMore
import Derived.Deep.AppendLies
import Derived.Deep.Draws
import Derived.Lib.Hide
import Derived.Deep.QuietTactic
import Derived.Tactics
import Derived.BigQuiet
import Derived.Laws.Rows
import Derived.Laws.AppendOwn
import Derived.Maps.AppendAt
import Derived.RegionTactic
import Derived.OwnWalk
import Derived.Outline
import Derived.LoopTactic
import Derived.StillTailTactics
import Derived.Laws.MakeOwn
import Derived.ChangeKeysEq
import Derived.Laws.StructEq
import Derived.Deep.RegionLaw
import Derived.Deep.DeepMust
import Derived.Laws.Externs
import Derived.Shelf.Bits.Mul64
import Derived.Shelf.Strconv.Itoa0
import Derived.Deep.DrawnRows
import Derived.Deep.LoopGhost
import Derived.RangeFuncCalls
import Derived.Deep.DeepCutAuto
import Derived.Laws.BytesArg
import Derived.Lib.Bytes
import Derived.Handy
import Derived.Lib.SliceRun
import Derived.Test.YtdnjdglekifhpaaGreatRows
import Derived.ChangeSame
import Derived.ProofKit
import Derived.SizedLaws
import Derived.Carry
import Derived.Laws.Shifts
import Derived.Laws.BitsAllLaws
import Derived.Laws.BitsLemmas
import Derived.Deep.CutBlock
import Derived.WalkMore
import Derived.RangeFuncWrites
import Derived.RangeFuncNested
import Derived.RangeFuncBound
import Derived.RangeFuncLeaves
import Derived.Shelf.Abstract
import Derived.Shelf.RegionOpen
import Derived.OwnWalkIn
import Derived.TacticsInMore
import Derived.LoopNIn
import Derived.LoopIn
import Derived.RangeFuncBox
import Derived.RangeFuncFrom
import Derived.StillTail
import Derived.StillTactics
import Derived.OrdersIn
import Derived.TacticsIn
import Derived.CallsIn
import Derived.Laws.EntriesVeiled
import Derived.Deep.RegionHeld
import Derived.Shelf.SortG.Plain
import Derived.OpenShut
import Derived.Lib.SmallJoins
import Derived.Deep.Slices
import Derived.Deep.RegionWith
import Derived.Sort.QuietIn
import Derived.Lib.MinMax
import Derived.Maps.OwnIn
import Derived.WalkLawsBesides
import Derived.Defers
import Derived.Recover
import Derived.Test.YtdnjdglekifhpaaGreatTyf
set_option maxRecDepth 100000
set_option maxHeartbeats 8000000
namespace Go.Proofs.YtdnjdglekifhpaaGreat
theorem tkS {P:Program} {ops:Array Oper} {Q:Exit→Act→World→Prop} {md:Region.Mode} {S:World→Prop} (i:Nat) {oi:Oper} (hi:ops[i]?=some oi) {fuel:Nat} {listed:Array Bool} {a:Act} {w:World}
 (h:wpAnyH P md ops Q S fuel (listed.setIfInBounds i true) (a.put oi.dst undef) w)
 (hs:Region.noSelect ops=true:=by kernel_rfl) (hf:Region.free md ops listed i=true:=by kernel_rfl) (hr:(Region.ready md ops listed).contains i=true:=by kernel_rfl)
 (hQ:∀c a w,Q (.panic c) (a.put oi.dst undef) w→Q (.panic c) a w:=by exact fun _ _ _ h=>h) (hw:Region.wanted oi (yielded ops a.tmps)=false:=by kernel_rfl) (hS:S w:=by assumption):wpAnyH P md ops Q S (fuel+1) listed a w:=
 wpAnyH_take hi hs hf hr hQ (.inr ⟨hw,rfl⟩) hS h
end Go.Proofs.YtdnjdglekifhpaaGreat
namespace Go.Proofs.YtdnjdglekifhpaaGreat
def rne (n d:Nat):Nat:=if d<2*(n % d)∨(2*(n % d)=d∧n / d % 2=1) then n / d+1 else n / d
def fitV (z:Int):Int:=if -9223372036854775808≤z∧z≤9223372036854775807 then z else 0
def fitE (z:Int):Int:=if -9223372036854775808≤z∧z≤9223372036854775807 then 0 else 2
theorem fit_in {z:Int} (h: -9223372036854775808≤z∧z≤9223372036854775807):fitV z=z∧fitE z=0:=⟨if_pos h,if_pos h⟩
theorem fit_out {z:Int} (h:¬(-9223372036854775808≤z∧z≤9223372036854775807)):fitV z=0∧fitE z=2:=⟨if_neg h,if_neg h⟩
theorem rne_ge (n d:Nat):n / d≤rne n d:=by unfold rne;split<;>omega
theorem sided_big {neg:Bool} {n:Nat} (h:18446744073709551616≤n):¬(-9223372036854775808≤sided neg n∧sided neg n≤9223372036854775807):=by
 unfold sided;cases neg<;>simp<;>omega
def mulZ (a b:Int) (f:Nat):Int:=sided (decide (a<0) != decide (b<0)) (rne (a.natAbs*b.natAbs) (2^f))
def fitB (z:Int):Bool:=decide (-9223372036854775808≤z∧z≤9223372036854775807)
theorem fitV_in (z:Int): -9223372036854775808≤fitV z∧fitV z≤9223372036854775807:=by unfold fitV;split<;>omega
end Go.Proofs.YtdnjdglekifhpaaGreat
namespace Go.Proofs.YtdnjdglekifhpaaGreat
theorem nuh_split (l:List Nat) (k:Nat) (h:k≤l.length):nuh l=nuh (l.take k)+H32^k*nuh (l.drop k):=by
 have:=nuh_append (l.take k) (l.drop k)
 rw[List.take_append_drop,List.length_take,Nat.min_eq_left h] at this
 exact this
theorem nuh_set (l:List Nat) (i v:Nat) (h:i<l.length):nuh (l.set i v)+H32^i*lat l i=nuh l+H32^i*v:=by
 have e1:=nuh_split l i (by omega)
 have e2:=nuh_split (l.set i v) i (by simp;omega)
 rw[drop_lat l i h,nuh] at e1
 rw[drop_lat (l.set i v) i (by simp;omega),nuh,lat_set,if_pos ⟨rfl,h⟩,List.take_set_of_le (Nat.le_refl _),List.drop_set_of_lt (by omega)] at e2
 rw[e1,e2]
 simp only[Nat.mul_add]
 omega
theorem nuh_zeros (n:Nat):nuh (zeros n)=0:=by
 unfold zeros
 induction n with
 | zero=>rfl
 | succ n ih=>rw[List.replicate_succ,nuh,ih];simp
theorem hmul_digit {x y o c n:Nat} (hx:x<H32) (hy:y<H32) (ho:o<H32) (hc:c<H32) (e:n=o+x*y+c):n<W64∧n % H32+H32*(n / H32)=x*y+o+c∧n / H32<H32∧o+x*y<W64:=by
 have hp:x*y≤(H32 - 1)*(H32 - 1):=Nat.mul_le_mul (by omega) (by omega)
 have hp2:(H32 - 1)*(H32 - 1)+2*(H32 - 1)+1=H32*H32:=by unfold H32;rfl
 refine ⟨by rw[W64_H32];omega,by rw[Nat.mod_add_div,e];omega,?_,by rw[W64_H32];omega⟩
 rw[Nat.div_lt_iff_lt_mul H32_pos];omega
theorem hmul_inner {l b:List Nat} {i k N x c o s2 r:Nat} (hl:i+k<l.length) (ho:o=lat l (i+k)) (hinv:nuh l+H32^(i+k)*c=N+H32^i*(x*nuh (b.take k))) (hd:s2+H32*r=x*lat b k+o+c):
 nuh (l.set (i+k) s2)+H32^(i+k+1)*r=N+H32^i*(x*nuh (b.take (k+1))):=by
 have e1:=nuh_set l (i+k) s2 hl
 rw[←ho] at e1
 rw[nuh_take_succ,Nat.mul_add x,Nat.mul_add (H32^i),←Nat.add_assoc,←hinv,Nat.pow_succ]
 have e2:=congrArg (H32^(i+k)* ·) hd
 simp only[Nat.mul_add] at e2
 have e3:H32^i*(x*(H32^k*lat b k))=H32^(i+k)*(x*lat b k):=by
  rw[Nat.pow_add,Nat.mul_left_comm x,Nat.mul_assoc]
 have e4:H32^(i+k)*H32*r=H32^(i+k)*(H32*r):=by rw[Nat.mul_assoc]
 rw[e3,e4]
 omega
theorem hmul_outer {l a b:List Nat} {i c:Nat} (hl:i+b.length<l.length) (h0:lat l (i+b.length)=0) (hinv:nuh l+H32^(i+b.length)*c=nuh (a.take i)*nuh b+H32^i*(lat a i*nuh b)):
 nuh (l.set (i+b.length) c)=nuh (a.take (i+1))*nuh b:=by
 have e1:=nuh_set l (i+b.length) c hl
 rw[h0] at e1
 rw[nuh_take_succ,Nat.add_mul,Nat.mul_assoc,←hinv]
 omega
end Go.Proofs.YtdnjdglekifhpaaGreat
namespace Go.Proofs.YtdnjdglekifhpaaGreat
open Go.RowKit
section
variable {w w':World} {v:Value} {l:List Nat} {n:Nat}
theorem us_cell0 {A:Option Addr} {m B:Nat} (h:Reads w B 1 A m (us l)) (hk:0<m):∃ad,A=some ad∧ad.block<B∧w.cell? ad=some (.int .u64 ((lat l 0:Nat):Int)):=by
 obtain⟨ad,e,hb,hc⟩:=us_cell h hk
 exact⟨ad,e,hb,by simpa [Addr.add] using hc⟩
end
end Go.Proofs.YtdnjdglekifhpaaGreat

namespace Go.Proofs.YtdnjdglekifhpaaGreat
open Go.RowKit
theorem is_append (a b:List Int):is (a++b)=is a++is b:=by simp[is]
theorem is_one (l:List Int):∀u∈is l,u.oneCell'=true:=by
 intro u hu;obtain⟨n,_,rfl⟩:=List.mem_map.1 hu;rfl
theorem iat_snoc_take (l:List Int) (k:Nat) (h:k<l.length):l.take (k+1)=l.take k++[iat l k]:=by
 rw[List.take_succ_eq_append_getElem h];simp[iat,h]
end Go.Proofs.YtdnjdglekifhpaaGreat
namespace Go.Proofs.YtdnjdglekifhpaaGreat
open Go.RowKit
theorem small_any (v:Value) (l:List Nat) (w:World) (h:IsL w v l):
 Calls Tryz.prog 268 #[v] w fun e w'=>e= .returned (if l.length≤1 then .tuple #[.int .u64 (lat l 0:Nat),.bool true] else .tuple #[.int .u64 0,.bool false])∧w=w':=by
 obtain⟨A,c,rfl,hlc,hc,hbd,hr⟩:=h
 rcases l with _ | ⟨x,_ | ⟨y,r⟩⟩
 ·go_enter Tryz.func268,Tryz.ntmps268
  go_wp2
  go_ret2
  exact⟨rfl,rfl⟩
 ·obtain⟨ad,rfl,hb,hcell⟩:=us_cell0 hr (by simp)
  go_enter Tryz.func268,Tryz.ntmps268
  go_wp2
  go_ret2
  exact⟨rfl,rfl⟩
 ·have e0:(((r.length+1+1:Nat):Int) == 0)=false:=by rw[beq_eq_false_iff_ne];omega
  have e1:(((r.length+1+1:Nat):Int) == 1)=false:=by rw[beq_eq_false_iff_ne];omega
  go_enter Tryz.func268,Tryz.ntmps268
  go_wp2
  go_ret2
  exact⟨by simp,rfl⟩
end Go.Proofs.YtdnjdglekifhpaaGreat
namespace Go.Proofs.YtdnjdglekifhpaaGreat
open Go.RowKit Go.ChangeShapes
theorem eqi_u64 (d:Nat) (a b:Int) (W:World):(Op.equalIn (d+1) 141 (.int .u64 a) (.int .u64 b)).run Tryz.prog W= .ok (a == b) W:=by
 exact run_equalIn_int (P:=Tryz.prog) W d 141 .u64 .u64 a b Tryz.underlying141
theorem eql_pair (a b c d:Int) (W:World):
 (Op.equalIn 10000 194 (.agg #[.int .u64 a,.int .u64 b]) (.agg #[.int .u64 c,.int .u64 d])).run Tryz.prog W= .ok (a == c && b == d) W:=by
 obtain⟨i,hi,_⟩:=info_parts info_u64
 have hc:Tryz.prog.cellsOf 141=1:=by kernel_rfl
 have hr:List.range 2=[0,1]:=rfl
 rw[show (10000:Nat)=9999+1 from rfl,run_equalIn_array W 9999 _ _ Tryz.underlying194 hi,hc,hr]
 have e:=eqi_u64 9998
 have hk:Tryz.prog.plainKey 141=true:=by kernel_rfl
 have hp:∀(x y:Int) (W:World),(part 141 #[.int .u64 x,.int .u64 y] (0*1)).run Tryz.prog W= .ok (.int .u64 x) W:=by intro x y W;exact run_part_plain W hk rfl
 have hp1:∀(x y:Int) (W:World),(part 141 #[.int .u64 x,.int .u64 y] (1*1)).run Tryz.prog W= .ok (.int .u64 y) W:=by intro x y W;exact run_part_plain W hk rfl
 simp only[Op.eqItems,Sem.run_bind,hp,Result.andThen_ok,e]
 cases h1:(a == c)<;>cases h2:(b == d)<;>simp[Sem.run_bind,hp1,Result.andThen_ok,e,h2]
end Go.Proofs.YtdnjdglekifhpaaGreat
namespace Go.Proofs.YtdnjdglekifhpaaGreat
open Go.RowKit
theorem whole_any (v:Value) (l:List Nat) (w:World) (h:IsL w v l) (hh:Bh l) (hl:l.length≤5000000):
 Calls Tryz.prog 140 #[v] w fun e w'=>∃v',e= .returned v'∧IsN w' v' (nuh l)∧Below w.heap.size w w':=
 (whole_f v l w h hh hl).mono fun _ _ ⟨v',h1,h2,h3,_⟩=>⟨v',h1,h2,h3⟩
theorem radd_any (va vb:Value) (a b:Nat) (w:World) (ha:IsN w va a) (hb:IsN w vb b) (hla:(limbs a).length≤1000000) (hlb:(limbs b).length≤1000000):
 Calls Tryz.prog 137 #[va,vb] w fun e w'=>∃v',e= .returned v'∧IsN w' v' (a+b)∧Below w.heap.size w w':=
 (radd_f va vb a b w ha hb hla hlb).mono fun _ _ ⟨v',h1,h2,h3,_⟩=>⟨v',h1,h2,h3⟩
end Go.Proofs.YtdnjdglekifhpaaGreat
namespace Go.Proofs.YtdnjdglekifhpaaGreat
open Go.RowKit
theorem rsub_any (va vb:Value) (a b:Nat) (w:World) (ha:IsN w va a) (hb:IsN w vb b) (hla:(limbs a).length≤1000000) (hlb:(limbs b).length≤1000000) (hle:b≤a):
 Calls Tryz.prog 138 #[va,vb] w fun e w'=>∃v',e= .returned (.tuple #[v',.int .i64 0])∧IsN w' v' (a - b)∧Below w.heap.size w w':=
 (rsub_f va vb a b w ha hb hla hlb hle).mono fun _ _ ⟨v',h1,h2,h3,_⟩=>⟨v',h1,h2,h3⟩
theorem rmul_any (va vb:Value) (na nb:Nat) (w:World) (ha:IsN w va na) (hb:IsN w vb nb) (hla:(limbs na).length≤1000000) (hlb:(limbs nb).length≤1000000):
 Calls Tryz.prog 73 #[va,vb] w fun e w'=>∃v',e= .returned v'∧IsN w' v' (na*nb)∧Below w.heap.size w w':=by
 have eab:nuh (hv (limbs na))*nuh (hv (limbs nb))=na*nb:=by rw[nuh_hv,nuh_hv,num_limbs,num_limbs]
 have HA:=Lib.hid (halves2 va _ w ha hla)
 have HB:=Lib.hid (fun W (h:Below w.heap.size w W)=>halves2 vb _ W (hb.below h) hlb)
 have la:=hv_len (limbs na)
 have lb:=hv_len (limbs nb)
 rw[←eab]
 obtain⟨a,hx⟩:∃x,x=hv (limbs na):=⟨_,rfl⟩
 obtain⟨b,hy⟩:∃y,y=hv (limbs nb):=⟨_,rfl⟩
 rw[←hx] at HA la ⊢
 rw[←hy] at HB lb ⊢
 have lx:a.length≤2000000:=by omega
 have ly:b.length≤2000000:=by omega
 clear hx hy eab la lb ha hb
 have hmk:=run_make_u64 27 Tryz.underlying27 (a.length+b.length+1) ((a.length:Int)+(b.length:Int)+1) (by omega) (by omega)
 go_enter Tryz.func73,Tryz.ntmps73
 go_wp2_with fail
 refine HA.out.mono ?_
 rintro e w1 ⟨A,ca,rfl,hca,hba,hra,hb1⟩
 go_wp2_with fail
 refine (HB.out _ hb1).mono ?_
 rintro e w2 ⟨B,cb,rfl,hcb,hbb,hrb,hb2⟩
 have hra:=(hra.below hb2).more hb2.size
 have hbw:=hb1.trans (hb2.mono hb1.size)
 clear hb1 hb2
 have a0:=Arr.new w2 (zeros (a.length+b.length+1))
 have hB0:Below w2.heap.size w2 (w2.alloc (.cells (us (zeros (a.length+b.length+1))).toArray 141)):=(Below.refl _ w2).alloc (Nat.le_refl _) _
 go_wp2
 go_loopw [8] (fun i wr=>∃(k:Nat) (l:List Nat),k≤a.length∧i= .int .i64 k∧Arr wr w2.heap.size l∧Hid (l.length=a.length+b.length+1)∧Bh l∧Hid (nuh l=nuh (a.take k)*nuh b)∧Hid (∀j,k+b.length≤j→lat l j=0)∧Below w2.heap.size w2 wr) (fun i _=>a.length - (intOf i).toNat)
 case atStart=>exact⟨0,zeros (a.length+b.length+1),Nat.zero_le _,rfl,a0,zeros_len _,Bh.zeros _,Lib.hid (by rw[nuh_zeros];simp[nuh]),Lib.hid (fun j _=>lat_zeros _ _),hB0⟩
 case round=>
  obtain⟨k,l,hk,rfl,hA,hlen,hbl,hnum,hz,hB⟩:=hrel
  by_cases hlt:k<a.length
  ·obtain⟨ad,rfl,_,hxc⟩:=us_cell (hra.below hB) hlt
   have hx64:=hba.lat k
   have hxi:=hbound hba k
   obtain⟨x,hx⟩:∃x,x=lat a k:=⟨_,rfl⟩
   rw[←hx] at hxc hx64 hxi
   have Hx:=Lib.hid hx
   clear hx
   go_wp2
   go_loopw [9,10] (fun cy i wi=>∃(m c:Nat) (l':List Nat),m≤b.length∧cy= .int .u64 c∧i= .int .i64 m∧c<H32∧Arr wi w2.heap.size l'∧Hid (l'.length=a.length+b.length+1)∧Bh l'∧Hid (nuh l'+H32^(k+m)*c=nuh (a.take k)*nuh b+H32^k*(x*nuh (b.take m)))∧Hid (∀j,k+b.length≤j→lat l' j=0)∧Below w2.heap.size w2 wi) (fun _ i _=>b.length - (intOf i).toNat)
   case atStart=>exact⟨0,0,l,Nat.zero_le _,rfl,rfl,H32_pos,hA,hlen,hbl,Lib.hid (by rw[hnum.out];simp[nuh]),hz,hB⟩
   case round=>
    obtain⟨m,c,l',hm,rfl,rfl,hc64,hA',hlen',hbl',hinv,hz',hB'⟩:=hrel
    by_cases hmt:m<b.length
    ·obtain⟨bd,rfl,_,hyc⟩:=us_cell (hrb.below hB') hmt
     obtain⟨_,e,_,hxc'⟩:=us_cell (hra.below hB') hlt
     obtain rfl:=Option.some.inj e
     have hy64:=hbb.lat m
     obtain⟨y,hy⟩:∃y,y=lat b m:=⟨_,rfl⟩
     rw[←hy] at hyc hy64
     rw[←Hx.out] at hxc'
     have hoc:=hA'.cell (i:=k+m) (by rw[hlen'.out];omega)
     have hof:=hA'.frozen (k+m)
     have ho64:=hbl'.lat (k+m)
     obtain⟨o,ho⟩:∃o,o=lat l' (k+m):=⟨_,rfl⟩
     rw[←ho] at hoc ho64
     obtain⟨p,ep⟩:∃p,p=x*y:=⟨_,rfl⟩
     obtain⟨q,eq⟩:∃q,q=o+p:=⟨_,rfl⟩
     obtain⟨n,en⟩:∃n,n=q+c:=⟨_,rfl⟩
     obtain⟨d1,d2,d3,d4⟩:=hmul_digit hx64 hy64 ho64 hc64 (n:=n) (by rw[en,eq,ep])
     rw[←ep] at d4
     have w0:IntKind.u64.wrap ((x:Int)*(y:Int))=(p:Int):=by
      rw[IntKind.wrap_u64,←Int.natCast_mul,←ep];unfold W64 at d4;omega
     have w1:IntKind.u64.wrap ((o:Int)+(p:Int))=(q:Int):=by
      rw[IntKind.wrap_u64,eq];unfold W64 at d4;omega
     have w2':IntKind.u64.wrap ((q:Int)+(c:Int))=(n:Int):=by
      rw[IntKind.wrap_u64,en];unfold W64 at d1;omega
     have fin:=Lib.hid (hmul_inner (i:=k) (by rw[hlen'.out];omega) ho hinv.out (by rw[←hy];exact d2))
     have D:=Lib.hid d3
     have hn64:=hide64 n d1
     clear ep eq en d1 d2 d3 d4 hx64 hy64 ho64 hc64 ho hy hinv
     go_wp2
     go_quiet (fail)
     go_wp2
     rw[hdiv,hmod]
     refine ⟨⟨m+1,n / H32,l'.set (k+m) (n % H32),by omega,rfl,by go_num,D.out,(hA'.drewN _).set _ _,by rw[Hid,List.length_set];exact hlen'.out,hbl'.set _ (Nat.mod_lt _ H32_pos),fin,?_,(below_drewN hB' _).setCell (p:=⟨w2.heap.size,k+m,none⟩) (Nat.le_refl _) _⟩,by simp[intOf];omega⟩
     refine Lib.hid (fun j hj=>?_)
     rw[lat_set,if_neg (by omega)]
     exact hz'.out j hj
    ·obtain rfl:m=b.length:=by omega
     have hi2:k+b.length<l'.length:=by rw[hlen'.out];omega
     have hoc:=hA'.cell hi2
     have hof:=hA'.frozen (k+b.length)
     have fin:=hmul_outer (a:=a) (b:=b) (i:=k) (c:=c) hi2 (hz'.out _ (Nat.le_refl _)) (by have:=hinv.out;rwa [List.take_length,Hx.out] at this)
     have Fin:=Lib.hid fin
     have C:=Lib.hid hc64
     clear fin hi2 hc64
     go_wp2
     refine ⟨⟨k+1,l'.set (k+b.length) c,by omega,by go_num,hA'.set _ _,by rw[Hid,List.length_set];exact hlen'.out,hbl'.set _ C.out,Fin,?_,hB'.setCell (p:=⟨w2.heap.size,k+b.length,none⟩) (Nat.le_refl _) _⟩,by simp[intOf];omega⟩
     refine Lib.hid (fun j hj=>?_)
     rw[lat_set,if_neg (by omega)]
     exact hz'.out j (by omega)
  ·obtain rfl:k=a.length:=by omega
   have hres:=hA.isL hbl.bd (by rw[hlen.out];omega)
   have hl3:l.length≤5000000:=by rw[hlen.out];omega
   rw[hlen.out] at hres
   have N:=hnum.out
   rw[List.take_length] at N
   have N':=Lib.hid N
   clear N
   go_wp2_with fail
   refine (whole_any _ l _ hres hbl hl3).mono ?_
   rintro e w' ⟨r,rfl,hr,hb⟩
   go_wp2
   go_ret
   exact⟨_,rfl,by rw[←N'.out];exact hr,(hbw.trans (hB.mono hbw.size)).trans (hb.mono (Nat.le_trans hbw.size hB.size))⟩
end Go.Proofs.YtdnjdglekifhpaaGreat
namespace Go.Proofs.YtdnjdglekifhpaaGreat
open Go.RowKit
theorem bits_any (v:Value) (a:Nat) (w:World) (h:IsN w v a) (hl:(limbs a).length≤1000000):
 Calls Tryz.prog 206 #[v] w fun e w'=>e= .returned (.int .i64 (bl a:Nat))∧w=w':=by
 obtain⟨A,c,rfl,hlc,hc,hbd,hr⟩:=h
 have hrt:=limbs_rt a
 have hnum:=num_limbs a
 generalize limbs a=l at *
 subst hnum
 by_cases h0:l=[]
 ·subst h0
  go_enter Tryz.func206,Tryz.ntmps206
  go_wp2
  go_ret
  exact⟨ret_int (by rw[num,bl_zero];rfl),rfl⟩
 ·have hp:0<l.length:=List.length_pos_iff.2 h0
  obtain⟨ad,rfl,_,hx⟩:=us_cell hr (k:=l.length - 1) (by omega)
  have e:=Lib.hid (bl_num hbd hrt h0)
  have hb64:=bl_le_iff.2 (show lat l (l.length - 1)<2^64 from hbd.lat _)
  have e1:((l.length:Int) == 0)=false:=by simp[h0]
  have hb:=hbd.lat (l.length - 1)
  clear h0 hrt
  go_enter Tryz.func206,Tryz.ntmps206
  go_wp2_with ((with_reducible refine (len64_any _ hb _).mono ?_);rintro e w' ⟨rfl,rfl⟩)
  go_ret
  exact⟨ret_int (by rw[e.out];omega),rfl⟩
end Go.Proofs.YtdnjdglekifhpaaGreat

namespace Go.Proofs.YtdnjdglekifhpaaGreat
open Go.RowKit
section
variable {w w':World} {v:Value} {n R:Nat} {l:List Nat} {t t':TypeId} {cs cs':Array Value}
theorem Two.far3 {g:Nat} (h:Two w g t cs t' cs') (x y z:Value):Two (((w.setCell ⟨g+1+1,0,none⟩ x).setCell ⟨g+1+1,1,none⟩ y).setCell ⟨g+1+1,2,none⟩ z) g t cs t' cs':=
 ⟨((h.1.far1 (by omega) x).far1 (by omega) y).far1 (by omega) z,((h.2.far1 (by omega) x).far1 (by omega) y).far1 (by omega) z⟩
theorem Blk.far3 {g:Nat} (h:Blk w g t cs) (x y z:Value):Blk (((w.setCell ⟨g+1,0,none⟩ x).setCell ⟨g+1,1,none⟩ y).setCell ⟨g+1,2,none⟩ z) g t cs:=((h.far1 (by omega) x).far1 (by omega) y).far1 (by omega) z
end
end Go.Proofs.YtdnjdglekifhpaaGreat
namespace Go.Proofs.YtdnjdglekifhpaaGreat
open Go.RowKit
attribute [local go_sem ↓] Go.wp_at_zero Go.wp_at_succ
theorem rzneg_any (v:Value) (z:Int) (w:World) (h:IsZ w v z):
 Calls Tryz.prog 142 #[v] w fun e w'=>∃v',e= .returned v'∧IsZ w' v' (-z)∧Below w.heap.size w w':=by
 obtain⟨nv,rfl,hn⟩:=h
 have hM:=fun w hn=>rmade_any (!decide (z<0)) nv z.natAbs w hn
 have hz:sided (!decide (z<0)) z.natAbs= -z:=by
  unfold sided;by_cases h:z<0<;>simp[h]<;>omega
 rw[hz] at hM
 obtain⟨c,hc⟩:∃c,c= -z:=⟨_,rfl⟩
 rw[←hc] at hM ⊢
 clear hz hc
 generalize decide (z<0)=b at *
 generalize z.natAbs=n at *
 obtain⟨W0,hW,hT,hB⟩:=box2 w 30 30 #[.bool b,nv] #[.bool false,.slice none 0 0]
 have hn:=hn.below hB
 obtain⟨g,hg⟩:∃g,g=w.heap.size:=⟨_,rfl⟩
 have hW':=Lib.hid (And.intro hW hg)
 rw[←hg] at hT
 clear hW hg
 go_enter Tryz.func142,Tryz.ntmps142
 go_wp2_with fail
 rw[←hW'.out.1,←hW'.out.2]
 refine (hM _ hn).mono ?_
 rintro e w1 ⟨v1,rfl,⟨n1,rfl,h1⟩,b1⟩
 obtain⟨A1,L1,C1,rfl⟩:=h1.frm
 have hT:=hT.b b1
 have hB:=hB.trans (b1.mono hB.size)
 have hR:=hT.2
 have q0:=hR.cell 0
 have q1:=hR.cell 1
 have z0:=hR.frozen 0
 have z1:=hR.frozen 1
 obtain⟨p1,p2,p3⟩:=put2 hR (.bool (decide (c<0))) (.slice A1 L1 C1) (by simp[noU]) hB (by rw[hW'.out.2];omega)
 have P:=Lib.hid (And.intro (p2 _ _ h1) p3)
 clear p1 p2 p3 hR hM
 go_wp2
 exact bodyPost_ret (v:= .agg #[.bool (decide (c<0)),.slice A1 L1 C1]) (by simp[results,Tryz.results142,go_sem,q0,q1]) rfl ⟨_,rfl,⟨_,rfl,P.out.1⟩,P.out.2⟩
theorem rzmul_any (va vb:Value) (a b:Int) (w:World) (ha:IsZ w va a) (hb:IsZ w vb b) (sa:Sz a.natAbs 400000) (sb:Sz b.natAbs 400000):
 Calls Tryz.prog 77 #[va,vb] w fun e w'=>∃v',e= .returned v'∧IsZ w' v' (a*b)∧Below w.heap.size w w':=by
 obtain⟨na,rfl,ha⟩:=ha
 obtain⟨nb,rfl,hb⟩:=hb
 have hMul:=fun w ha hb=>rmul_any na nb a.natAbs b.natAbs w ha hb (sa.fin (by omega)) (sb.fin (by omega))
 have hM:=fun v w hn=>rmade_any (decide (a<0) != decide (b<0)) v (a.natAbs*b.natAbs) w hn
 have hz:=mul_sided a b
 rw[hz] at hM
 obtain⟨c,hc⟩:∃c,c=a*b:=⟨_,rfl⟩
 rw[←hc] at hM ⊢
 clear hz hc
 generalize decide (a<0)=s1 at *
 generalize decide (b<0)=s2 at *
 generalize a.natAbs*b.natAbs=n at *
 generalize a.natAbs=x at *
 generalize b.natAbs=y at *
 obtain⟨W0,hW,hT,hR,hB⟩:=box3 w 30 30 30 #[.bool s1,na] #[.bool s2,nb] #[.bool false,.slice none 0 0]
 have ha:=ha.below hB
 have hb:=hb.below hB
 obtain⟨g,hg⟩:∃g,g=w.heap.size:=⟨_,rfl⟩
 have hW':=Lib.hid (And.intro hW hg)
 rw[←hg] at hT hR
 clear hW hg
 go_enter Tryz.func77,Tryz.ntmps77
 go_wp2
 rw[←hW'.out.1,←hW'.out.2]
 go_region_held3 (fun w'=>w'.cell? ⟨g,0,none⟩=some (.bool s1)∧w'.cell? ⟨g,1,none⟩=some na∧w'.cell? ⟨g+1,0,none⟩=some (.bool s2)∧w'.cell? ⟨g+1,1,none⟩=some nb) (first | exact Two.cells22 (by assumption) | exact Two.cells22 (Two.far2 (by assumption) _ _))
  (first
   | (go_at_call 73;refine (hMul _ ?_ ?_).mono ?_;exact ha;exact hb;rintro x w1 ⟨v1,rfl,h1,b1⟩;have b1:=undrew b1;have hT1:=hT.below b1 hT.lt;have hR1:=hR.below b1 hR.lt;have hB1:=hB.trans (b1.mono hB.size))
   | (go_at_call 136;refine (hM _ _ ?_).mono ?_;exact h1;rintro x w2 ⟨v2,rfl,⟨n2,rfl,h2⟩,b2⟩;obtain⟨A2,L2,C2,rfl⟩:=h2.frm;have hT2:=hT1.below b2 hT1.lt;have hR2:=hR1.below b2 hR1.lt;have hB2:=hB1.trans (b2.mono hB1.size);have q0:=hR2.cell 0;have q1:=hR2.cell 1;have z0:=hR2.frozen 0;have z1:=hR2.frozen 1))
 obtain⟨p1,p2,p3⟩:=put2 hR2 (.bool (decide (c<0))) (.slice A2 L2 C2) (by simp[noU]) hB2 (by rw[hW'.out.2];omega)
 have P:=Lib.hid (And.intro (p2 _ _ h2) (And.intro p3 p1.cells2))
 clear p1 p2 p3
 go_wp2
 obtain⟨P1,P2,P3,P4⟩:=P.out
 exact bodyPost_ret (v:= .agg #[.bool (decide (c<0)),.slice A2 L2 C2]) (by simp[results,Tryz.results77,go_sem,P3,P4]) rfl ⟨_,rfl,⟨_,rfl,P1⟩,P2⟩
end Go.Proofs.YtdnjdglekifhpaaGreat
namespace Go.Proofs.YtdnjdglekifhpaaGreat
def cmpQ (a b:Rat):Int:=cmpI (a.num*b.den) (b.num*a.den)
def absQ (a:Rat):Rat:=if a.num<0 then -a else a
theorem absQ_num (a:Rat):(absQ a).num=a.num.natAbs:=by
 unfold absQ;split
 ·rw[Rat.neg_num];omega
 ·omega
theorem absQ_den (a:Rat):(absQ a).den=a.den:=by
 unfold absQ;split
 ·rw[Rat.neg_den]
 ·rfl
theorem BQ.abs {a:Rat} {k:Nat} (ha:BQ a k):BQ (absQ a) k:=by
 unfold BQ at *;rw[absQ_num,absQ_den];simpa using ha
def nearZ (A:Int) (D:Nat):Int:=if (D:Int)<2*(A % D)∨(2*(A % D)=D∧A / D % 2=1) then A / D+1 else A / D
theorem nearZ_nat (n D:Nat):nearZ n D=(rne n D:Nat):=by
 unfold nearZ rne
 have e1:(n:Int) / (D:Int)=((n / D:Nat):Int):=by simp
 have e2:(n:Int) % (D:Int)=((n % D:Nat):Int):=by simp
 rw[e1,e2]
 by_cases h:D<2*(n % D)∨(2*(n % D)=D∧n / D % 2=1)
 ·rw[if_pos h,if_pos (by omega)];omega
 ·rw[if_neg h,if_neg (by omega)]
theorem nearZ_neg (n D:Nat) (hD:0<D):nearZ (-(n:Int)) D= -(rne n D:Nat):=by
 unfold nearZ rne
 have hr:=Nat.mod_lt n hD
 have hn:=Nat.div_add_mod n D
 generalize n / D=q at *
 generalize n % D=r at *
 by_cases h0:r=0
 ·subst h0
  have e0: -(n:Int)=(D:Int)*(-(q:Int)):=by rw[←hn];simp[Int.mul_neg]
  have e1: -(n:Int) / (D:Int)= -(q:Int):=by rw[e0,Int.mul_ediv_cancel_left _ (by omega)]
  have e2: -(n:Int) % (D:Int)=0:=by rw[e0,Int.mul_emod_right]
  rw[e1,e2,if_neg (by omega),if_neg (by omega)]
 ·have e0: -(n:Int)=((D - r:Nat):Int)+(D:Int)*(-(q:Int) - 1):=by
   rw[←hn,Int.mul_sub,Int.mul_neg];push_cast [Nat.le_of_lt hr];rw[Int.mul_one];omega
  have e1: -(n:Int) / (D:Int)= -(q:Int) - 1:=by
   rw[e0,Int.add_mul_ediv_left _ _ (by omega),Int.ediv_eq_zero_of_lt (by omega) (by omega),Int.zero_add]
  have e2: -(n:Int) % (D:Int)=((D - r:Nat):Int):=by
   rw[e0,Int.add_mul_emod_self_left,Int.emod_eq_of_lt (by omega) (by omega)]
  rw[e1,e2]
  by_cases h:D<2*r∨(2*r=D∧q % 2=1)
  ·rw[if_pos h,if_neg (by omega)];omega
  ·rw[if_neg h,if_pos (by omega)];omega
theorem nearZ_sided (s:Bool) (n D:Nat) (hD:0<D):nearZ (sided s n) D=sided s (rne n D):=by
 cases s
 ·exact nearZ_nat n D
 ·exact nearZ_neg n D hD
end Go.Proofs.YtdnjdglekifhpaaGreat
namespace Go.Proofs.YtdnjdglekifhpaaGreat
theorem pow_row (n:Nat):num ((zeros (n / 64+1)).set (n / 64) (2^(n % 64)))=2^n∧Bd ((zeros (n / 64+1)).set (n / 64) (2^(n % 64)))∧Rt ((zeros (n / 64+1)).set (n / 64) (2^(n % 64))):=by
 have hp:2^(n % 64)<W64:=Nat.pow_lt_pow_right (a:=2) (m:=n % 64) (n:=64) (by omega) (Nat.mod_lt _ (by omega))
 refine ⟨?_,(Bd.zeros _).set _ hp,.inr ?_⟩
 ·have:=num_set (zeros (n / 64+1)) (n / 64) (2^(n % 64)) (by rw[zeros_len];omega)
  rw[lat_zeros,num_zeros,Nat.mul_zero,Nat.add_zero,Nat.zero_add,W64_pow,←Nat.pow_add] at this
  rw[this];congr 1;omega
 ·rw[lat_set,List.length_set,zeros_len,if_pos ⟨by omega,by omega⟩]
  have :0<2^(n % 64):=Nat.pow_pos (by omega)
  omega
end Go.Proofs.YtdnjdglekifhpaaGreat
namespace Go.Proofs.YtdnjdglekifhpaaGreat
open Go.RowKit
theorem IsN.of_row {w:World} {g n:Nat} {l:List Nat} (h:Arr w g l) (hb:Bd l) (hr:Rt l) (hn:num l=n) (hl:l.length≤10000000):IsN w (.slice (some ⟨g,0,none⟩) l.length l.length) n:=by
 have:=h.isL hb (by omega)
 unfold IsN;rw[←hn,limbs_num l hb hr];exact this
theorem power2_any (n:Nat) (hn:n≤20000) (w:World):
 Calls Tryz.prog 190 #[.int .i64 n] w fun e w'=>∃v',e= .returned v'∧IsN w' v' (2^n)∧Below w.heap.size w w':=by
 obtain⟨r1,r2,r3⟩:=pow_row n
 have R:=Lib.hid (And.intro r1 (And.intro r2 r3))
 have rl:((zeros (n / 64+1)).set (n / 64) (2^(n % 64))).length=n / 64+1:=by rw[List.length_set,zeros_len]
 have RL:=Lib.hid rl
 have zl:=zeros_len (n / 64+1)
 have hp:∀k,k<64→2^k<W64:=fun k hk=>Nat.pow_lt_pow_right (a:=2) (m:=k) (n:=64) (by omega) hk
 have HP:=Lib.hid hp
 have a0:=Arr.new w (zeros (n / 64+1))
 have c0:=a0.cell (i:=n / 64) (by rw[zl];omega)
 have f0:=a0.frozen (n / 64)
 have B0:Below w.heap.size w (w.alloc (.cells (us (zeros (n / 64+1))).toArray 141)):=(Below.refl _ w).alloc (Nat.le_refl _) _
 have hmk:=run_make_u64 28 Tryz.underlying28 (n / 64+1) ((n:Int) / 64+1) (by omega) (by omega)
 clear r1 r2 r3 rl zl hp
 go_enter Tryz.func190,Tryz.ntmps190
 go_wp2
 have W0z:(w.alloc (.cells (us (zeros (n / 64+1))).toArray 141)).heap.size=w.heap.size+1:=by simp
 generalize w.alloc (.cells (us (zeros (n / 64+1))).toArray 141)=W0 at *
 clear W0z
 go_loop [4,5] (fun o i=>∃k:Nat,k≤n % 64∧i= .int .i64 k∧o= .int .u64 ((2^k:Nat):Int)) (fun _ i=>n % 64 - (intOf i).toNat)
 case atStart=>exact⟨0,by omega,rfl,rfl⟩
 case round=>
  obtain⟨k,hk,rfl,rfl⟩:=hrel
  by_cases hlt:k<n % 64
  ·have h1:(k:Int)<(n:Int) % 64:=by omega
   have hb:=HP.out (k+1) (by omega)
   obtain⟨x,hx⟩:∃x,x=2^k:=⟨_,rfl⟩
   have hx2:2^(k+1)=x*2:=by rw[hx,Nat.pow_succ]
   rw[hx2] at hb
   rw[←hx]
   have hb':((x:Nat):Int)≤9223372036854775807:=by unfold W64 at hb;omega
   have X:=Lib.hid hx2
   clear hx hx2 hb
   go_wp2
   go_round
   case rel=>exact⟨k+1,by omega,by go_num,by rw[X.out];go_num⟩
   case measure=>simp[intOf];omega
  ·obtain rfl:k=n % 64:=by omega
   have h1:¬(((n % 64:Nat):Int)<(n:Int) % 64):=by omega
   have g0:(0:Int)≤(n:Int) / 64:=by omega
   have g1:(n:Int) / 64<(((n / 64+1:Nat)):Int):=by omega
   have g2:((n:Int) / 64).toNat=n / 64:=by omega
   obtain⟨r1,r2,r3⟩:=R.out
   have hA:=a0.set (n / 64) (2^(n % 64))
   have:=IsN.of_row hA r2 r3 r1 (by rw[RL.out];omega)
   rw[RL.out] at this
   generalize 2^(n % 64)=x at *
   have T:=Lib.hid this
   clear this r1 r2 r3 hA
   go_wp2
   go_ret
   exact⟨_,rfl,T.out,B0.setCell (p:=⟨w.heap.size,n / 64,none⟩) (Nat.le_refl _) _⟩
theorem shl_any (v:Value) (a n:Nat) (hn:n≤20000) (w:World) (h:IsN w v a) (hl:Sz a 1000000):
 Calls Tryz.prog 141 #[v,.int .i64 n] w fun e w'=>∃v',e= .returned (.tuple #[v',.int .i64 0])∧IsN w' v' (a*2^n)∧Below w.heap.size w w':=by
 have hP:=fun w=>power2_any n hn w
 have hs:(limbs (2^n)).length≤1000000:=(Sz.two_pow n).fin (by omega)
 have hM:=fun vb w (ha:IsN w v a) (hb:IsN w vb (2^n))=>rmul_any v vb a (2^n) w ha hb hl hs
 generalize 2^n=p at *
 clear hs
 go_enter Tryz.func141,Tryz.ntmps141
 go_wp2_with fail
 refine (hP _).mono ?_
 rintro e w1 ⟨v1,rfl,h1,b1⟩
 have h:=h.below b1
 go_wp2_with fail
 refine (hM _ _ h h1).mono ?_
 rintro e w2 ⟨v2,rfl,h2,b2⟩
 go_wp2
 go_ret2
 exact⟨_,rfl,h2,b1.trans (b2.mono b1.size)⟩
end Go.Proofs.YtdnjdglekifhpaaGreat

namespace Go.Proofs.YtdnjdglekifhpaaGreat
open Go.RowKit
attribute [local go_sem ↓] Go.wp_at_zero Go.wp_at_succ
theorem cmp_sided (a b:Int):cmpI a b=if decide (a<0)=decide (b<0) then (if decide (a<0)=true then -cmpI a.natAbs b.natAbs else cmpI a.natAbs b.natAbs) else if decide (a<0)=true then -1 else 1:=by
 unfold cmpI
 by_cases ha:a<0<;>by_cases hb:b<0<;>simp only[ha,hb,decide_true,decide_false,if_true,if_false,Bool.false_eq_true,Bool.true_eq_false]<;>(repeat' split)<;>omega
theorem rzcmp_any (va vb:Value) (a b:Int) (w:World) (ha:IsZ w va a) (hb:IsZ w vb b):
 Calls Tryz.prog 79 #[va,vb] w fun e w'=>e= .returned (.int .i64 (cmpI a b))∧Below w.heap.size w w':=by
 rw[cmp_sided]
 obtain⟨na,rfl,ha⟩:=ha
 obtain⟨nb,rfl,hb⟩:=hb
 have hC:=fun w ha hb=>rcmp_n na nb a.natAbs b.natAbs w ha hb
 have hbd: -1≤cmpI (a.natAbs:Int) (b.natAbs:Int)∧cmpI (a.natAbs:Int) (b.natAbs:Int)≤1:=by unfold cmpI;split<;>(try split)<;>omega
 generalize cmpI (a.natAbs:Int) (b.natAbs:Int)=c at *
 generalize decide (a<0)=s1 at *
 generalize decide (b<0)=s2 at *
 obtain⟨W0,hW,hT,hB⟩:=box2 w 30 30 #[.bool s1,na] #[.bool s2,nb]
 obtain⟨g,hg⟩:∃g,g=w.heap.size:=⟨_,rfl⟩
 have hW':=Lib.hid (And.intro hW hg)
 rw[←hg] at hT
 clear hW hg
 have ha:=ha.below hB
 have hb:=hb.below hB
 obtain⟨k1,k2⟩:=hbd
 have HB:=Lib.hid hB
 rcases s1<;>rcases s2
 all_goals
  go_enter Tryz.func79,Tryz.ntmps79
  go_wp2_with fail
  try (
   rw[←hW'.out.1,←hW'.out.2]
   refine (hC _ ha hb).mono ?_
   rintro e w1 ⟨rfl,n1,rfl⟩
   have hT:=hT.below (below_drewN (Below.refl _ _) n1) hT.lt
   have HB:=Lib.hid (below_drewN hB n1)
   obtain⟨q0,q1,q2,q3⟩:=hT.cells22
   go_wp2)
  go_ret
  exact⟨rfl,by first | exact HB.out | (have:=HB.out;rw[hW'.out.1] at this;exact this)⟩
end Go.Proofs.YtdnjdglekifhpaaGreat
namespace Go.Proofs.YtdnjdglekifhpaaGreat
open Go.RowKit
attribute [local go_sem ↓] Go.wp_at_zero Go.wp_at_succ
theorem rzadd_any (va vb:Value) (a b:Int) (w:World) (ha:IsZ w va a) (hb:IsZ w vb b) (sa:Sz a.natAbs 400000) (sb:Sz b.natAbs 400000):
 Calls Tryz.prog 71 #[va,vb] w fun e w'=>∃v',e= .returned v'∧IsZ w' v' (a+b)∧Below w.heap.size w w':=by
 obtain⟨na,rfl,ha⟩:=ha
 obtain⟨nb,rfl,hb⟩:=hb
 have hAdd:=fun w ha hb=>radd_any na nb a.natAbs b.natAbs w ha hb (sa.fin (by omega)) (sb.fin (by omega))
 have hSab:=fun w ha hb h=>rsub_any na nb a.natAbs b.natAbs w ha hb (sa.fin (by omega)) (sb.fin (by omega)) h
 have hSba:=fun w ha hb h=>rsub_any nb na b.natAbs a.natAbs w hb ha (sb.fin (by omega)) (sa.fin (by omega)) h
 have hC:=fun w ha hb=>rcmp_n na nb a.natAbs b.natAbs w ha hb
 have hM:=fun s v n w hn=>rmade_any s v n w hn
 obtain⟨c,hc⟩:∃c,c=a+b:=⟨_,rfl⟩
 rw[←hc]
 rw[←sided_of a,←sided_of b] at hc
 generalize decide (a<0)=s1 at *
 generalize decide (b<0)=s2 at *
 generalize a.natAbs=x at *
 generalize b.natAbs=y at *
 obtain⟨W0,hW,hT,hR,hB⟩:=box3 w 30 30 30 #[.bool s1,na] #[.bool s2,nb] #[.bool false,.slice none 0 0]
 obtain⟨g,hg⟩:∃g,g=w.heap.size:=⟨_,rfl⟩
 have hW':=Lib.hid (And.intro hW hg)
 rw[←hg] at hT hR
 clear hW hg
 have ha:=ha.below hB
 have hb:=hb.below hB
 have CT:=hT.cells22
 by_cases hs:s1=s2
 ·subst hs
  rw[sided_add_same] at hc
  have hM:=fun v w hn=>hM s1 v (x+y) w hn
  rw[←hc] at hM
  clear hc hSab hSba hC
  have hAdd:=fun w ha hb=>hAdd w ha hb
  generalize x+y=n at *
  obtain⟨q00,q01,q10,q11⟩:=CT
  go_enter Tryz.func71,Tryz.ntmps71
  go_wp2
  rw[←hW'.out.1,←hW'.out.2]
  go_region_held3 (fun w'=>w'.cell? ⟨g,0,none⟩=some (.bool s1)∧w'.cell? ⟨g,1,none⟩=some na∧w'.cell? ⟨g+1,0,none⟩=some (.bool s1)∧w'.cell? ⟨g+1,1,none⟩=some nb) (first | exact Two.cells22 (by assumption) | exact Two.cells22 (Two.far2 (by assumption) _ _))
   (first
    | (go_at_call 137;refine (hAdd _ ?_ ?_).mono ?_;exact ha;exact hb;rintro x w1 ⟨v1,rfl,h1,b1⟩;have b1:=undrew b1;have hT1:=hT.below b1 hT.lt;have hR1:=hR.below b1 hR.lt;have hB1:=hB.trans (b1.mono hB.size))
    | (go_at_call 136;refine (hM _ _ ?_).mono ?_;exact h1;rintro x w2 ⟨v2,rfl,⟨n2,rfl,h2⟩,b2⟩;obtain⟨A2,L2,C2,rfl⟩:=h2.frm;have hT2:=hT1.below b2 hT1.lt;have hR2:=hR1.below b2 hR1.lt;have hB2:=hB1.trans (b2.mono hB1.size);have q0:=hR2.cell 0;have q1:=hR2.cell 1;have z0:=hR2.frozen 0;have z1:=hR2.frozen 1))
  obtain⟨p1,p2,p3⟩:=put2 hR2 (.bool (decide (c<0))) (.slice A2 L2 C2) (by simp[noU]) hB2 (by rw[hW'.out.2];omega)
  have q0:=hR2.cell 0
  have z0:=hR2.frozen 0
  have q1:=hR2.cell 1
  have z1:=hR2.frozen 1
  have P:=Lib.hid (And.intro (⟨_,rfl,p2 _ _ h2⟩:IsZ _ (.agg #[.bool (decide (c<0)),.slice A2 L2 C2]) c) (And.intro p3 p1.cells2))
  clear p1 p2 p3
  go_wp2
  obtain⟨P1,P2,P3,P4⟩:=P.out
  exact bodyPost_ret (v:= .agg #[.bool (decide (c<0)),.slice A2 L2 C2]) (by simp[results,Tryz.results71,go_sem,P3,P4]) rfl ⟨_,rfl,P1,P2⟩
 ·by_cases hle:y≤x
  ·rw[sided_add_ge _ _ _ _ hs hle] at hc
   have hSab:=fun w ha hb=>hSab w ha hb hle
   have hM:=fun v w hn=>hM s1 v (x - y) w hn
   rw[←hc] at hM
   clear hc
   generalize x - y=n at *
   obtain⟨q00,q01,q10,q11⟩:=CT
   have hne:(s1 == s2)=false:=by simpa using hs
   have hne2:decide (s1=s2)=false:=decide_eq_false hs
   have HS:=Lib.hid hs
   clear hs
   have hk:(0:Int)≤cmpI (x:Int) (y:Int):=by unfold cmpI;split<;>(try split)<;>omega
   generalize cmpI (x:Int) (y:Int)=k at *
   go_enter Tryz.func71,Tryz.ntmps71
   go_wp2_with fail
   rw[←hW'.out.1,←hW'.out.2]
   refine (hC _ ha hb).mono ?_
   rintro e w1 ⟨rfl,n1,rfl⟩
   have d1:=below_drewN (Below.refl W0.heap.size W0) n1
   have ha:=ha.below d1
   have hb:=hb.below d1
   have hT:=hT.b d1
   have hR:=hR.b d1
   have hB:=below_drewN hB n1
   generalize W0.drewN n1=w1 at *
   obtain⟨q00,q01,q10,q11⟩:=hT.cells22
   go_wp2_with fail
   refine (hSab _ ha hb).mono ?_
   rintro e w2 ⟨v2,rfl,h2,b2⟩
   have hT:=hT.b b2
   have hR:=hR.b b2
   have hB:=hB.trans (b2.mono hB.size)
   obtain⟨q00,q01,q10,q11⟩:=hT.cells22
   go_wp2_with fail
   refine (hM _ _ h2).mono ?_
   rintro e w3 ⟨v3,rfl,⟨n3,rfl,h3⟩,b3⟩
   obtain⟨A3,L3,C3,rfl⟩:=h3.frm
   have hR:=hR.b b3
   have hB:=hB.trans (b3.mono hB.size)
   clear hM hAdd
   obtain⟨p1,p2,p3⟩:=put2 hR (.bool (decide (c<0))) (.slice A3 L3 C3) (by simp[noU]) hB (by rw[hW'.out.2];omega)
   have q0:=hR.cell 0
   have z0:=hR.frozen 0
   have q1:=hR.cell 1
   have z1:=hR.frozen 1
   have P:=Lib.hid (And.intro (⟨_,rfl,p2 _ _ h3⟩:IsZ _ (.agg #[.bool (decide (c<0)),.slice A3 L3 C3]) c) (And.intro p3 p1.cells2))
   clear p1 p2 p3
   go_wp2
   obtain⟨P1,P2,P3,P4⟩:=P.out
   exact bodyPost_ret (v:= .agg #[.bool (decide (c<0)),.slice A3 L3 C3]) (by simp[results,Tryz.results71,go_sem,P3,P4]) rfl ⟨_,rfl,P1,P2⟩
  ·rw[sided_add_lt _ _ _ _ hs (by omega)] at hc
   have hSba:=fun w ha hb=>hSba w ha hb (by omega)
   have hM:=fun v w hn=>hM s2 v (y - x) w hn
   rw[←hc] at hM
   clear hc
   generalize y - x=n at *
   obtain⟨q00,q01,q10,q11⟩:=CT
   have hne:(s1 == s2)=false:=by simpa using hs
   have hne2:decide (s1=s2)=false:=decide_eq_false hs
   have HS:=Lib.hid hs
   clear hs
   have hk:cmpI (x:Int) (y:Int)<0:=by unfold cmpI;split<;>(try split)<;>omega
   generalize cmpI (x:Int) (y:Int)=k at *
   go_enter Tryz.func71,Tryz.ntmps71
   go_wp2_with fail
   rw[←hW'.out.1,←hW'.out.2]
   refine (hC _ ha hb).mono ?_
   rintro e w1 ⟨rfl,n1,rfl⟩
   have d1:=below_drewN (Below.refl W0.heap.size W0) n1
   have ha:=ha.below d1
   have hb:=hb.below d1
   have hT:=hT.b d1
   have hR:=hR.b d1
   have hB:=below_drewN hB n1
   generalize W0.drewN n1=w1 at *
   obtain⟨q00,q01,q10,q11⟩:=hT.cells22
   go_wp2_with fail
   refine (hSba _ ha hb).mono ?_
   rintro e w2 ⟨v2,rfl,h2,b2⟩
   have hT:=hT.b b2
   have hR:=hR.b b2
   have hB:=hB.trans (b2.mono hB.size)
   obtain⟨q00,q01,q10,q11⟩:=hT.cells22
   go_wp2_with fail
   refine (hM _ _ h2).mono ?_
   rintro e w3 ⟨v3,rfl,⟨n3,rfl,h3⟩,b3⟩
   obtain⟨A3,L3,C3,rfl⟩:=h3.frm
   have hR:=hR.b b3
   have hB:=hB.trans (b3.mono hB.size)
   clear hM hAdd
   obtain⟨p1,p2,p3⟩:=put2 hR (.bool (decide (c<0))) (.slice A3 L3 C3) (by simp[noU]) hB (by rw[hW'.out.2];omega)
   have q0:=hR.cell 0
   have z0:=hR.frozen 0
   have q1:=hR.cell 1
   have z1:=hR.frozen 1
   have P:=Lib.hid (And.intro (⟨_,rfl,p2 _ _ h3⟩:IsZ _ (.agg #[.bool (decide (c<0)),.slice A3 L3 C3]) c) (And.intro p3 p1.cells2))
   clear p1 p2 p3
   go_wp2
   obtain⟨P1,P2,P3,P4⟩:=P.out
   exact bodyPost_ret (v:= .agg #[.bool (decide (c<0)),.slice A3 L3 C3]) (by simp[results,Tryz.results71,go_sem,P3,P4]) rfl ⟨_,rfl,P1,P2⟩
end Go.Proofs.YtdnjdglekifhpaaGreat
namespace Go.Proofs.YtdnjdglekifhpaaGreat
open Go.RowKit
attribute [local go_sem ↓] Go.wp_at_zero Go.wp_at_succ
theorem rqover_any (vp vq:Value) (p:Int) (q:Nat) (w:World) (hp:IsZ w vp p) (hq:IsN w vq q) (sp:Sz p.natAbs 400000) (sq:Sz q 400000):
 Calls Tryz.prog 72 #[vp,vq] w fun e w'=>∃v',e= .returned v'∧IsZ w' v' (p*(q:Int))∧Below w.heap.size w w':=by
 have hM:=fun w va vb ha hb=>rzmul_any va vb p (q:Int) w ha hb sp (by simpa using sq)
 have hZ:∀w,IsN w vq q→IsZ w (.agg #[.bool false,vq]) (q:Int):=fun w h=>⟨vq,by rw[decide_eq_false (by omega)],by simpa using h⟩
 have hp0:=hp
 obtain⟨np,rfl,hp⟩:=hp
 obtain⟨Aq,Lq,Cq,rfl⟩:=hq.frm
 obtain⟨Ap,Lp,Cp,rfl⟩:=hp.frm
 obtain⟨c,hc⟩:∃c,c=p*(q:Int):=⟨_,rfl⟩
 rw[←hc] at hM ⊢
 have HZ:=Lib.hid hZ
 clear hc hZ sp sq
 generalize decide (p<0)=b at *
 obtain⟨W0,hW,hT,hB⟩:=box2 w 30 30 #[.bool b,.slice Ap Lp Cp] #[.bool false,.slice none 0 0]
 obtain⟨g,hg⟩:∃g,g=w.heap.size:=⟨_,rfl⟩
 have hW':=Lib.hid (And.intro hW hg)
 rw[←hg] at hT
 clear hW hg
 have hp0:=hp0.below hB
 have hq:=HZ.out _ (hq.below hB)
 obtain⟨q00,q01⟩:=hT.1.cells2
 go_enter Tryz.func72,Tryz.ntmps72
 go_wp2_with fail
 rw[←hW'.out.1,←hW'.out.2]
 refine (hM _ _ _ hp0 hq).mono ?_
 rintro e w1 ⟨v1,rfl,⟨n1,rfl,h1⟩,b1⟩
 obtain⟨A2,L2,C2,rfl⟩:=h1.frm
 have hT:=hT.b b1
 have hB:=hB.trans (b1.mono hB.size)
 have hR:=hT.2
 obtain⟨p1,p2,p3⟩:=put2 hR (.bool (decide (c<0))) (.slice A2 L2 C2) (by simp[noU]) hB (by rw[hW'.out.2];omega)
 have q0:=hR.cell 0
 have z0:=hR.frozen 0
 have q1:=hR.cell 1
 have z1:=hR.frozen 1
 have P:=Lib.hid (And.intro (⟨_,rfl,p2 _ _ h1⟩:IsZ _ (.agg #[.bool (decide (c<0)),.slice A2 L2 C2]) c) (And.intro p3 p1.cells2))
 clear p1 p2 p3 hM
 go_wp2
 obtain⟨P1,P2,P3,P4⟩:=P.out
 exact bodyPost_ret (v:= .agg #[.bool (decide (c<0)),.slice A2 L2 C2]) (by simp[results,Tryz.results72,go_sem,P3,P4]) rfl ⟨_,rfl,P1,P2⟩
theorem rqabs_any (v:Value) (r:Rat) (w:World) (h:IsQ w v r):
 Calls Tryz.prog 81 #[v] w fun e w'=>∃v',e= .returned v'∧IsQ w' v' (absQ r)∧Below w.heap.size w w':=by
 obtain⟨np,nq,rfl,hp,hq⟩:=h
 have KEY:Hid (∀w',IsN w' np r.num.natAbs→IsN w' nq r.den→IsQ w' (.agg #[.bool false,np,nq]) (absQ r)):=
  Lib.hid fun w' h1 h2=>⟨np,nq,by rw[absQ_num,decide_eq_false (by omega)],by rw[absQ_num];simpa using h1,by rw[absQ_den];exact h2⟩
 obtain⟨Ap,Lp,Cp,rfl⟩:=hp.frm
 obtain⟨Aq,Lq,Cq,rfl⟩:=hq.frm
 generalize decide (r.num<0)=b at *
 have B0:=((Below.refl w.heap.size w).alloc (Nat.le_refl _) (.cells #[.bool b,.slice Ap Lp Cp,.slice Aq Lq Cq] 32)).alloc (by simp) (.cells #[.bool false,.slice Ap Lp Cp,.slice Aq Lq Cq] 32)
 have HB:=Lib.hid B0
 clear B0
 go_enter Tryz.func81,Tryz.ntmps81
 go_wp2
 exact bodyPost_ret (v:= .agg #[.bool false,.slice Ap Lp Cp,.slice Aq Lq Cq]) (by simp[results,Tryz.results81,go_sem]) rfl ⟨_,rfl,KEY.out _ (hp.below HB.out) (hq.below HB.out),HB.out⟩
end Go.Proofs.YtdnjdglekifhpaaGreat
namespace Go.Proofs.YtdnjdglekifhpaaGreat
open Go.RowKit
theorem boxes5 (w:World) (t0:TypeId) (c0:Array Value) (t1:TypeId) (c1:Array Value) (t2:TypeId) (c2:Array Value) (t3:TypeId) (c3:Array Value) (t4:TypeId) (c4:Array Value):∃g W,Blk W (g) t0 c0∧Blk W (g+1) t1 c1∧Blk W (g+1+1) t2 c2∧Blk W (g+1+1+1) t3 c3∧Blk W (g+1+1+1+1) t4 c4∧Below w.heap.size w W∧w.heap.size≤g∧Hid (g=w.heap.size∧W=(((((w.alloc (.cells c0 t0)).alloc (.cells c1 t1)).alloc (.cells c2 t2)).alloc (.cells c3 t3)).alloc (.cells c4 t4))):=by
 obtain⟨Y0,e0,h0,b0⟩:=box1 w t0 c0
 have z0:Y0.heap.size=w.heap.size+1:=by rw[e0,World.size_alloc]
 have hB:=b0
 obtain⟨Y1,e1,h1,b1⟩:=box1 Y0 t1 c1
 have z1:Y1.heap.size=w.heap.size+1+1:=by rw[e1,World.size_alloc,z0]
 rw[z0] at h1
 replace h0:=h0.b b1
 replace hB:=bOn hB b1
 obtain⟨Y2,e2,h2,b2⟩:=box1 Y1 t2 c2
 have z2:Y2.heap.size=w.heap.size+1+1+1:=by rw[e2,World.size_alloc,z1]
 rw[z1] at h2
 replace h0:=h0.b b2
 replace h1:=h1.b b2
 replace hB:=bOn hB b2
 obtain⟨Y3,e3,h3,b3⟩:=box1 Y2 t3 c3
 have z3:Y3.heap.size=w.heap.size+1+1+1+1:=by rw[e3,World.size_alloc,z2]
 rw[z2] at h3
 replace h0:=h0.b b3
 replace h1:=h1.b b3
 replace h2:=h2.b b3
 replace hB:=bOn hB b3
 obtain⟨Y4,e4,h4,b4⟩:=box1 Y3 t4 c4
 have z4:Y4.heap.size=w.heap.size+1+1+1+1+1:=by rw[e4,World.size_alloc,z3]
 rw[z3] at h4
 replace h0:=h0.b b4
 replace h1:=h1.b b4
 replace h2:=h2.b b4
 replace h3:=h3.b b4
 replace hB:=bOn hB b4
 exact⟨_,_,h0,h1,h2,h3,h4,hB,Nat.le_refl _,Lib.hid ⟨rfl,by rw[e4,e3,e2,e1,e0]⟩⟩
theorem boxes6 (w:World) (t0:TypeId) (c0:Array Value) (t1:TypeId) (c1:Array Value) (t2:TypeId) (c2:Array Value) (t3:TypeId) (c3:Array Value) (t4:TypeId) (c4:Array Value) (t5:TypeId) (c5:Array Value):∃g W,Blk W (g) t0 c0∧Blk W (g+1) t1 c1∧Blk W (g+1+1) t2 c2∧Blk W (g+1+1+1) t3 c3∧Blk W (g+1+1+1+1) t4 c4∧Blk W (g+1+1+1+1+1) t5 c5∧Below w.heap.size w W∧w.heap.size≤g∧Hid (g=w.heap.size∧W=((((((w.alloc (.cells c0 t0)).alloc (.cells c1 t1)).alloc (.cells c2 t2)).alloc (.cells c3 t3)).alloc (.cells c4 t4)).alloc (.cells c5 t5))):=by
 obtain⟨Y0,e0,h0,b0⟩:=box1 w t0 c0
 have z0:Y0.heap.size=w.heap.size+1:=by rw[e0,World.size_alloc]
 have hB:=b0
 obtain⟨Y1,e1,h1,b1⟩:=box1 Y0 t1 c1
 have z1:Y1.heap.size=w.heap.size+1+1:=by rw[e1,World.size_alloc,z0]
 rw[z0] at h1
 replace h0:=h0.b b1
 replace hB:=bOn hB b1
 obtain⟨Y2,e2,h2,b2⟩:=box1 Y1 t2 c2
 have z2:Y2.heap.size=w.heap.size+1+1+1:=by rw[e2,World.size_alloc,z1]
 rw[z1] at h2
 replace h0:=h0.b b2
 replace h1:=h1.b b2
 replace hB:=bOn hB b2
 obtain⟨Y3,e3,h3,b3⟩:=box1 Y2 t3 c3
 have z3:Y3.heap.size=w.heap.size+1+1+1+1:=by rw[e3,World.size_alloc,z2]
 rw[z2] at h3
 replace h0:=h0.b b3
 replace h1:=h1.b b3
 replace h2:=h2.b b3
 replace hB:=bOn hB b3
 obtain⟨Y4,e4,h4,b4⟩:=box1 Y3 t4 c4
 have z4:Y4.heap.size=w.heap.size+1+1+1+1+1:=by rw[e4,World.size_alloc,z3]
 rw[z3] at h4
 replace h0:=h0.b b4
 replace h1:=h1.b b4
 replace h2:=h2.b b4
 replace h3:=h3.b b4
 replace hB:=bOn hB b4
 obtain⟨Y5,e5,h5,b5⟩:=box1 Y4 t5 c5
 have z5:Y5.heap.size=w.heap.size+1+1+1+1+1+1:=by rw[e5,World.size_alloc,z4]
 rw[z4] at h5
 replace h0:=h0.b b5
 replace h1:=h1.b b5
 replace h2:=h2.b b5
 replace h3:=h3.b b5
 replace h4:=h4.b b5
 replace hB:=bOn hB b5
 exact⟨_,_,h0,h1,h2,h3,h4,h5,hB,Nat.le_refl _,Lib.hid ⟨rfl,by rw[e5,e4,e3,e2,e1,e0]⟩⟩
section
variable {w w':World} {es:List Eq3} {rs:List Rat} {v:Value}
theorem flatQ_len:∀es:List Eq3,(flatQ es).length=es.length*3
 | []=>rfl
 | e :: r => by
   have:=flatQ_len r
   unfold flatQ at *
   rw[List.flatMap_cons,List.length_append,this]
   simp[cellsQ];omega
end
end Go.Proofs.YtdnjdglekifhpaaGreat
namespace Go.Proofs.YtdnjdglekifhpaaGreat
section
variable {P:Program} {ops:Array Oper} {md:Region.Mode} {w:World} {n lr:Nat}
theorem wpInR_of_still {o:Oper} {a:Act} {K:Act→Prop} {K':Act→World→Prop} {Q':Exit→Act→World→Prop} (h:∀a,K a→K' a w) (hno:∀c,o.op≠.defer c) (hh:o.still P a w K):o.wpIn (Fence.wide.inRound lr) n P a w K' Q':=by
 unfold Oper.still at hh
 unfold Oper.wpIn
 refine ⟨fun _ _=>trivial,?_⟩
 rw[Fence.inRound_round,Oper.semAt_eq _ _ _ hno]
 generalize (execOp a.eval o).run P w=r at *
 cases r with
 | ok x w' =>
   cases x<;>simp only[Oper.stillUpon] at hh<;>simp only[Oper.uponIn]
   case enter f args=>
    obtain⟨rfl,v,hc,hn⟩:=hh
    exact⟨fun hd=>by simp[Fence.wide] at hd,CallsIn.inRound lr (callsIn_wide.2 (hc.mono fun e w'' ⟨he,hw⟩=>by subst he;subst hw;exact h _ hn))⟩
   all_goals (obtain⟨rfl,h2⟩:=hh;exact h _ h2)
 | halt x w'=>simp only[Oper.stillUpon] at hh
theorem wpOpInR_of_stOp {i:Nat} {a:Act} {K:Act→Prop} {K':Act→World→Prop} {Q':Exit→Act→World→Prop} (h:∀a,K a→K' a w) (hnd:∀(i:Nat) (o:Oper),ops[i]?=some o→∀c,o.op≠.defer c) (hh:stOp P ops w i K a):wpOpIn (Fence.wide.inRound lr) n P ops Q' i K' a w:=by
 unfold stOp at hh
 unfold wpOpIn
 split
 ·rename_i ho;simp only[ho] at hh;exact h _ hh
 ·rename_i o ho
  simp only[ho] at hh
  split
  ·rename_i hw;simp only[hw,if_true] at hh;exact wpInR_of_still h (hnd _ _ ho) hh
  ·rename_i hw;simp only[hw] at hh;exact⟨fun _ _=>trivial,h _ hh⟩
theorem wpAnyInR_of_head {m g:Nat} {L:Array Bool→Act→Prop} {Q':Exit→Act→World→Prop} (hnd:∀(i:Nat) (o:Oper),ops[i]?=some o→∀c,o.op≠.defer c) (hL:∀listed a,L listed a→wpAnyIn (Fence.wide.inRound lr) n P md ops Q' g listed a w):
 ∀(f:Nat) (listed:Array Bool) (a:Act),wpAnyL P md ops w m L f listed a→wpAnyIn (Fence.wide.inRound lr) n P md ops Q' (f+g) listed a w
 | 0,listed,a,h=>by rw[Nat.zero_add];exact hL _ _ h
 | f + 1, listed, a, h => by
   rw[show f+1+g=(f+g)+1 by omega]
   exact⟨fun h0=>absurd h0 h.1,fun i hi=>wpOpInR_of_stOp (fun a' h'=>wpAnyInR_of_head hnd hL f _ a' h') hnd (h.2 i hi).2⟩
theorem wpAnyInR_of_seq {Q':Exit→Act→World→Prop}:∀(l:List Oper) (k:Nat) (listed:Array Bool) (a:Act) (w:World),(∀j,l[j]?=ops[k+j]?)→
 Region.seqB md ops l.length k listed=true→wpListIn (Fence.wide.inRound lr) n P ops Q' l a w→wpAnyIn (Fence.wide.inRound lr) n P md ops Q' l.length listed a w
 | [],_,_,_,_,_,hB,h=>⟨by simpa [Region.seqB] using hB,h⟩
 | o :: l, k, listed, a, w, hl, hB, h => by
   have h0:ops[k]?=some o:=by simpa using (hl 0).symm
   simp only[List.length_cons,Region.seqB,Bool.and_eq_true,decide_eq_true_eq] at hB
   refine ⟨fun h1=>(by rw[hB.1] at h1;cases h1),fun i hi=>?_⟩
   rw[hB.1] at hi
   have hik:i=k:=by simpa using hi
   subst hik
   have hw:wpOpIn (Fence.wide.inRound lr) n P ops Q' i (wpListIn (Fence.wide.inRound lr) n P ops Q' l) a w:=by unfold wpOpIn;simp only[h0];exact h
   exact wpOpIn_mono (fun a' w' h'=>wpAnyInR_of_seq l (i+1) _ a' w' (fun j=>by have:=hl (j+1);simpa [Nat.add_assoc,Nat.add_comm 1 j] using this) hB.2 h') hw
theorem wpInR_region_still_tail {id:Nat} {Q:Exit→Act→World→Prop} {a:Act} {w:World} {l:List Oper} (m:Nat) (hm:P.follows .mixedOrders=true) (hB:Region.lexTailB .any l.toArray m=true) (hnd:l.all noDefer=true)
 (h:wpStill P l.toArray { w with drawn:=w.drawn+1 } (fun a'=>wpListIn (Fence.wide.inRound lr) n P l.toArray Q (l.drop m) a' { w with drawn:=w.drawn+1 }) (l.take m) a):(Code.region id l.toArray true).wpIn (Fence.wide.inRound lr) n P Q a w:=by
 have hnd':∀(i:Nat) (o:Oper),l.toArray[i]?=some o→∀c,o.op≠.defer c:=fun i o ho c e=>by
  have:=List.all_eq_true.1 hnd o (List.mem_of_getElem? (by simpa using ho))
  unfold noDefer at this;rw[e] at this;cases this
 simp only[Region.lexTailB,Bool.and_eq_true,decide_eq_true_eq] at hB
 obtain⟨⟨⟨⟨hsel,hn⟩,hs⟩,hc⟩,hlex⟩:=hB
 have hn':m<l.length:=by simpa using hn
 have htl:(l.take m).length=m:=by simp;omega
 have hdl:(l.drop m).length=l.toArray.size - m:=by simp
 have inv0:HeadInv .any l.toArray m (Array.replicate l.toArray.size false):=
  ⟨by simp,fun j oj _ hl=>(by rw[getD_replicate_false] at hl;cases hl),fun t _ ht=>getD_in (by simpa using ht) (getD_replicate_false _ _)⟩
 have H:=wpAnyL_lex (md:= .any) (g:=l.toArray.size - m) hsel hs hc hn (l.take m) 0 _ a (fun j hj=>by
  have hj':j<m:=by rw[htl] at hj;exact hj
  simp[hj']) (by simpa using htl) inv0 (by rw[htl];exact hlex) h
 refine wpIn_region_any hm ?_
 have:=wpAnyInR_of_head (lr:=lr) hnd' (n:=n) (Q':=Q) (g:=l.toArray.size - m) (fun listed a' hL=>by
  have:=wpAnyInR_of_seq (lr:=lr) (n:=n) (md:= .any) (Q':=Q) (l.drop m) m listed a' { w with drawn:=w.drawn+1 } (fun j=>by simp[List.getElem?_drop]) (by rw[hdl];exact hL.1) hL.2
  rwa [hdl] at this) _ _ _ H
 rw[htl,show m+(l.toArray.size - m)=l.toArray.size by omega] at this
 exact this
end
end Go.Proofs.YtdnjdglekifhpaaGreat
namespace Go.Proofs.YtdnjdglekifhpaaGreat
open Go.RowKit
attribute [local go_sem ↓] Go.wp_at_zero Go.wp_at_succ
theorem cmp_sided2 (a b:Int):cmpI a b=if decide (a<0)=true∧decide (b<0)=false then -1 else if decide (b<0)=true∧decide (a<0)=false then 1 else if decide (a<0)=true then cmpI b.natAbs a.natAbs else cmpI a.natAbs b.natAbs:=by
 unfold cmpI
 by_cases ha:a<0<;>by_cases hb:b<0<;>simp only[ha,hb,decide_true,decide_false,and_self,and_true,and_false,if_true,if_false,Bool.false_eq_true,Bool.true_eq_false]<;>(repeat' split)<;>omega
theorem pzcmp_any (va vb:Value) (a b:Int) (w:World) (ha:IsZ w va a) (hb:IsZ w vb b):
 Calls Tryz.prog 210 #[va,vb] w fun e w'=>e= .returned (.int .i64 (cmpI a b))∧Below w.heap.size w w':=by
 rw[cmp_sided2]
 obtain⟨na,rfl,ha⟩:=ha
 obtain⟨nb,rfl,hb⟩:=hb
 have hC:=fun w ha hb=>cmp_any na nb a.natAbs b.natAbs w ha hb
 have hD:=fun w ha hb=>cmp_any nb na b.natAbs a.natAbs w ha hb
 generalize cmpI (a.natAbs:Int) (b.natAbs:Int)=c at *
 generalize cmpI (b.natAbs:Int) (a.natAbs:Int)=d at *
 generalize decide (a<0)=s1 at *
 generalize decide (b<0)=s2 at *
 rcases s1 with _ | _
 ·rcases s2 with _ | _
  ·obtain⟨W0,hW,hT,hB⟩:=box2 w 30 30 #[.bool false,na] #[.bool false,nb]
   obtain⟨g,hg⟩:∃g,g=w.heap.size:=⟨_,rfl⟩
   have hW':=Lib.hid (And.intro hW hg)
   rw[←hg] at hT
   have hgw:w.heap.size≤g:=by omega
   clear hW hg
   obtain⟨hX,hY⟩:=hT
   replace ha:=ha.b hB
   replace hb:=hb.b hB
   obtain⟨c1_hX_0,c1_hX_1⟩:=hX.cells2
   obtain⟨c1_hY_0,c1_hY_1⟩:=hY.cells2
   go_enter Tryz.func210,Tryz.ntmps210
   go_wp2_with fail
   rw[←hW'.out.1,←hW'.out.2]
   refine (hC _ ha hb).mono ?_
   rintro e w1 ⟨rfl,b1⟩
   replace ha:=ha.b b1
   replace hb:=hb.b b1
   replace hX:=hX.b b1
   replace hY:=hY.b b1
   replace hB:=bOn hB b1
   clear c1_hX_0 c1_hX_1 c1_hY_0 c1_hY_1
   obtain⟨c2_hX_0,c2_hX_1⟩:=hX.cells2
   obtain⟨c2_hY_0,c2_hY_1⟩:=hY.cells2
   go_wp2
   go_ret
   exact⟨rfl,hB⟩
  ·obtain⟨W0,hW,hT,hB⟩:=box2 w 30 30 #[.bool false,na] #[.bool true,nb]
   obtain⟨g,hg⟩:∃g,g=w.heap.size:=⟨_,rfl⟩
   have hW':=Lib.hid (And.intro hW hg)
   rw[←hg] at hT
   have hgw:w.heap.size≤g:=by omega
   clear hW hg
   obtain⟨hX,hY⟩:=hT
   replace ha:=ha.b hB
   replace hb:=hb.b hB
   obtain⟨c1_hX_0,c1_hX_1⟩:=hX.cells2
   obtain⟨c1_hY_0,c1_hY_1⟩:=hY.cells2
   go_enter Tryz.func210,Tryz.ntmps210
   go_wp2
   go_ret
   exact⟨rfl,by have:=hB;rw[hW'.out.1] at this;exact this⟩
 ·rcases s2 with _ | _
  ·obtain⟨W0,hW,hT,hB⟩:=box2 w 30 30 #[.bool true,na] #[.bool false,nb]
   obtain⟨g,hg⟩:∃g,g=w.heap.size:=⟨_,rfl⟩
   have hW':=Lib.hid (And.intro hW hg)
   rw[←hg] at hT
   have hgw:w.heap.size≤g:=by omega
   clear hW hg
   obtain⟨hX,hY⟩:=hT
   replace ha:=ha.b hB
   replace hb:=hb.b hB
   obtain⟨c1_hX_0,c1_hX_1⟩:=hX.cells2
   obtain⟨c1_hY_0,c1_hY_1⟩:=hY.cells2
   go_enter Tryz.func210,Tryz.ntmps210
   go_wp2
   go_ret
   exact⟨rfl,by have:=hB;rw[hW'.out.1] at this;exact this⟩
  ·obtain⟨Aa,La,Ca,rfl⟩:=ha.frm
   obtain⟨Ab,Lb,Cb,rfl⟩:=hb.frm
   obtain⟨W0,hW,hT,hB⟩:=box2 w 30 30 #[.bool true,.slice Ab Lb Cb] #[.bool true,.slice Aa La Ca]
   obtain⟨g,hg⟩:∃g,g=w.heap.size:=⟨_,rfl⟩
   have hW':=Lib.hid (And.intro hW hg)
   rw[←hg] at hT
   have hgw:w.heap.size≤g:=by omega
   clear hW hg
   obtain⟨hX,hY⟩:=hT
   replace ha:=ha.b hB
   replace hb:=hb.b hB
   obtain⟨c1_hX_0,c1_hX_1⟩:=hX.cells2
   obtain⟨c1_hY_0,c1_hY_1⟩:=hY.cells2
   go_enter Tryz.func210,Tryz.ntmps210
   go_wp2_with fail
   rw[←hW'.out.1,←hW'.out.2]
   refine (hD _ hb ha).mono ?_
   rintro e w1 ⟨rfl,b1⟩
   replace ha:=ha.b b1
   replace hb:=hb.b b1
   replace hX:=hX.b b1
   replace hY:=hY.b b1
   replace hB:=bOn hB b1
   clear c1_hX_0 c1_hX_1 c1_hY_0 c1_hY_1
   obtain⟨c2_hX_0,c2_hX_1⟩:=hX.cells2
   obtain⟨c2_hY_0,c2_hY_1⟩:=hY.cells2
   go_wp2
   go_ret
   exact⟨rfl,hB⟩
end Go.Proofs.YtdnjdglekifhpaaGreat
namespace Go.Proofs.YtdnjdglekifhpaaGreat
open Go.RowKit
attribute [local go_sem ↓] Go.wp_at_zero Go.wp_at_succ
theorem search_any (n:Nat) (hn:n≤1000) (p:Nat→Bool) (a1 a2 a3:Addr) (w:World) (hmono:∀i j,i≤j→j<n→p i=true→p j=true)
 (hf:∀i w',i<n→Below w.heap.size w w'→Calls Tryz.prog 209 #[.int .i64 i,.pointer (some a1),.pointer (some a2),.pointer (some a3)] w' fun e w''=>e= .returned (.bool (p i))∧Below w'.heap.size w' w''):
 Calls Tryz.prog 211 #[.int .i64 n,.func (.func 209) #[] #[.pointer (some a1),.pointer (some a2),.pointer (some a3)]] w fun e w'=>
  ∃k:Nat,k≤n∧e= .returned (.int .i64 k)∧(∀i,i<k→p i=false)∧(∀i,k≤i→i<n→p i=true)∧Below w.heap.size w w':=by
 have HM:=Lib.hid hmono
 clear hmono
 go_enter Tryz.func211,Tryz.ntmps211
 go_wp2
 go_loopw [5,6] (fun i j wr=>∃a b:Nat,i= .int .i64 a∧j= .int .i64 b∧a≤b∧b≤n∧Hid ((∀i,i<a→p i=false)∧(∀i,b≤i→i<n→p i=true))∧Below w.heap.size w wr) (fun i j _=>(intOf j).toNat - (intOf i).toNat)
 case atStart=>exact⟨0,n,rfl,rfl,by omega,by omega,Lib.hid ⟨fun i h=>by omega,fun i h1 h2=>by omega⟩,Below.refl _ _⟩
 case round=>
  obtain⟨a,b,rfl,rfl,hab,hb,HH,bl⟩:=hrel
  by_cases hlt:a<b
  ·obtain⟨m,hm⟩:∃m:Nat,m=(a+b) / 2:=⟨_,rfl⟩
   have hm':((a:Int)+(b:Int)) / 2=(m:Int):=by omega
   have hma:a≤m:=by omega
   have hmb:m<b:=by omega
   have HQ:=Lib.hid hm'
   clear hm hm'
   go_wp2_with fail
   rw[HQ.out]
   refine (hf m _ (by omega) bl).mono ?_
   rintro e w1 ⟨rfl,b1⟩
   cases hp:p m
   ·have H1:∀i,i<m+1→p i=false:=fun i hi=>by
     cases h:p i
     ·rfl
     ·have h2:=HM.out i m (by omega) (by omega) h
      rw[hp] at h2;cases h2
    have H2:=Lib.hid (And.intro H1 HH.out.2)
    clear H1
    clear hp
    have hw:IntKind.i64.wrap ((m:Int)+1)=((m+1:Nat):Int):=by rw[IntKind.wrap_i64];omega
    go_wp2
    go_roundw
    case rel=>exact⟨m+1,b,by go_num,rfl,by omega,by omega,H2,bl.trans (b1.mono bl.size)⟩
    case measure=>simp[intOf];omega
   ·have H2:=Lib.hid (show (∀i,i<a→p i=false)∧(∀i,m≤i→i<n→p i=true) from ⟨HH.out.1,fun i h1 h2=>HM.out m i h1 h2 hp⟩)
    clear hp
    go_wp2
    go_roundw
    case rel=>exact⟨a,m,rfl,rfl,by omega,by omega,H2,bl.trans (b1.mono bl.size)⟩
    case measure=>simp[intOf];omega
  ·obtain rfl:a=b:=by omega
   go_wp2
   go_ret
   exact⟨a,by omega,rfl,HH.out.1,HH.out.2,bl⟩
end Go.Proofs.YtdnjdglekifhpaaGreat
namespace Go.Proofs.YtdnjdglekifhpaaGreat
open Go.RowKit
attribute [local go_sem ↓] Go.wp_at_zero Go.wp_at_succ
theorem pzint_any (v:Value) (z:Int) (w:World) (h:IsZ w v z):
 Calls Tryz.prog 260 #[v] w fun e w'=>e= .returned (.tuple #[.int .i64 (fitV z),.bool (fitB z)])∧Below w.heap.size w w':=by
 obtain⟨nv,rfl,hn⟩:=h
 have hS:=fun w hn=>small_any nv (limbs z.natAbs) w hn
 obtain⟨W0,hW,hR,hB⟩:=box1 w 30 #[.bool (decide (z<0)),nv]
 obtain⟨g,hg⟩:∃g,g=w.heap.size:=⟨_,rfl⟩
 have hW':=Lib.hid (And.intro hW hg)
 rw[←hg] at hR
 clear hW hg
 have hn:=hn.below hB
 have HB:=Lib.hid hB
 obtain⟨q0,q1⟩:=hR.cells2
 by_cases hbig:z.natAbs<W64
 ·obtain⟨l1,l2⟩:=limb1 hbig
  simp only[if_pos l1,l2] at hS
  unfold W64 at hbig
  clear l1 l2
  obtain⟨x,hx⟩:∃x:Nat,x=z.natAbs:=⟨_,rfl⟩
  by_cases h3:z<0
  ·have d1:decide (z<0)=true:=decide_eq_true h3
   rw[d1] at hW' q0
   rw[d1]
   by_cases h1:z< -9223372036854775808
   ·have e1:fitV z=0∧fitB z=false:=⟨if_neg (by omega),decide_eq_false (by omega)⟩
    rw[e1.1,e1.2]
    have d2:IntKind.i64.wrap (x:Int)=(x:Int) - 18446744073709551616:=by rw[IntKind.wrap_i64];omega
    have d3:IntKind.i64.wrap (-((x:Int) - 18446744073709551616))=18446744073709551616 - (x:Int):=by rw[IntKind.wrap_i64];omega
    have d4:(18446744073709551616 - (x:Int) != 0)=true:=by rw[bne_iff_ne];omega
    have d5:decide (18446744073709551616 - (x:Int)<0)=false:=decide_eq_false (by omega)
    rw[←hx] at hS hn
    clear d1 e1 h1 h3 hbig hx
    go_enter Tryz.func260,Tryz.ntmps260
    go_wp2_with fail
    rw[←hW'.out.1,←hW'.out.2]
    refine (hS _ hn).mono ?_
    rintro e w1 ⟨rfl,rfl⟩
    go_wp2
    go_ret2
    exact⟨rfl,HB.out⟩
   ·by_cases h2:z= -9223372036854775808
    ·have e1:fitV z= -9223372036854775808∧fitB z=true:=⟨by rw[h2];rfl,by rw[h2];rfl⟩
     rw[e1.1,e1.2]
     have d2:z.natAbs=9223372036854775808:=by omega
     rw[d2] at hS hn
     have f1:wrap64 9223372036854775808= -9223372036854775808:=by unfold wrap64;omega
     have f2:IntKind.i64.wrap 9223372036854775808= -9223372036854775808:=by rw[IntKind.wrap_i64];omega
     clear d1 e1 h1 h2 d2 hbig hx h3
     go_enter Tryz.func260,Tryz.ntmps260
     go_wp2_with fail
     rw[←hW'.out.1,←hW'.out.2]
     refine (hS _ hn).mono ?_
     rintro e w1 ⟨rfl,rfl⟩
     go_wp2
     go_ret2
     exact⟨rfl,HB.out⟩
    ·have e1:fitV z=z∧fitB z=true:=⟨if_pos (by omega),decide_eq_true (by omega)⟩
     rw[e1.1,e1.2]
     have ez:z= -(x:Int):=by omega
     have d2:IntKind.i64.wrap (x:Int)=(x:Int):=by rw[IntKind.wrap_i64];omega
     have d3:IntKind.i64.wrap (-(x:Int))= -(x:Int):=by rw[IntKind.wrap_i64];omega
     have d4:(-(x:Int) != 0)=true:=by rw[bne_iff_ne];omega
     have d5:decide (-(x:Int)<0)=true:=decide_eq_true (by omega)
     have d6:decide (0<(x:Int))=true:=decide_eq_true (by omega)
     have d7:0<x:=by omega
     have d8:¬x=0:=by omega
     rw[←hx] at hS hn
     have EZ:=Lib.hid ez
     clear d1 e1 h1 h2 h3 hbig hx ez
     go_enter Tryz.func260,Tryz.ntmps260
     go_wp2_with fail
     rw[←hW'.out.1,←hW'.out.2]
     refine (hS _ hn).mono ?_
     rintro e w1 ⟨rfl,rfl⟩
     go_wp2
     go_ret2
     exact⟨by rw[EZ.out];rfl,HB.out⟩
  ·have d1:decide (z<0)=false:=decide_eq_false h3
   rw[d1] at hW' q0
   rw[d1]
   by_cases h4:z≤9223372036854775807
   ·have e1:fitV z=z∧fitB z=true:=⟨if_pos (by omega),decide_eq_true (by omega)⟩
    rw[e1.1,e1.2]
    have ez:z=(x:Int):=by omega
    have d2:IntKind.i64.wrap (x:Int)=(x:Int):=by rw[IntKind.wrap_i64];omega
    have d5:decide ((x:Int)<0)=false:=decide_eq_false (by omega)
    rw[←hx] at hS hn
    have EZ:=Lib.hid ez
    clear d1 e1 h3 h4 hbig hx ez
    by_cases h0:x=0
    ·subst h0
     go_enter Tryz.func260,Tryz.ntmps260
     go_wp2_with fail
     rw[←hW'.out.1,←hW'.out.2]
     refine (hS _ hn).mono ?_
     rintro e w1 ⟨rfl,rfl⟩
     go_wp2
     go_ret2
     exact⟨by rw[EZ.out];rfl,HB.out⟩
    ·have d4:((x:Int) != 0)=true:=by rw[bne_iff_ne];omega
     go_enter Tryz.func260,Tryz.ntmps260
     go_wp2_with fail
     rw[←hW'.out.1,←hW'.out.2]
     refine (hS _ hn).mono ?_
     rintro e w1 ⟨rfl,rfl⟩
     go_wp2
     go_ret2
     exact⟨by rw[EZ.out];rfl,HB.out⟩
   ·have e1:fitV z=0∧fitB z=false:=⟨if_neg (by omega),decide_eq_false (by omega)⟩
    rw[e1.1,e1.2]
    have d2:IntKind.i64.wrap (x:Int)=(x:Int) - 18446744073709551616:=by rw[IntKind.wrap_i64];omega
    have d4:((x:Int) - 18446744073709551616 != 0)=true:=by rw[bne_iff_ne];omega
    have d5:decide ((x:Int) - 18446744073709551616<0)=true:=decide_eq_true (by omega)
    rw[←hx] at hS hn
    clear d1 e1 h3 h4 hbig hx
    go_enter Tryz.func260,Tryz.ntmps260
    go_wp2_with fail
    rw[←hW'.out.1,←hW'.out.2]
    refine (hS _ hn).mono ?_
    rintro e w1 ⟨rfl,rfl⟩
    go_wp2
    go_ret2
    exact⟨rfl,HB.out⟩
 ·have hl:¬(limbs z.natAbs).length≤1:=by
   intro hl
   have:=lt_of_limbs_len hl
   rw[Nat.pow_one] at this
   exact hbig this
  simp only[if_neg hl] at hS
  have e1:fitV z=0∧fitB z=false:=by
   unfold W64 at hbig
   exact⟨if_neg (by omega),decide_eq_false (by omega)⟩
  rw[e1.1,e1.2]
  clear e1 hl hbig
  generalize decide (z<0)=s at *
  cases s
  all_goals
   go_enter Tryz.func260,Tryz.ntmps260
   go_wp2_with fail
   rw[←hW'.out.1,←hW'.out.2]
   refine (hS _ hn).mono ?_
   rintro e w1 ⟨rfl,rfl⟩
   go_wp2
   go_ret2
   exact⟨rfl,HB.out⟩
end Go.Proofs.YtdnjdglekifhpaaGreat
namespace Go.Proofs.YtdnjdglekifhpaaGreat
open Go.RowKit
attribute [local go_sem ↓] Go.wp_at_zero Go.wp_at_succ
theorem rqcmp_any (va vb:Value) (a b:Rat) (w:World) (ha:IsQ w va a) (hb:IsQ w vb b) (sa:BQ a 10000) (sb:BQ b 10000):
 Calls Tryz.prog 28 #[va,vb] w fun e w'=>e= .returned (.int .i64 (cmpQ a b))∧Below w.heap.size w w':=by
 obtain⟨pa,qa,rfl,hpa,hqa⟩:=ha
 have hza:IsZ w (.agg #[.bool (decide (a.num<0)),pa]) a.num:=⟨_,rfl,hpa⟩
 obtain⟨pb,qb,rfl,hpb,hqb⟩:=hb
 have hzb:IsZ w (.agg #[.bool (decide (b.num<0)),pb]) b.num:=⟨_,rfl,hpb⟩
 have hO1:=fun w hp hq=>rqover_any (.agg #[.bool (decide (a.num<0)),pa]) qb a.num b.den w hp hq (sa.1.more (by omega)) (sb.2.more (by omega))
 have hO2:=fun w hp hq=>rqover_any (.agg #[.bool (decide (b.num<0)),pb]) qa b.num a.den w hp hq (sb.1.more (by omega)) (sa.2.more (by omega))
 have hC:=fun u v w hu hv=>rzcmp_any u v (a.num*b.den) (b.num*a.den) w hu hv
 rw[show cmpQ a b=cmpI (a.num*b.den) (b.num*a.den) from rfl]
 generalize cmpI (a.num*b.den) (b.num*a.den)=c at *
 generalize a.num*(b.den:Int)=m1 at *
 generalize b.num*(a.den:Int)=m2 at *
 generalize a.num=na at *
 generalize b.num=nb at *
 clear hpa hpb sa sb
 generalize decide (na<0)=sa at *
 generalize decide (nb<0)=sb at *
 obtain⟨W0,hW,hT,hB⟩:=box2 w 32 32 #[.bool sa,pa,qa] #[.bool sb,pb,qb]
 obtain⟨g,hg⟩:∃g,g=w.heap.size:=⟨_,rfl⟩
 have hW':=Lib.hid (And.intro hW hg)
 rw[←hg] at hT
 clear hW hg
 have hza:=hza.below hB
 have hzb:=hzb.below hB
 have hqa:=hqa.below hB
 have hqb:=hqb.below hB
 go_enter Tryz.func28,Tryz.ntmps28
 go_wp2
 rw[←hW'.out.1,←hW'.out.2]
 go_region_held3 (fun w'=>w'.cell? ⟨g,0,none⟩=some (.bool sa)∧w'.cell? ⟨g,1,none⟩=some pa∧w'.cell? ⟨g,2,none⟩=some qa∧w'.cell? ⟨g+1,0,none⟩=some (.bool sb)∧w'.cell? ⟨g+1,1,none⟩=some pb∧w'.cell? ⟨g+1,2,none⟩=some qb) (exact Two.cells33 (hT.below (by first | assumption | exact balloc (by assumption) _ | exact bdrew _ | exact balloc (bdrew _) _) hT.lt))
  (first
   | (go_at_call 72;(with_reducible refine (hO1 _ ?_ ?_).mono ?_);exact hza.below (by first | assumption | exact balloc (by assumption) _ | exact bdrew _ | exact balloc (bdrew _) _);exact hqb.below (by first | assumption | exact balloc (by assumption) _ | exact bdrew _ | exact balloc (bdrew _) _);rintro x w1 ⟨v1,rfl,h1,b1⟩;have B1:=bstep (by first | assumption | exact balloc (by assumption) _ | exact bdrew _ | exact balloc (bdrew _) _) b1)
   | (go_at_call 72;(with_reducible refine (hO2 _ ?_ ?_).mono ?_);exact hzb.below (by first | assumption | exact balloc (by assumption) _ | exact bdrew _ | exact balloc (bdrew _) _);exact hqa.below (by first | assumption | exact balloc (by assumption) _ | exact bdrew _ | exact balloc (bdrew _) _);rintro x w2 ⟨v2,rfl,h2,b2⟩;have B2:=bstep (by first | assumption | exact balloc (by assumption) _ | exact bdrew _ | exact balloc (bdrew _) _) b2;have h1:=h1.below (by first | exact b2 | exact bstep (balloc (Below.refl _ _) _) b2))
   | (go_at_call 79;(with_reducible refine (hC _ _ _ ?_ ?_).mono ?_);exact h1.below (by first | exact Below.refl _ _ | exact balloc (Below.refl _ _) _);exact h2.below (by first | exact Below.refl _ _ | exact balloc (Below.refl _ _) _);rintro x w3 ⟨rfl,b3⟩;have B3:=bstep (by first | assumption | exact balloc (by assumption) _ | exact bdrew _ | exact balloc (bdrew _) _) b3))
 go_wp2
 go_ret
 exact⟨rfl,hB.trans (B3.mono hB.size)⟩
theorem rqneg_any (v:Value) (a:Rat) (w:World) (ha:IsQ w v a):
 Calls Tryz.prog 78 #[v] w fun e w'=>∃v',e= .returned v'∧IsQ w' v' (-a)∧Below w.heap.size w w':=by
 obtain⟨pa,qa,rfl,hpa,hqa⟩:=ha
 have hza:IsZ w (.agg #[.bool (decide (a.num<0)),pa]) a.num:=⟨_,rfl,hpa⟩
 have hN:=fun w hz=>rzneg_any (.agg #[.bool (decide (a.num<0)),pa]) a.num w hz
 obtain⟨c,hc⟩:∃c,c= -a.num:=⟨_,rfl⟩
 have KEY:Hid (∀w' b x y,IsN w' x c.natAbs→IsN w' y a.den→b=decide (c<0)→IsQ w' (.agg #[.bool b,x,y]) (-a)):=by
  rw[hc];rintro w' b x y h1 h2 rfl;exact⟨x,y,rfl,h1,h2⟩
 rw[←hc] at hN
 clear hc hpa
 generalize a.num=na at *
 generalize a.den=da at *
 generalize decide (na<0)=sa at *
 obtain⟨Aq,Lq,Cq,rfl⟩:=hqa.frm
 obtain⟨W0,hW,hT,hB⟩:=box2 w 32 32 #[.bool sa,pa,.slice Aq Lq Cq] #[.bool false,.slice none 0 0,.slice none 0 0]
 obtain⟨g,hg⟩:∃g,g=w.heap.size:=⟨_,rfl⟩
 have hW':=Lib.hid (And.intro hW hg)
 rw[←hg] at hT
 clear hW hg
 have hza:=hza.below hB
 have hqa:=hqa.below hB
 go_enter Tryz.func78,Tryz.ntmps78
 go_wp2
 rw[←hW'.out.1,←hW'.out.2]
 go_region_held3 (fun w'=>w'.cell? ⟨g,0,none⟩=some (.bool sa)∧w'.cell? ⟨g,1,none⟩=some pa∧w'.cell? ⟨g,2,none⟩=some (.slice Aq Lq Cq)) (first | exact Blk.cells3 (hT.1.below (by first | assumption | exact balloc (by assumption) _ | exact bdrew _ | exact balloc (bdrew _) _) hT.1.lt) | exact Blk.cells3 (Blk.far3 (hT.1.below (by first | assumption | exact balloc (by assumption) _ | exact bdrew _ | exact balloc (bdrew _) _) hT.1.lt) _ _ _))
  (first
   | (go_at_call 142;(with_reducible refine (hN _ ?_).mono ?_);exact hza.below (by first | assumption | exact balloc (by assumption) _ | exact bdrew _ | exact balloc (bdrew _) _);rintro x w1 ⟨v1,rfl,⟨n1,rfl,h1⟩,b1⟩;obtain⟨A1,L1,C1,rfl⟩:=h1.frm;have B1:=bstep (by first | assumption | exact balloc (by assumption) _ | exact bdrew _ | exact balloc (bdrew _) _) b1;have hqa1:=hqa.below B1;have hR1:=hT.2.below B1 hT.2.lt;have q0:=hR1.cell 0;have q1:=hR1.cell 1;have q2:=hR1.cell 2;have z0:=hR1.frozen 0;have z1:=hR1.frozen 1;have z2:=hR1.frozen 2))
 obtain⟨p1,p2,p3⟩:=put3 hR1 (.bool (decide (c<0))) (.slice A1 L1 C1) (.slice Aq Lq Cq) (by simp[noU]) (hB.trans (B1.mono hB.size)) (by rw[hW'.out.2];omega)
 have q0:=hR1.cell 0
 have z0:=hR1.frozen 0
 have q1:=hR1.cell 1
 have z1:=hR1.frozen 1
 have q2:=hR1.cell 2
 have z2:=hR1.frozen 2
 have P:=Lib.hid (And.intro (KEY.out _ _ _ _ (p2 _ _ h1) (p2 _ _ hqa1) rfl) (And.intro p3 p1.cells3))
 clear p1 p2 p3 hN
 go_wp2
 obtain⟨P1,P2,P3,P4,P5⟩:=P.out
 exact bodyPost_ret (v:= .agg #[.bool (decide (c<0)),.slice A1 L1 C1,.slice Aq Lq Cq]) (by simp[results,Tryz.results78,go_sem,P3,P4,P5]) rfl ⟨_,rfl,P1,P2⟩
end Go.Proofs.YtdnjdglekifhpaaGreat
namespace Go.Proofs.YtdnjdglekifhpaaGreat
open Go.RowKit
attribute [local go_sem ↓] Go.wp_at_zero Go.wp_at_succ
theorem rqmul_any (va vb:Value) (a b:Rat) (w:World) (ha:IsQ w va a) (hb:IsQ w vb b) (sa:BQ a 10000) (sb:BQ b 10000):
 Calls Tryz.prog 25 #[va,vb] w fun e w'=>∃v',e= .returned v'∧IsQ w' v' (a*b)∧Below w.heap.size w w':=by
 have hda:0<a.den:=Rat.den_pos a
 have hdb:0<b.den:=Rat.den_pos b
 obtain⟨pa,qa,rfl,hpa,hqa⟩:=ha
 have hza:IsZ w (.agg #[.bool (decide (a.num<0)),pa]) a.num:=⟨_,rfl,hpa⟩
 obtain⟨pb,qb,rfl,hpb,hqb⟩:=hb
 have hzb:IsZ w (.agg #[.bool (decide (b.num<0)),pb]) b.num:=⟨_,rfl,hpb⟩
 have hA:=fun w hu hv=>rzmul_any (.agg #[.bool (decide (a.num<0)),pa]) (.agg #[.bool (decide (b.num<0)),pb]) a.num b.num w hu hv (sa.1.more (by omega)) (sb.1.more (by omega))
 have hM:=fun w hu hv=>rmul_any qa qb a.den b.den w hu hv (sa.2.fin (by omega)) (sb.2.fin (by omega))
 have hK:=fun u v w hu hv=>rqmake_any u v (a.num*b.num) (a.den*b.den) w hu hv ((sa.1.imul sb.1).more (by omega)) ((sa.2.mul sb.2).more (by omega)) (Nat.mul_pos hda hdb)
 rw[←Rat.mul_def'] at hK
 obtain⟨r,hr⟩:∃r,r=a*b:=⟨_,rfl⟩
 rw[←hr] at hK ⊢
 clear hr
 generalize a.num*b.num=m3 at *
 generalize a.den*b.den=d at *
 generalize a.num=na at *
 generalize b.num=nb at *
 generalize a.den=da at *
 generalize b.den=db at *
 clear hpa hpb sa sb hda hdb
 generalize decide (na<0)=sa at *
 generalize decide (nb<0)=sb at *
 obtain⟨W0,hW,hT,hR,hB⟩:=box3 w 32 32 32 #[.bool sa,pa,qa] #[.bool sb,pb,qb] #[.bool false,.slice none 0 0,.slice none 0 0]
 obtain⟨g,hg⟩:∃g,g=w.heap.size:=⟨_,rfl⟩
 have hW':=Lib.hid (And.intro hW hg)
 rw[←hg] at hT hR
 clear hW hg
 have hza:=hza.below hB
 have hzb:=hzb.below hB
 have hqa:=hqa.below hB
 have hqb:=hqb.below hB
 have hgw:w.heap.size≤g:=by rw[hW'.out.2];omega
 go_enter Tryz.func25,Tryz.ntmps25
 go_upto_region 1 with fail
 rw[←hW'.out.1,←hW'.out.2]
 go_cut [5] (fun s wx=>∃(X:Nat) (A1 A2:Option Addr) (L1 L2 C1 C2:Nat),s= .pointer (some ⟨X,0,none⟩)∧Blk wx X 32 #[.bool (decide (r.num<0)),.slice A1 L1 C1,.slice A2 L2 C2]∧IsN wx (.slice A1 L1 C1) r.num.natAbs∧IsN wx (.slice A2 L2 C2) r.den∧Blk wx (g+1+1) 32 #[.bool false,.slice none 0 0,.slice none 0 0]∧Below w.heap.size w wx)
 case first=>
  go_region_held3 (fun w'=>w'.cell? ⟨g,0,none⟩=some (.bool sa)∧w'.cell? ⟨g,1,none⟩=some pa∧w'.cell? ⟨g,2,none⟩=some qa∧w'.cell? ⟨g+1,0,none⟩=some (.bool sb)∧w'.cell? ⟨g+1,1,none⟩=some pb∧w'.cell? ⟨g+1,2,none⟩=some qb) (first | exact Two.cells33 (hT.below (by first | assumption | exact balloc (by assumption) _ | exact bdrew _ | exact balloc (bdrew _) _) hT.lt) | exact Two.cells33 (hT.below (bset (bset (bset (by assumption) (by assumption) _) (by assumption) _) (by assumption) _) hT.lt))
   (first
    | (go_at_call 77;(with_reducible refine (hA _ ?_ ?_).mono ?_);exact hza.below (by first | assumption | exact balloc (by assumption) _ | exact bdrew _ | exact balloc (bdrew _) _);exact hzb.below (by first | assumption | exact balloc (by assumption) _ | exact bdrew _ | exact balloc (bdrew _) _);rintro x w3 ⟨v3,rfl,h3,b3⟩;(first | ((first | have hXX:=newX b3 W0 (by first | assumption | exact bdrew _) | have hXX:=newX (undrew b3) W0 (by first | exact Below.refl _ _ | assumption));obtain⟨hX,sX⟩:=hXX;try simp only[World.size_drew] at hX sX) | (have hX:=hX.below b3 hX.lt) | skip);have B3:=bstep (a:=W0) (by first | assumption | exact balloc (by assumption) _ | exact bdrew _ | exact balloc (bdrew _) _) b3)
    | (go_at_call 73;(with_reducible refine (hM _ ?_ ?_).mono ?_);exact hqa.below (by first | assumption | exact balloc (by assumption) _ | exact bdrew _ | exact balloc (bdrew _) _);exact hqb.below (by first | assumption | exact balloc (by assumption) _ | exact bdrew _ | exact balloc (bdrew _) _);rintro x w4 ⟨v4,rfl,h4,b4⟩;(first | ((first | have hXX:=newX b4 W0 (by first | assumption | exact bdrew _) | have hXX:=newX (undrew b4) W0 (by first | exact Below.refl _ _ | assumption));obtain⟨hX,sX⟩:=hXX;try simp only[World.size_drew] at hX sX) | (have hX:=hX.below b4 hX.lt) | skip);have B4:=bstep (a:=W0) (by first | assumption | exact balloc (by assumption) _ | exact bdrew _ | exact balloc (bdrew _) _) b4;have h3:=h3.below (by first | exact b4 | exact bstep (balloc (Below.refl _ _) _) b4))
    | (go_at_call 70;(with_reducible refine (hK _ _ _ ?_ ?_).mono ?_);exact h3.below (by first | exact Below.refl _ _ | exact balloc (Below.refl _ _) _);exact h4.below (by first | exact Below.refl _ _ | exact balloc (Below.refl _ _) _);rintro x w5 ⟨v5,rfl,⟨n5,d5,rfl,h5,k5⟩,b5⟩;(first | ((first | have hXX:=newX b5 W0 (by first | assumption | exact bdrew _) | have hXX:=newX (undrew b5) W0 (by first | exact Below.refl _ _ | assumption));obtain⟨hX,sX⟩:=hXX;try simp only[World.size_drew] at hX sX) | (have hX:=hX.below b5 hX.lt) | skip);have B5:=bstep (a:=W0) (by first | assumption | exact balloc (by assumption) _ | exact bdrew _ | exact balloc (bdrew _) _) b5;obtain⟨A1,L1,C1,rfl⟩:=h5.frm;obtain⟨A2,L2,C2,rfl⟩:=k5.frm;(try (have x0:=hX.cell 0;have x1:=hX.cell 1;have x2:=hX.cell 2;have y0:=hX.frozen 0;have y1:=hX.frozen 1;have y2:=hX.frozen 2))))
  all_goals (go_wp2_with fail;go_meet)
  all_goals
   have hRlt:=hR.lt
   have hR:=hR.b B5
   have hB0:=hB
   have hB:=hB.trans (B5.mono hB.size)
   have hsz:=hT.lt
   first
    | exact⟨_,_,_,_,_,_,_,rfl,Blk.new _ _ _,h5.below (balloc (Below.refl _ _) _),k5.below (balloc (Below.refl _ _) _),hR.alloc _,hB.alloc hB.size _⟩
    | (obtain ⟨p1, p2, p3⟩ := put3 hX (.bool (decide (r.num < 0))) (.slice A1 L1 C1) (.slice A2 L2 C2) (by simp [noU]) hB (Nat.le_trans hB0.size (by first | assumption | exact Nat.le_refl _))
       exact⟨_,_,_,_,_,_,_,rfl,p1,p2 _ _ h5,p2 _ _ k5,hR.farX (Nat.ne_of_lt (Nat.lt_of_lt_of_le hRlt (by first | assumption | exact Nat.le_refl _))) _ _ _,p3⟩)
 obtain⟨X,A1,A2,L1,L2,C1,C2,rfl,hX,h1,h2,hR,hB⟩:=hcut
 obtain⟨x0,x1,x2⟩:=hX.cells3
 obtain⟨p1,p2,p3⟩:=put3 hR (.bool (decide (r.num<0))) (.slice A1 L1 C1) (.slice A2 L2 C2) (by simp[noU]) hB (by omega)
 have q0:=hR.cell 0
 have z0:=hR.frozen 0
 have q1:=hR.cell 1
 have z1:=hR.frozen 1
 have q2:=hR.cell 2
 have z2:=hR.frozen 2
 have P:=Lib.hid (And.intro (⟨_,_,rfl,p2 _ _ h1,p2 _ _ h2⟩:IsQ _ (.agg #[.bool (decide (r.num<0)),.slice A1 L1 C1,.slice A2 L2 C2]) r) (And.intro p3 p1.cells3))
 clear p1 p2 p3
 go_wp2
 obtain⟨P1,P2,P3,P4,P5⟩:=P.out
 exact bodyPost_ret (v:= .agg #[.bool (decide (r.num<0)),.slice A1 L1 C1,.slice A2 L2 C2]) (by simp[results,Tryz.results25,go_sem,P3,P4,P5]) rfl ⟨_,rfl,P1,P2⟩
end Go.Proofs.YtdnjdglekifhpaaGreat
namespace Go.Proofs.YtdnjdglekifhpaaGreat
open Go.RowKit
attribute [local go_sem ↓] Go.wp_at_zero Go.wp_at_succ
theorem rqadd_any (va vb:Value) (a b:Rat) (w:World) (ha:IsQ w va a) (hb:IsQ w vb b) (sa:BQ a 10000) (sb:BQ b 10000):
 Calls Tryz.prog 23 #[va,vb] w fun e w'=>∃v',e= .returned v'∧IsQ w' v' (a+b)∧Below w.heap.size w w':=by
 have hda:0<a.den:=Rat.den_pos a
 have hdb:0<b.den:=Rat.den_pos b
 obtain⟨pa,qa,rfl,hpa,hqa⟩:=ha
 have hza:IsZ w (.agg #[.bool (decide (a.num<0)),pa]) a.num:=⟨_,rfl,hpa⟩
 obtain⟨pb,qb,rfl,hpb,hqb⟩:=hb
 have hzb:IsZ w (.agg #[.bool (decide (b.num<0)),pb]) b.num:=⟨_,rfl,hpb⟩
 have hO1:=fun w hp hq=>rqover_any (.agg #[.bool (decide (a.num<0)),pa]) qb a.num b.den w hp hq (sa.1.more (by omega)) (sb.2.more (by omega))
 have hO2:=fun w hp hq=>rqover_any (.agg #[.bool (decide (b.num<0)),pb]) qa b.num a.den w hp hq (sb.1.more (by omega)) (sa.2.more (by omega))
 have s1:Sz (a.num*(b.den:Int)).natAbs 20000:=sa.1.imul (b:=(b.den:Int)) (by simpa using sb.2)
 have s2:Sz (b.num*(a.den:Int)).natAbs 20000:=sb.1.imul (b:=(a.den:Int)) (by simpa using sa.2)
 have hA:=fun u v w hu hv=>rzadd_any u v (a.num*(b.den:Int)) (b.num*(a.den:Int)) w hu hv (s1.more (by omega)) (s2.more (by omega))
 have hM:=fun w hu hv=>rmul_any qa qb a.den b.den w hu hv (sa.2.fin (by omega)) (sb.2.fin (by omega))
 have hK:=fun u v w hu hv=>rqmake_any u v (a.num*(b.den:Int)+b.num*(a.den:Int)) (a.den*b.den) w hu hv ((s1.iadd s2).more (by omega)) ((sa.2.mul sb.2).more (by omega)) (Nat.mul_pos hda hdb)
 rw[←Rat.add_def'] at hK
 obtain⟨r,hr⟩:∃r,r=a+b:=⟨_,rfl⟩
 rw[←hr] at hK ⊢
 clear hr s1 s2
 generalize a.num*(b.den:Int)+b.num*(a.den:Int)=m3 at *
 generalize a.num*(b.den:Int)=m1 at *
 generalize b.num*(a.den:Int)=m2 at *
 generalize a.den*b.den=d at *
 generalize a.num=na at *
 generalize b.num=nb at *
 generalize a.den=da at *
 generalize b.den=db at *
 clear hpa hpb sa sb hda hdb
 generalize decide (na<0)=sa at *
 generalize decide (nb<0)=sb at *
 obtain⟨W0,hW,hT,hR,hB⟩:=box3 w 32 32 32 #[.bool sa,pa,qa] #[.bool sb,pb,qb] #[.bool false,.slice none 0 0,.slice none 0 0]
 obtain⟨g,hg⟩:∃g,g=w.heap.size:=⟨_,rfl⟩
 have hW':=Lib.hid (And.intro hW hg)
 rw[←hg] at hT hR
 clear hW hg
 have hza:=hza.below hB
 have hzb:=hzb.below hB
 have hqa:=hqa.below hB
 have hqb:=hqb.below hB
 have hgw:w.heap.size≤g:=by rw[hW'.out.2];omega
 go_enter Tryz.func23,Tryz.ntmps23
 go_upto_region 1 with fail
 rw[←hW'.out.1,←hW'.out.2]
 go_cut [5] (fun s wx=>∃(X:Nat) (A1 A2:Option Addr) (L1 L2 C1 C2:Nat),s= .pointer (some ⟨X,0,none⟩)∧Blk wx X 32 #[.bool (decide (r.num<0)),.slice A1 L1 C1,.slice A2 L2 C2]∧IsN wx (.slice A1 L1 C1) r.num.natAbs∧IsN wx (.slice A2 L2 C2) r.den∧Blk wx (g+1+1) 32 #[.bool false,.slice none 0 0,.slice none 0 0]∧Below w.heap.size w wx)
 case first=>
  go_region_held3 (fun w'=>w'.cell? ⟨g,0,none⟩=some (.bool sa)∧w'.cell? ⟨g,1,none⟩=some pa∧w'.cell? ⟨g,2,none⟩=some qa∧w'.cell? ⟨g+1,0,none⟩=some (.bool sb)∧w'.cell? ⟨g+1,1,none⟩=some pb∧w'.cell? ⟨g+1,2,none⟩=some qb) (first | exact Two.cells33 (hT.below (by first | assumption | exact balloc (by assumption) _ | exact bdrew _ | exact balloc (bdrew _) _) hT.lt) | exact Two.cells33 (hT.below (bset (bset (bset (by assumption) (by assumption) _) (by assumption) _) (by assumption) _) hT.lt))
   (first
    | (go_at_call 72;(with_reducible refine (hO1 _ ?_ ?_).mono ?_);exact hza.below (by first | assumption | exact balloc (by assumption) _ | exact bdrew _ | exact balloc (bdrew _) _);exact hqb.below (by first | assumption | exact balloc (by assumption) _ | exact bdrew _ | exact balloc (bdrew _) _);rintro x w1 ⟨v1,rfl,h1,b1⟩;(first | ((first | have hXX:=newX b1 W0 (by first | assumption | exact bdrew _) | have hXX:=newX (undrew b1) W0 (by first | exact Below.refl _ _ | assumption));obtain⟨hX,sX⟩:=hXX;try simp only[World.size_drew] at hX sX) | (have hX:=hX.below b1 hX.lt) | skip);have B1:=bstep (a:=W0) (by first | assumption | exact balloc (by assumption) _ | exact bdrew _ | exact balloc (bdrew _) _) b1)
    | (go_at_call 72;(with_reducible refine (hO2 _ ?_ ?_).mono ?_);exact hzb.below (by first | assumption | exact balloc (by assumption) _ | exact bdrew _ | exact balloc (bdrew _) _);exact hqa.below (by first | assumption | exact balloc (by assumption) _ | exact bdrew _ | exact balloc (bdrew _) _);rintro x w2 ⟨v2,rfl,h2,b2⟩;(first | ((first | have hXX:=newX b2 W0 (by first | assumption | exact bdrew _) | have hXX:=newX (undrew b2) W0 (by first | exact Below.refl _ _ | assumption));obtain⟨hX,sX⟩:=hXX;try simp only[World.size_drew] at hX sX) | (have hX:=hX.below b2 hX.lt) | skip);have B2:=bstep (a:=W0) (by first | assumption | exact balloc (by assumption) _ | exact bdrew _ | exact balloc (bdrew _) _) b2;have h1:=h1.below (by first | exact b2 | exact bstep (balloc (Below.refl _ _) _) b2))
    | (go_at_call 71;(with_reducible refine (hA _ _ _ ?_ ?_).mono ?_);exact h1.below (by first | exact Below.refl _ _ | exact balloc (Below.refl _ _) _);exact h2.below (by first | exact Below.refl _ _ | exact balloc (Below.refl _ _) _);rintro x w3 ⟨v3,rfl,h3,b3⟩;(first | ((first | have hXX:=newX b3 W0 (by first | assumption | exact bdrew _) | have hXX:=newX (undrew b3) W0 (by first | exact Below.refl _ _ | assumption));obtain⟨hX,sX⟩:=hXX;try simp only[World.size_drew] at hX sX) | (have hX:=hX.below b3 hX.lt) | skip);have B3:=bstep (a:=W0) (by first | assumption | exact balloc (by assumption) _ | exact bdrew _ | exact balloc (bdrew _) _) b3)
    | (go_at_call 73;(with_reducible refine (hM _ ?_ ?_).mono ?_);exact hqa.below (by first | assumption | exact balloc (by assumption) _ | exact bdrew _ | exact balloc (bdrew _) _);exact hqb.below (by first | assumption | exact balloc (by assumption) _ | exact bdrew _ | exact balloc (bdrew _) _);rintro x w4 ⟨v4,rfl,h4,b4⟩;(first | ((first | have hXX:=newX b4 W0 (by first | assumption | exact bdrew _) | have hXX:=newX (undrew b4) W0 (by first | exact Below.refl _ _ | assumption));obtain⟨hX,sX⟩:=hXX;try simp only[World.size_drew] at hX sX) | (have hX:=hX.below b4 hX.lt) | skip);have B4:=bstep (a:=W0) (by first | assumption | exact balloc (by assumption) _ | exact bdrew _ | exact balloc (bdrew _) _) b4;have h3:=h3.below (by first | exact b4 | exact bstep (balloc (Below.refl _ _) _) b4))
    | (go_at_call 70;(with_reducible refine (hK _ _ _ ?_ ?_).mono ?_);exact h3.below (by first | exact Below.refl _ _ | exact balloc (Below.refl _ _) _);exact h4.below (by first | exact Below.refl _ _ | exact balloc (Below.refl _ _) _);rintro x w5 ⟨v5,rfl,⟨n5,d5,rfl,h5,k5⟩,b5⟩;(first | ((first | have hXX:=newX b5 W0 (by first | assumption | exact bdrew _) | have hXX:=newX (undrew b5) W0 (by first | exact Below.refl _ _ | assumption));obtain⟨hX,sX⟩:=hXX;try simp only[World.size_drew] at hX sX) | (have hX:=hX.below b5 hX.lt) | skip);have B5:=bstep (a:=W0) (by first | assumption | exact balloc (by assumption) _ | exact bdrew _ | exact balloc (bdrew _) _) b5;obtain⟨A1,L1,C1,rfl⟩:=h5.frm;obtain⟨A2,L2,C2,rfl⟩:=k5.frm;(try (have x0:=hX.cell 0;have x1:=hX.cell 1;have x2:=hX.cell 2;have y0:=hX.frozen 0;have y1:=hX.frozen 1;have y2:=hX.frozen 2))))
  all_goals (go_wp2_with fail;go_meet)
  all_goals
   have hRlt:=hR.lt
   have hR:=hR.b B5
   have hB0:=hB
   have hB:=hB.trans (B5.mono hB.size)
   have hsz:=hT.lt
   first
    | exact⟨_,_,_,_,_,_,_,rfl,Blk.new _ _ _,h5.below (balloc (Below.refl _ _) _),k5.below (balloc (Below.refl _ _) _),hR.alloc _,hB.alloc hB.size _⟩
    | (obtain ⟨p1, p2, p3⟩ := put3 hX (.bool (decide (r.num < 0))) (.slice A1 L1 C1) (.slice A2 L2 C2) (by simp [noU]) hB (Nat.le_trans hB0.size (by first | assumption | exact Nat.le_refl _))
       exact⟨_,_,_,_,_,_,_,rfl,p1,p2 _ _ h5,p2 _ _ k5,hR.farX (Nat.ne_of_lt (Nat.lt_of_lt_of_le hRlt (by first | assumption | exact Nat.le_refl _))) _ _ _,p3⟩)
 obtain⟨X,A1,A2,L1,L2,C1,C2,rfl,hX,h1,h2,hR,hB⟩:=hcut
 obtain⟨x0,x1,x2⟩:=hX.cells3
 obtain⟨p1,p2,p3⟩:=put3 hR (.bool (decide (r.num<0))) (.slice A1 L1 C1) (.slice A2 L2 C2) (by simp[noU]) hB (by omega)
 have q0:=hR.cell 0
 have z0:=hR.frozen 0
 have q1:=hR.cell 1
 have z1:=hR.frozen 1
 have q2:=hR.cell 2
 have z2:=hR.frozen 2
 have P:=Lib.hid (And.intro (⟨_,_,rfl,p2 _ _ h1,p2 _ _ h2⟩:IsQ _ (.agg #[.bool (decide (r.num<0)),.slice A1 L1 C1,.slice A2 L2 C2]) r) (And.intro p3 p1.cells3))
 clear p1 p2 p3
 go_wp2
 obtain⟨P1,P2,P3,P4,P5⟩:=P.out
 exact bodyPost_ret (v:= .agg #[.bool (decide (r.num<0)),.slice A1 L1 C1,.slice A2 L2 C2]) (by simp[results,Tryz.results23,go_sem,P3,P4,P5]) rfl ⟨_,rfl,P1,P2⟩
end Go.Proofs.YtdnjdglekifhpaaGreat
namespace Go.Proofs.YtdnjdglekifhpaaGreat
open Go.RowKit
attribute [local go_sem ↓] Go.wp_at_zero Go.wp_at_succ
theorem rqsub_any (va vb:Value) (a b:Rat) (w:World) (ha:IsQ w va a) (hb:IsQ w vb b) (sa:BQ a 10000) (sb:BQ b 10000):
 Calls Tryz.prog 26 #[va,vb] w fun e w'=>∃v',e= .returned v'∧IsQ w' v' (a - b)∧Below w.heap.size w w':=by
 have hN:=fun w hb=>rqneg_any vb b w hb
 have hA:=fun u w ha hu=>rqadd_any va u a (-b) w ha hu sa sb.neg
 rw[←Rat.sub_eq_add_neg] at hA
 have ha0:=ha
 have hb0:=hb
 obtain⟨pa,qa,rfl,hpa,hqa⟩:=ha
 have hza:IsZ w (.agg #[.bool (decide (a.num<0)),pa]) a.num:=⟨_,rfl,hpa⟩
 obtain⟨pb,qb,rfl,hpb,hqb⟩:=hb
 have hzb:IsZ w (.agg #[.bool (decide (b.num<0)),pb]) b.num:=⟨_,rfl,hpb⟩
 obtain⟨r,hr⟩:∃r,r=a - b:=⟨_,rfl⟩
 rw[←hr] at hA ⊢
 clear hr hza hzb hpa hpb hqa hqb sa sb
 obtain⟨W0,hW,hT,hR,hB⟩:=box3 w 32 32 32 #[.bool (decide (a.num<0)),pa,qa] #[.bool (decide (b.num<0)),pb,qb] #[.bool false,.slice none 0 0,.slice none 0 0]
 obtain⟨g,hg⟩:∃g,g=w.heap.size:=⟨_,rfl⟩
 have hW':=Lib.hid (And.intro hW hg)
 rw[←hg] at hT hR
 clear hW hg
 have ha0:=ha0.below hB
 have hb0:=hb0.below hB
 go_enter Tryz.func26,Tryz.ntmps26
 go_wp2
 rw[←hW'.out.1,←hW'.out.2]
 go_region_held3 (fun w'=>w'.cell? ⟨g,0,none⟩=some (.bool (decide (a.num<0)))∧w'.cell? ⟨g,1,none⟩=some pa∧w'.cell? ⟨g,2,none⟩=some qa∧w'.cell? ⟨g+1,0,none⟩=some (.bool (decide (b.num<0)))∧w'.cell? ⟨g+1,1,none⟩=some pb∧w'.cell? ⟨g+1,2,none⟩=some qb) (first | exact Two.cells33 (hT.below (by first | assumption | exact balloc (by assumption) _ | exact bdrew _ | exact balloc (bdrew _) _) hT.lt) | exact Two.cells33 (Two.far3 (hT.below (by first | assumption | exact balloc (by assumption) _ | exact bdrew _ | exact balloc (bdrew _) _) hT.lt) _ _ _))
  (first
   | (go_at_call 78;(with_reducible refine (hN _ ?_).mono ?_);exact hb0.below (by first | assumption | exact balloc (by assumption) _ | exact bdrew _ | exact balloc (bdrew _) _);rintro x w1 ⟨v1,rfl,h1,b1⟩;have B1:=bstep (a:=W0) (by first | assumption | exact balloc (by assumption) _ | exact bdrew _ | exact balloc (bdrew _) _) b1)
   | (go_at_call 23;(with_reducible refine (hA _ _ ?_ ?_).mono ?_);exact ha0.below (by first | assumption | exact balloc (by assumption) _ | exact bdrew _ | exact balloc (bdrew _) _);exact h1.below (by first | exact Below.refl _ _ | exact balloc (Below.refl _ _) _);rintro x w2 ⟨v2,rfl,⟨n2,d2,rfl,h2,k2⟩,b2⟩;obtain⟨A1,L1,C1,rfl⟩:=h2.frm;obtain⟨A2,L2,C2,rfl⟩:=k2.frm;have B2:=bstep (a:=W0) (by first | assumption | exact balloc (by assumption) _ | exact bdrew _ | exact balloc (bdrew _) _) b2;have hR1:=hR.below B2 hR.lt;have q0:=hR1.cell 0;have q1:=hR1.cell 1;have q2:=hR1.cell 2;have z0:=hR1.frozen 0;have z1:=hR1.frozen 1;have z2:=hR1.frozen 2))
 obtain⟨p1,p2,p3⟩:=put3 hR1 (.bool (decide (r.num<0))) (.slice A1 L1 C1) (.slice A2 L2 C2) (by simp[noU]) (hB.trans (B2.mono hB.size)) (by rw[hW'.out.2];omega)
 have q0:=hR1.cell 0
 have z0:=hR1.frozen 0
 have q1:=hR1.cell 1
 have z1:=hR1.frozen 1
 have q2:=hR1.cell 2
 have z2:=hR1.frozen 2
 have P:=Lib.hid (And.intro (⟨_,_,rfl,p2 _ _ h2,p2 _ _ k2⟩:IsQ _ (.agg #[.bool (decide (r.num<0)),.slice A1 L1 C1,.slice A2 L2 C2]) r) (And.intro p3 p1.cells3))
 clear p1 p2 p3
 go_wp2
 obtain⟨P1,P2,P3,P4,P5⟩:=P.out
 exact bodyPost_ret (v:= .agg #[.bool (decide (r.num<0)),.slice A1 L1 C1,.slice A2 L2 C2]) (by simp[results,Tryz.results26,go_sem,P3,P4,P5]) rfl ⟨_,rfl,P1,P2⟩
end Go.Proofs.YtdnjdglekifhpaaGreat
namespace Go.Proofs.YtdnjdglekifhpaaGreat
open Go.RowKit
attribute [local go_sem ↓] Go.wp_at_zero Go.wp_at_succ
theorem back_any (v:Value) (z:Int) (k:Nat) (w:World) (h:IsZ w v z) (hk:k≤2000) (sz:Sz z.natAbs 10000):
 Calls Tryz.prog 75 #[v,.int .i64 k] w fun e w'=>∃v',e= .returned (.tuple #[v',.int .i64 0])∧IsQ w' v' (mkRat z (2^k))∧Below w.heap.size w w':=by
 have hO:=fun w=>rof_any 1 (by unfold W64;omega) w
 have hS:=fun v w h=>shl_any v 1 k (by omega) w h (Sz.one.more (by omega))
 have hp:0<2^k:=Nat.pow_pos (by omega)
 have sp:Sz (2^k) 10000:=(Sz.two_pow k).more (by omega)
 have hM:=fun u w hu h=>rqmake_any v u z (2^k) w h hu (sz.more (by omega)) (sp.more (by omega)) hp
 rw[Nat.one_mul] at hS
 have hz:=h
 obtain⟨nv,rfl,hn⟩:=h
 obtain⟨An,Ln,Cn,rfl⟩:=hn.frm
 generalize mkRat z (2^k)=r at *
 generalize 2^k=p at *
 generalize decide (z<0)=s at *
 clear hp sp sz hn
 obtain⟨W0,hW,hT,hB⟩:=box2 w 30 32 #[.bool s,.slice An Ln Cn] #[.bool false,.slice none 0 0,.slice none 0 0]
 obtain⟨g,hg⟩:∃g,g=w.heap.size:=⟨_,rfl⟩
 have hW':=Lib.hid (And.intro hW hg)
 rw[←hg] at hT
 have hgw:w.heap.size≤g:=by omega
 clear hW hg
 obtain⟨hA,hR⟩:=hT
 replace hz:=hz.b hB
 obtain⟨c1_hA_0,c1_hA_1⟩:=hA.cells2
 obtain⟨c1_hR_0,c1_hR_1,c1_hR_2⟩:=hR.cells3
 go_enter Tryz.func75,Tryz.ntmps75
 go_wp2_with fail
 rw[←hW'.out.1,←hW'.out.2]
 refine (hO _).mono ?_
 rintro e w1 ⟨v1,rfl,h1,b1⟩
 replace hz:=hz.b b1
 replace hA:=hA.b b1
 replace hR:=hR.b b1
 replace hB:=bOn hB b1
 clear c1_hA_0 c1_hA_1 c1_hR_0 c1_hR_1 c1_hR_2
 obtain⟨c2_hA_0,c2_hA_1⟩:=hA.cells2
 obtain⟨c2_hR_0,c2_hR_1,c2_hR_2⟩:=hR.cells3
 go_wp2_with fail
 refine (hS _ _ h1).mono ?_
 rintro e w2 ⟨v2,rfl,h2,b2⟩
 replace hz:=hz.b b2
 replace hA:=hA.b b2
 replace hR:=hR.b b2
 replace h1:=h1.b b2
 replace hB:=bOn hB b2
 clear c2_hA_0 c2_hA_1 c2_hR_0 c2_hR_1 c2_hR_2
 obtain⟨c3_hA_0,c3_hA_1⟩:=hA.cells2
 obtain⟨c3_hR_0,c3_hR_1,c3_hR_2⟩:=hR.cells3
 go_wp2_with fail
 refine (hM _ _ h2 hz).mono ?_
 rintro e w3 ⟨v3,rfl,⟨n3,d3,rfl,h3,k3⟩,b3⟩
 replace hz:=hz.b b3
 replace hA:=hA.b b3
 replace hR:=hR.b b3
 replace h1:=h1.b b3
 replace h2:=h2.b b3
 replace hB:=bOn hB b3
 clear c3_hA_0 c3_hA_1 c3_hR_0 c3_hR_1 c3_hR_2
 obtain⟨c4_hA_0,c4_hA_1⟩:=hA.cells2
 obtain⟨c4_hR_0,c4_hR_1,c4_hR_2⟩:=hR.cells3
 obtain⟨A2,L2,C2,rfl⟩:=h3.frm
 obtain⟨A3,L3,C3,rfl⟩:=k3.frm
 obtain⟨p1,p2,p3⟩:=put3 hR (.bool (decide (r.num<0))) (.slice A2 L2 C2) (.slice A3 L3 C3) (by simp[noU]) hB (by omega)
 have q0:=hR.cell 0
 have z0:=hR.frozen 0
 have q1:=hR.cell 1
 have z1:=hR.frozen 1
 have q2:=hR.cell 2
 have z2:=hR.frozen 2
 have P:=Lib.hid (And.intro (⟨_,_,rfl,p2 _ _ h3,p2 _ _ k3⟩:IsQ _ (.agg #[.bool (decide (r.num<0)),.slice A2 L2 C2,.slice A3 L3 C3]) r) (And.intro p3 p1.cells3))
 clear p1 p2 p3 hO hS hM
 go_wp2_with fail
 obtain⟨P1,P2,P3,P4,P5⟩:=P.out
 exact bodyPost_ret (v:= .tuple #[.agg #[.bool (decide (r.num<0)),.slice A2 L2 C2,.slice A3 L3 C3],.int .i64 0]) (by simp[results,Tryz.results75,go_sem,P3,P4,P5]) rfl ⟨_,rfl,P1,P2⟩
theorem rfrac_any (f:Int) (w:World):Calls Tryz.prog 74 #[.int .i64 f] w fun e w'=>e= .returned (.bool (decide (0≤f∧f≤40)))∧w=w':=by
 by_cases h0:0≤f
 ·by_cases h1:f≤40
  ·rw[decide_eq_true ⟨h0,h1⟩]
   go_enter Tryz.func74,Tryz.ntmps74
   go_wp2
   go_ret
   exact⟨rfl,rfl⟩
  ·rw[decide_eq_false (fun h=>h1 h.2)]
   go_enter Tryz.func74,Tryz.ntmps74
   go_wp2
   go_ret
   exact⟨rfl,rfl⟩
 ·rw[decide_eq_false (fun h=>h0 h.1)]
  go_enter Tryz.func74,Tryz.ntmps74
  go_wp2
  go_ret
  exact⟨rfl,rfl⟩
theorem rrat_any (a:Int) (k:Nat) (w:World) (hk:k≤40) (ha:In64 a):
 Calls Tryz.prog 24 #[.int .i64 a,.int .i64 k] w fun e w'=>∃v',e= .returned (.tuple #[v',.int .i64 0])∧IsQ w' v' (mkRat a (2^k))∧Below w.heap.size w w':=by
 have hF:=fun w=>rfrac_any k w
 rw[decide_eq_true (by omega)] at hF
 have hO:=fun w=>rzof_any a ha.1 ha.2 w
 have sz:Sz a.natAbs 1:=Sz.u64 (by have:=ha.1;have:=ha.2;unfold W64;omega)
 have hBk:=fun u w h=>back_any u a k w h (by omega) (sz.more (by omega))
 generalize mkRat a (2^k)=r at *
 clear sz ha
 obtain⟨W0,hW,hR,hB⟩:=box1 w 32 #[.bool false,.slice none 0 0,.slice none 0 0]
 obtain⟨g,hg⟩:∃g,g=w.heap.size:=⟨_,rfl⟩
 have hW':=Lib.hid (And.intro hW hg)
 rw[←hg] at hR
 have hgw:w.heap.size≤g:=by omega
 clear hW hg
 skip
 obtain⟨c1_hR_0,c1_hR_1,c1_hR_2⟩:=hR.cells3
 go_enter Tryz.func24,Tryz.ntmps24
 go_wp2_with fail
 rw[←hW'.out.1,←hW'.out.2]
 refine (hF _).mono ?_
 rintro e w1 ⟨rfl,rfl⟩
 go_wp2_with fail
 refine (hO _).mono ?_
 rintro e w2 ⟨v1,rfl,h1,b2⟩
 replace hR:=hR.b b2
 replace hB:=bOn hB b2
 clear c1_hR_0 c1_hR_1 c1_hR_2
 obtain⟨c2_hR_0,c2_hR_1,c2_hR_2⟩:=hR.cells3
 go_wp2_with fail
 refine (hBk _ _ h1).mono ?_
 rintro e w3 ⟨v2,rfl,⟨n2,d2,rfl,h2,k2⟩,b3⟩
 replace hR:=hR.b b3
 replace h1:=h1.b b3
 replace hB:=bOn hB b3
 clear c2_hR_0 c2_hR_1 c2_hR_2
 obtain⟨c3_hR_0,c3_hR_1,c3_hR_2⟩:=hR.cells3
 obtain⟨A2,L2,C2,rfl⟩:=h2.frm
 obtain⟨A3,L3,C3,rfl⟩:=k2.frm
 obtain⟨p1,p2,p3⟩:=put3 hR (.bool (decide (r.num<0))) (.slice A2 L2 C2) (.slice A3 L3 C3) (by simp[noU]) hB (by omega)
 have q0:=hR.cell 0
 have z0:=hR.frozen 0
 have q1:=hR.cell 1
 have z1:=hR.frozen 1
 have q2:=hR.cell 2
 have z2:=hR.frozen 2
 have P:=Lib.hid (And.intro (⟨_,_,rfl,p2 _ _ h2,p2 _ _ k2⟩:IsQ _ (.agg #[.bool (decide (r.num<0)),.slice A2 L2 C2,.slice A3 L3 C3]) r) (And.intro p3 p1.cells3))
 clear p1 p2 p3 hF hO hBk
 go_wp2_with fail
 obtain⟨P1,P2,P3,P4,P5⟩:=P.out
 exact bodyPost_ret (v:= .tuple #[.agg #[.bool (decide (r.num<0)),.slice A2 L2 C2,.slice A3 L3 C3],.int .i64 0]) (by simp[results,Tryz.results24,go_sem,P3,P4,P5]) rfl ⟨_,rfl,P1,P2⟩
theorem one_any (n:Nat) (hn:n≤40) (w:World):Calls Tryz.prog 167 #[.int .i64 n] w fun e w'=>e= .returned (.int .i64 ((2^n:Nat):Int))∧w=w':=by
 have HP:=Lib.hid (fun k (hk:k≤40)=>(⟨Nat.pow_pos (by omega),Nat.pow_le_pow_right (by omega) hk⟩:1≤2^k∧2^k≤1099511627776))
 go_enter Tryz.func167,Tryz.ntmps167
 go_wp2
 go_loop [3,4] (fun o i=>∃k:Nat,k≤n∧i= .int .i64 k∧o= .int .i64 ((2^k:Nat):Int)) (fun _ i=>n - (intOf i).toNat)
 case atStart=>exact⟨0,by omega,rfl,rfl⟩
 case round=>
  obtain⟨k,hk,rfl,rfl⟩:=hrel
  by_cases hlt:k<n
  ·have hb:=(HP.out (k+1) (by omega)).2
   obtain⟨x,hx⟩:∃x,x=2^k:=⟨_,rfl⟩
   have hx2:2^(k+1)=x*2:=by rw[hx,Nat.pow_succ]
   rw[hx2] at hb
   rw[←hx]
   have hb':((x:Nat):Int)≤1099511627776:=by omega
   have X:=Lib.hid hx2
   clear hx hx2 hb
   go_wp2
   go_round
   case rel=>exact⟨k+1,by omega,by go_num,by rw[X.out];go_num⟩
   case measure=>simp[intOf];omega
  ·obtain rfl:k=n:=by omega
   go_wp2
   go_ret
   exact⟨rfl,rfl⟩
theorem one17_any (n:Nat) (hn:n≤40) (w:World):Calls Tryz.prog 106 #[.int .i64 n] w fun e w'=>e= .returned (.int .i64 ((2^n:Nat):Int))∧w=w':=by
 have h:=fun w=>one_any n hn w
 generalize ((2^n:Nat):Int)=x at *
 go_enter Tryz.func106,Tryz.ntmps106
 go_wp2_with fail
 refine (h _).mono ?_
 rintro e w' ⟨rfl,rfl⟩
 go_wp2
 go_ret
 exact⟨rfl,rfl⟩
end Go.Proofs.YtdnjdglekifhpaaGreat
namespace Go.Proofs.YtdnjdglekifhpaaGreat
def I64 (a:Int):Prop:= -9223372036854775808≤a∧a≤9223372036854775807
def lowest (p:Nat→Bool):Nat→Nat
 | 0=>0
 | n+1=>if lowest p n<n then lowest p n else if p n then n else n+1
theorem lowest_ok (p:Nat→Bool):∀n,lowest p n≤n∧(∀i,i<lowest p n→p i=false)∧(lowest p n<n→p (lowest p n)=true)
 | 0=>⟨Nat.le_refl _,fun i hi=>by simp[lowest] at hi,fun h=>by simp[lowest] at h⟩
 | n + 1 => by
   obtain⟨h1,h2,h3⟩:=lowest_ok p n
   unfold lowest
   by_cases h:lowest p n<n
   ·rw[if_pos h];exact⟨by omega,h2,fun _=>h3 h⟩
   ·rw[if_neg h]
    have e:lowest p n=n:=by omega
    rw[e] at h2
    cases hp:p n
    ·rw[if_neg (by simp)]
     refine ⟨Nat.le_refl _,fun i hi=>?_,fun h=>by omega⟩
     rcases Nat.lt_or_ge i n with h' | h'
     ·exact h2 i h'
     ·obtain rfl:i=n:=by omega
      exact hp
    ·rw[if_pos rfl];exact⟨by omega,h2,fun _=>hp⟩
theorem lowest_eq {p:Nat→Bool} {n c:Nat} (hc:c≤n) (h1:∀i,i<c→p i=false) (h2:c<n→p c=true):lowest p n=c:=by
 obtain⟨k1,k2,k3⟩:=lowest_ok p n
 rcases Nat.lt_trichotomy (lowest p n) c with h | h | h
 ·have a:=h1 _ h
  have b:=k3 (by omega)
  rw[a] at b;cases b
 ·exact h
 ·have a:=k2 _ h
  have b:=h2 (by omega)
  rw[a] at b;cases b
theorem rise1:∀k<4,(List.range 255).all (fun j=>decide (iat (bk k) j<iat (bk k) (j+1)))=true:=by decide+kernel
theorem sides1:∀k<4,(List.range 256).all (fun j=>decide (-den (k:Nat)≤iat (bk k) j) && (decide (iat (bk k) j≤den (k:Nat)) && (sgn (k:Nat) || decide (0≤iat (bk k) j))))=true:=by decide+kernel
theorem lasts:∀k<4,iat (bk k) 255=den (k:Nat):=by decide+kernel
theorem dens:∀k<4,den (k:Nat)=2560000000∨den (k:Nat)=255:=by decide+kernel
theorem bk_lt {k:Nat} (hk:k<4) {j:Nat} (hj:j<255):iat (bk k) j<iat (bk k) (j+1):=by
 have:=List.all_eq_true.1 (rise1 k hk) j (by simpa using hj)
 simpa using this
theorem bk_mono {k:Nat} (hk:k<4) {i:Nat}:∀{j:Nat},i≤j→j≤255→iat (bk k) i≤iat (bk k) j
 | 0, h, _ => by obtain rfl : i = 0 := by omega
                 exact Int.le_refl _
 | j + 1, h, h' => by
   rcases Nat.lt_or_ge i (j+1) with hlt | hge
   ·have a:=bk_mono hk (i:=i) (j:=j) (by omega) (by omega)
    have b:=bk_lt hk (j:=j) (by omega)
    omega
   ·obtain rfl:i=j+1:=by omega
    exact Int.le_refl _
theorem bk_side {k:Nat} (hk:k<4) {j:Nat} (hj:j<256): -den (k:Nat)≤iat (bk k) j∧iat (bk k) j≤den (k:Nat)∧(sgn (k:Nat)=true∨0≤iat (bk k) j):=by
 have:=List.all_eq_true.1 (sides1 k hk) j (by simpa using hj)
 simpa using this
theorem iat_out {l:List Int} {j:Nat} (h:l.length≤j):iat l j=0:=by unfold iat;rw[List.getElem?_eq_none h];rfl
theorem bk_in {k:Nat} (hk:k<4) (j:Nat): -2560000000≤iat (bk k) j∧iat (bk k) j≤2560000000:=by
 rcases Nat.lt_or_ge j 256 with h | h
 ·obtain⟨h1,h2,_⟩:=bk_side hk h
  rcases dens k hk with e | e<;>rw[e] at h1 h2<;>omega
 ·rw[iat_out (by rw[bk_len k hk];exact h)];omega
def pAt (n:Nat) (num d:Int) (i:Nat):Bool:=decide (num*(2*den (n:Nat))≤(iat (bk n) i+iat (bk n) (i+1))*d)
def share (k num d:Int):Bool:=decide (0≤k∧k≤3) && (decide (1≤d) && (decide (num≤d) && (decide (-d≤num) && (decide (0≤num) || sgn k))))
def codeOf (k num d:Int):Nat:=if share k num d then lowest (pAt k.toNat num d) 255 else 0
def codeE (k num d:Int):Int:=if share k num d then 0 else 1
theorem codeOf_le (k num d:Int):codeOf k num d≤255:=by unfold codeOf;split;exact (lowest_ok _ _).1;omega
theorem pAt_mono {n:Nat} (hn:n<4) {num d:Int} (hd:1≤d) {i j:Nat} (h:i≤j) (hj:j<255) (hp:pAt n num d i=true):pAt n num d j=true:=by
 unfold pAt at *
 have h1:=bk_mono hn (i:=i) (j:=j) h (by omega)
 have h2:=bk_mono hn (i:=i+1) (j:=j+1) (by omega) (by omega)
 have:=Int.mul_le_mul_of_nonneg_right (show iat (bk n) i+iat (bk n) (i+1)≤iat (bk n) j+iat (bk n) (j+1) by omega) (show 0≤d by omega)
 simp only[decide_eq_true_eq] at *
 omega
theorem cmpI_le (x y:Int):decide (cmpI x y≤0)=decide (x≤y):=by
 unfold cmpI
 by_cases h:x<y
 ·rw[if_pos h];simp;omega
 ·rw[if_neg h]
  by_cases h2:y<x
  ·rw[Bool.eq_iff_iff];simp;(try split)<;>omega
  ·rw[Bool.eq_iff_iff];simp;(try split)<;>omega
end Go.Proofs.YtdnjdglekifhpaaGreat
namespace Go.Proofs.YtdnjdglekifhpaaGreat
theorem share_iff (k num d:Int):share k num d=true↔(0≤k∧k≤3)∧1≤d∧num≤d∧ -d≤num∧(0≤num∨sgn k=true):=by
 unfold share;simp only[Bool.and_eq_true,decide_eq_true_eq,Bool.or_eq_true]
theorem codeE_zero {k num d:Int} (h:codeE k num d=0):share k num d=true:=by
 unfold codeE at h
 cases e:share k num d
 ·rw[e] at h;simp at h
 ·rfl
theorem codeE_of {k num d:Int} (h:share k num d=true):codeE k num d=0:=if_pos h
theorem codeOf_of {k num d:Int} (h:share k num d=true):codeOf k num d=lowest (pAt k.toNat num d) 255:=if_pos h
theorem dens_pos {n:Nat} (hn:n<4):255≤den (n:Nat)∧den (n:Nat)≤2560000000:=by rcases dens n hn with e | e<;>omega
theorem pAt_false {n:Nat} {num d:Int} {i:Nat}:pAt n num d i=false↔(iat (bk n) i+iat (bk n) (i+1))*d<num*(2*den (n:Nat)):=by
 unfold pAt;rw[decide_eq_false_iff_not];omega
theorem pAt_true {n:Nat} {num d:Int} {i:Nat}:pAt n num d i=true↔num*(2*den (n:Nat))≤(iat (bk n) i+iat (bk n) (i+1))*d:=by
 unfold pAt;rw[decide_eq_true_iff]
theorem kind_nat {k:Int} (h:0≤k∧k≤3):∃n:Nat,k=n∧n<4:=⟨k.toNat,by omega,by omega⟩
theorem order_runs {k a b d:Int} (h1:codeE k a d=0) (h2:codeE k b d=0) (hab:a≤b):codeOf k a d≤codeOf k b d∧codeE k d d=0∧codeOf k d d=255:=by
 have s1:=codeE_zero h1
 have s2:=codeE_zero h2
 obtain⟨hk,hd,_⟩:=(share_iff k a d).1 s1
 have s3:share k d d=true:=(share_iff k d d).2 ⟨hk,hd,by omega,by omega,by omega⟩
 obtain⟨n,rfl,hn⟩:=kind_nat hk
 refine ⟨?_,codeE_of s3,?_⟩
 ·rw[codeOf_of s1,codeOf_of s2,Int.toNat_natCast]
  obtain⟨k1,k2,k3⟩:=lowest_ok (pAt n a d) 255
  obtain⟨m1,m2,m3⟩:=lowest_ok (pAt n b d) 255
  rcases Nat.lt_or_ge (lowest (pAt n b d) 255) (lowest (pAt n a d) 255) with h | h
  ·have x:=pAt_true.1 (m3 (by omega))
   have y:=pAt_false.1 (k2 _ h)
   have z:=Int.mul_le_mul_of_nonneg_right hab (show (0:Int)≤2*den (n:Nat) by have:=dens_pos hn;omega)
   omega
  ·exact h
 ·rw[codeOf_of s3,Int.toNat_natCast]
  refine lowest_eq (Nat.le_refl _) (fun i hi=>pAt_false.2 ?_) (fun h=>by omega)
  have a1:=bk_lt hn hi
  have a2:=(bk_side hn (j:=i+1) (by omega)).2.1
  have hs:iat (bk n) i+iat (bk n) (i+1)≤2*den (n:Nat) - 1:=by omega
  have:=Int.mul_le_mul_of_nonneg_right hs (show 0≤d by omega)
  rw[Int.sub_mul,Int.one_mul,Int.mul_comm (2*den (n:Nat)) d] at this
  omega
theorem mul_le_iff {a b c:Int} (h:1≤c):a*c≤b*c↔a≤b:=Int.mul_le_mul_right (by omega)
theorem scaled_runs (k num d:Int) {K:Int} (hK:1≤K):codeE k (num*K) (d*K)=codeE k num d∧codeOf k (num*K) (d*K)=codeOf k num d:=by
 have hd:1≤d*K↔1≤d:=by
  constructor
  ·intro h
   rcases Int.lt_or_le d 1 with h' | h'
   ·have:=Int.mul_le_mul_of_nonneg_right (show d≤0 by omega) (show 0≤K by omega)
    rw[Int.zero_mul] at this;omega
   ·exact h'
  ·intro h
   have:=Int.mul_le_mul h hK (by omega) (by omega)
   omega
 have h0:0≤num*K↔0≤num:=by have:=mul_le_iff (a:=0) (b:=num) hK;rwa [Int.zero_mul] at this
 have hs:share k (num*K) (d*K)=share k num d:=by
  rw[Bool.eq_iff_iff,share_iff,share_iff,hd,mul_le_iff hK,h0,←Int.neg_mul,mul_le_iff hK]
 have hp:pAt k.toNat (num*K) (d*K)=pAt k.toNat num d:=by
  funext i
  unfold pAt
  rw[show num*K*(2*den (k.toNat:Nat))=num*(2*den (k.toNat:Nat))*K from by rw[Int.mul_assoc,Int.mul_comm K,←Int.mul_assoc],show (iat (bk k.toNat) i+iat (bk k.toNat) (i+1))*(d*K)=(iat (bk k.toNat) i+iat (bk k.toNat) (i+1))*d*K from (Int.mul_assoc _ _ _).symm]
  exact decide_eq_decide.2 (mul_le_iff hK)
 unfold codeE codeOf
 rw[hs,hp]
 exact⟨rfl,rfl⟩
end Go.Proofs.YtdnjdglekifhpaaGreat
namespace Go.Proofs.YtdnjdglekifhpaaGreat
def dist (n:Nat) (num d:Int) (o:Nat):Nat:=(num*den (n:Nat) - iat (bk n) o*d).natAbs
theorem gaps1:∀k<4,(List.range 255).all (fun j=>decide (iat (bk k) (j+1) - iat (bk k) j≤gz (k:Nat)))=true:=by decide+kernel
theorem low1:∀k<4,(if sgn (k:Nat) then decide (2*(iat (bk k) 0+den (k:Nat))≤gz (k:Nat)) else decide (2*iat (bk k) 0≤gz (k:Nat)))=true:=by decide+kernel
theorem gaps_at {k:Nat} (hk:k<4) {j:Nat} (hj:j<255):iat (bk k) (j+1) - iat (bk k) j≤gz (k:Nat):=by
 have:=List.all_eq_true.1 (gaps1 k hk) j (by simpa using hj)
 simpa using this
theorem code_spec {n:Nat} (hn:n<4) {num d:Int} (hs:share n num d=true):
 (∀i,i<codeOf n num d→(iat (bk n) i+iat (bk n) (i+1))*d<2*(num*den (n:Nat)))∧(∀i,codeOf n num d≤i→i<255→2*(num*den (n:Nat))≤(iat (bk n) i+iat (bk n) (i+1))*d):=by
 obtain⟨_,hd,_⟩:=(share_iff _ _ _).1 hs
 rw[codeOf_of hs,Int.toNat_natCast]
 obtain⟨h1,h2,h3⟩:=lowest_ok (pAt n num d) 255
 have e:num*(2*den (n:Nat))=2*(num*den (n:Nat)):=by rw[Int.mul_left_comm]
 refine ⟨fun i hi=>by have:=pAt_false.1 (h2 i hi);rwa [e] at this,fun i h h'=>?_⟩
 have:=pAt_true.1 (pAt_mono hn hd h h' (h3 (by omega)))
 rwa [e] at this
theorem near_gap {n:Nat} (hn:n<4) {num d:Int} (hs:share n num d=true):(2*dist n num d (codeOf n num d):Nat)≤gz (n:Nat)*d:=by
 obtain⟨lo,hi⟩:=code_spec hn hs
 obtain⟨_,hd,hnd,hdn,hsg⟩:=(share_iff _ _ _).1 hs
 have hc:=codeOf_le n num d
 generalize codeOf n num d=c at *
 obtain⟨d0,d1⟩:=dens_pos hn
 have g0:=(gz_bound n hn).1
 have u1:=Int.mul_le_mul_of_nonneg_right hnd (show (0:Int)≤den (n:Nat) by omega)
 have gd:=Int.mul_nonneg g0 (show 0≤d by omega)
 have hlow:=low1 n hn
 have hsd:=(bk_side hn (j:=0) (by omega)).2.2
 unfold dist
 have l1:num*den (n:Nat) - iat (bk n) c*d≤0∨2*(num*den (n:Nat) - iat (bk n) c*d)≤gz (n:Nat)*d:=by
  rcases Nat.lt_or_ge c 255 with h | h
  ·have a:=hi c (Nat.le_refl _) h
   have b:=Int.mul_le_mul_of_nonneg_right (gaps_at hn h) (show 0≤d by omega)
   rw[Int.sub_mul] at b
   rw[Int.add_mul] at a
   right;omega
  ·obtain rfl:c=255:=by omega
   left;rw[lasts n hn,Int.mul_comm (den (n:Nat)) d];omega
 have l2:iat (bk n) c*d - num*den (n:Nat)≤0∨2*(iat (bk n) c*d - num*den (n:Nat))≤gz (n:Nat)*d:=by
  rcases Nat.eq_zero_or_pos c with rfl | h
  ·right
   rcases hsg with hz | hz
   ·have hp:=Int.mul_nonneg hz (show (0:Int)≤den (n:Nat) by omega)
    have b:2*iat (bk n) 0≤gz (n:Nat):=by
     cases h:sgn (n:Nat)
     ·rw[h] at hlow;simpa using hlow
     ·rw[h] at hlow
      have :2*(iat (bk n) 0+den (n:Nat))≤gz (n:Nat):=by simpa using hlow
      omega
    have:=Int.mul_le_mul_of_nonneg_right b (show 0≤d by omega)
    rw[Int.mul_assoc] at this
    omega
   ·rw[hz] at hlow
    have b:2*(iat (bk n) 0+den (n:Nat))≤gz (n:Nat):=by simpa using hlow
    have e:=Int.mul_le_mul_of_nonneg_right hdn (show (0:Int)≤den (n:Nat) by omega)
    rw[Int.neg_mul] at e
    have:=Int.mul_le_mul_of_nonneg_right b (show 0≤d by omega)
    rw[Int.mul_assoc,Int.add_mul,Int.mul_comm (den (n:Nat)) d] at this
    omega
  ·have a:=lo (c - 1) (by omega)
   have b:=Int.mul_le_mul_of_nonneg_right (gaps_at hn (j:=c - 1) (by omega)) (show 0≤d by omega)
   rw[Nat.sub_add_cancel (by omega),Int.sub_mul] at b
   rw[Nat.sub_add_cancel (by omega),Int.add_mul] at a
   right;omega
 omega
end Go.Proofs.YtdnjdglekifhpaaGreat
namespace Go.Proofs.YtdnjdglekifhpaaGreat
open Go.RowKit
theorem ys_snoc (l:List Nat) (x:Nat):ys (l++[x])=ys l++[.int .u8 (x:Int)]:=by simp[ys]
theorem yat_snoc_take (l:List Nat) (k:Nat) (h:k<l.length):l.take (k+1)=l.take k++[yat l k]:=by
 rw[List.take_succ_eq_append_getElem h];simp[yat,h]
end Go.Proofs.YtdnjdglekifhpaaGreat

namespace Go.Proofs.YtdnjdglekifhpaaGreat
def great:List Int→Int
 | []=>0
 | x::r=>max (max (great r) x) (-x)
theorem great_snoc (l:List Int) (x:Int):great (l++[x])=max (max (great l) x) (-x):=by
 induction l with
 | nil=>rfl
 | cons y r ih=>simp only[List.cons_append,great,ih];omega
theorem great_nonneg (l:List Int):0≤great l:=by
 induction l with
 | nil=>simp[great]
 | cons y r ih=>simp only[great];omega
theorem great_mem {l:List Int} {x:Int} (h:x∈l):x≤great l∧ -x≤great l:=by
 induction l with
 | nil=>cases h
 | cons y r ih =>
   simp only[great]
   rcases List.mem_cons.1 h with rfl | h
   ·omega
   ·have:=ih h;omega
theorem great_or (l:List Int):great l=0∨∃x∈l,great l=x∨great l= -x:=by
 induction l with
 | nil=>left;rfl
 | cons y r ih =>
   by_cases h1:great (y::r)=y
   ·exact .inr ⟨y,List.mem_cons_self,.inl h1⟩
   by_cases h2:great (y::r)= -y
   ·exact .inr ⟨y,List.mem_cons_self,.inr h2⟩
   have e:great (y::r)=great r:=by simp only[great] at *;omega
   rw[e]
   rcases ih with h | ⟨x,hx,h⟩
   ·exact .inl h
   ·exact .inr ⟨x,List.mem_cons_of_mem _ hx,h⟩
theorem great_le {l:List Int} {s:Int} (hs:0≤s) (h:∀x∈l,x≤s∧ -x≤s):great l≤s:=by
 induction l with
 | nil=>simpa [great] using hs
 | cons y r ih =>
   have h1:=h y List.mem_cons_self
   have h2:=ih fun x hx=>h x (List.mem_cons_of_mem _ hx)
   simp only[great];omega
theorem great_in {l:List Int} (h:∀x∈l,I64 x) (hm:∀x∈l,x≠ -9223372036854775808):great l≤9223372036854775807:=
 great_le (by omega) fun x hx=>by have:=h x hx;have:=hm x hx;unfold I64 at *;omega
theorem nearZ_err (A:Int) (D:Nat) (hD:0<D):2*((D:Int)*nearZ A D)≤2*A+D∧2*A≤2*((D:Int)*nearZ A D)+D:=by
 have h1:=Int.mul_ediv_add_emod A D
 have h2:=Int.emod_nonneg A (show (D:Int)≠0 by omega)
 have h3:=Int.emod_lt_of_pos A (show (0:Int)<D by omega)
 unfold nearZ
 split
 ·rw[Int.mul_add,Int.mul_one];generalize (D:Int)*(A / D)=X at *;omega
 ·generalize (D:Int)*(A / D)=X at *;omega
theorem nearZ_mono {A B:Int} {D:Nat} (hD:0<D) (h:A≤B):nearZ A D≤nearZ B D:=by
 rcases Int.lt_or_le (nearZ B D) (nearZ A D) with h' | h'
 ·rcases Int.lt_or_eq_of_le h with h | h
  ·have e1:=(nearZ_err A D hD).1
   have e2:=(nearZ_err B D hD).2
   have e3:=Int.mul_le_mul_of_nonneg_left (show nearZ B D+1≤nearZ A D by omega) (show (0:Int)≤D by omega)
   rw[Int.mul_add,Int.mul_one] at e3
   omega
  ·rw[h] at h';omega
 ·exact h'
theorem nearZ_whole (s:Int) (D:Nat) (hD:0<D):nearZ (s*D) D=s:=by
 obtain⟨e1,e2⟩:=nearZ_err (s*D) D hD
 rw[Int.mul_comm s D] at e1 e2 ⊢
 generalize nearZ ((D:Int)*s) D=z at *
 rcases Int.lt_trichotomy z s with h | h | h
 ·have:=Int.mul_le_mul_of_nonneg_left (show z+1≤s by omega) (show (0:Int)≤D by omega)
  rw[Int.mul_add,Int.mul_one] at this;omega
 ·exact h
 ·have:=Int.mul_le_mul_of_nonneg_left (show s+1≤z by omega) (show (0:Int)≤D by omega)
  rw[Int.mul_add,Int.mul_one] at this;omega
def loadZ (n:Nat) (s:Int) (c:Nat):Int:=nearZ (s*iat (bk n) c) (den (n:Nat)).toNat
theorem den_nat {n:Nat} (hn:n<4):0<(den (n:Nat)).toNat∧(((den (n:Nat)).toNat:Nat):Int)=den (n:Nat):=by have:=dens_pos hn;omega
theorem loadZ_le {n:Nat} (hn:n<4) {s:Int} (hs:0≤s) {c:Nat} (hc:c<256):loadZ n s c≤s∧ -s≤loadZ n s c∧(sgn (n:Nat)=false→0≤loadZ n s c):=by
 obtain⟨d0,d1⟩:=den_nat hn
 obtain⟨b1,b2,b3⟩:=bk_side hn hc
 unfold loadZ
 rw[←d1] at b1 b2
 generalize (den (n:Nat)).toNat=D at *
 generalize iat (bk n) c=L at *
 refine ⟨?_,?_,fun h=>?_⟩
 ·have:=nearZ_mono d0 (Int.mul_le_mul_of_nonneg_left b2 hs)
  rwa [nearZ_whole s D d0] at this
 ·have h1:=Int.mul_le_mul_of_nonneg_left b1 hs
  rw[Int.mul_neg,←Int.neg_mul] at h1
  have:=nearZ_mono d0 h1
  rwa [nearZ_whole (-s) D d0] at this
 ·have h1:=nearZ_mono d0 (Int.mul_nonneg hs (show 0≤L by rw[h] at b3;simpa using b3))
  have:=nearZ_whole 0 D d0
  rw[Int.zero_mul] at this
  rwa [this] at h1
theorem loadZ_top {n:Nat} (hn:n<4) (s:Int):loadZ n s 255=s:=by
 obtain⟨d0,d1⟩:=den_nat hn
 unfold loadZ
 rw[lasts n hn,←d1,Int.toNat_natCast]
 exact nearZ_whole s _ d0
theorem loadZ_zero {n:Nat} (hn:n<4) (c:Nat):loadZ n 0 c=0:=by
 obtain⟨d0,_⟩:=den_nat hn
 unfold loadZ
 have:=nearZ_whole 0 _ d0
 rw[Int.zero_mul] at this ⊢
 exact this
def oddB (sg:Bool) (x:Int):Bool:=decide (x= -9223372036854775808) || (decide (x<0) && !sg)
def blkR (k s:Int) (cs:List Nat) (wd:List Int):Bool:=
 decide (cs.length+wd.length≤4096) && (if k=4 then decide (s=0) && (decide (cs=[]) && !wd.contains (-9223372036854775808))
  else decide (0≤k∧k≤3) && (decide (wd=[]) && (decide (0≤s) && (if s=0 then cs.all (fun c=>decide (c=codeOf k 0 1)) else cs.contains (codeOf k 1 1) || (decide (codeE k (-1) 1=0) && cs.contains (codeOf k (-1) 1))))))
def packC (k:Int) (l:List Int):List Nat:=l.map fun x=>codeOf k x (max (great l) 1)
def loadC (n:Nat) (s:Int) (cs:List Nat):List Int:=cs.map (loadZ n s)
theorem share_packed {n:Nat} (hn:n<4) {l:List Int} (ho:l.any (oddB (sgn (n:Nat)))=false) {x:Int} (hx:x∈l):share n x (max (great l) 1)=true:=by
 have h1:=great_mem hx
 have h2:oddB (sgn (n:Nat)) x=false:=by
  cases h:oddB (sgn (n:Nat)) x
  ·rfl
  ·have :l.any (oddB (sgn (n:Nat)))=true:=List.any_eq_true.2 ⟨x,hx,h⟩
   rw[ho] at this;cases this
 rw[share_iff]
 unfold oddB at h2
 refine ⟨by omega,by omega,by omega,by omega,?_⟩
 cases hs:sgn (n:Nat)
 ·rw[hs] at h2;left;simp at h2;omega
 ·exact .inr rfl
theorem share_one {n:Nat} (hn:n<4):share n 1 1=true:=(share_iff _ _ _).2 ⟨by omega,by omega,by omega,by omega,by omega⟩
theorem codeOf_one {n:Nat} (hn:n<4):codeOf n 1 1=255:=(order_runs (codeE_of (share_one hn)) (codeE_of (share_one hn)) (Int.le_refl 1)).2.2
theorem codeE_low {n:Nat} (hn:n<4) (hs:sgn (n:Nat)=true):codeE n (-1) 1=0:=codeE_of ((share_iff _ _ _).2 ⟨by omega,by omega,by omega,by omega,.inr hs⟩)
theorem mem_code {l:List Int} {k:Int} {x:Int} (hx:x∈l):codeOf k x (max (great l) 1)∈packC k l:=List.mem_map.2 ⟨x,hx,rfl⟩
theorem packC_len (k:Int) (l:List Int):(packC k l).length=l.length:=by unfold packC;rw[List.length_map]
theorem packC_lt {k:Int} {l:List Int}:∀c∈packC k l,c<256:=by
 intro c hc;obtain⟨x,_,rfl⟩:=List.mem_map.1 hc;have:=codeOf_le k x (max (great l) 1);omega
theorem scale_one {k s:Int} (hs:1≤s):codeOf k s s=codeOf k 1 1∧codeOf k (-s) s=codeOf k (-1) 1:=by
 have h1:=(scaled_runs k 1 1 hs).2
 have h2:=(scaled_runs k (-1) 1 hs).2
 rw[Int.one_mul] at h1
 rw[Int.one_mul,Int.neg_mul,Int.one_mul] at h2
 exact⟨h1,h2⟩
theorem packed_end {n:Nat} (hn:n<4) {l:List Int} (ho:l.any (oddB (sgn (n:Nat)))=false) (h0:great l≠0):
 codeOf n 1 1∈packC n l∨(sgn (n:Nat)=true∧codeOf n (-1) 1∈packC n l):=by
 have hg:=great_nonneg l
 have hm:max (great l) 1=great l:=by omega
 rcases great_or l with h | ⟨x,hx,h | h⟩
 ·exact absurd h h0
 ·left
  have:=mem_code (k:=(n:Int)) hx
  rw[hm,←h,(scale_one (by omega)).1] at this
  exact this
 ·right
  have h2:=(share_iff _ _ _).1 (share_packed hn ho hx)
  refine ⟨h2.2.2.2.2.resolve_left (by omega),?_⟩
  have:=mem_code (k:=(n:Int)) hx
  rw[hm,show x= -great l by omega] at this
  rw[(scale_one (by omega)).2] at this
  exact this
theorem packed_right {n:Nat} (hn:n<4) {l:List Int} (hl:l.length≤4096) (ho:l.any (oddB (sgn (n:Nat)))=false):blkR n (great l) (packC n l) []=true:=by
 have hg:=great_nonneg l
 unfold blkR
 rw[packC_len,if_neg (by omega)]
 simp only[List.length_nil,Nat.add_zero,Bool.and_eq_true,decide_eq_true_eq]
 refine ⟨hl,by omega,trivial,hg,?_⟩
 by_cases h0:great l=0
 ·rw[if_pos h0,List.all_eq_true]
  intro c hc
  obtain⟨x,hx,rfl⟩:=List.mem_map.1 hc
  have:=great_mem hx
  rw[show x=0 by omega,h0]
  exact decide_eq_true rfl
 ·rw[if_neg h0]
  rcases packed_end hn ho h0 with h | ⟨hs,h⟩
  ·simp[h]
  ·simp[h,codeE_low hn hs]
theorem wide_right {l:List Int} (hl:l.length≤4096) (ho:l.any (oddB true)=false):blkR 4 0 [] l=true:=by
 unfold blkR
 rw[if_pos rfl]
 simp only[List.length_nil,Nat.zero_add,Bool.and_eq_true,decide_eq_true_eq,Bool.not_eq_true']
 refine ⟨hl,trivial,trivial,?_⟩
 cases h:l.contains (-9223372036854775808)
 ·rfl
 ·have h':=List.contains_iff_mem.1 h
  have :l.any (oddB true)=true:=List.any_eq_true.2 ⟨_,h',by simp[oddB]⟩
  rw[ho] at this;cases this
theorem load_mem {n:Nat} (hn:n<4) {s:Int} (hs:0≤s) {cs:List Nat} (hc:∀c∈cs,c<256) {x:Int} (hx:x∈loadC n s cs):x≤s∧ -x≤s∧(sgn (n:Nat)=false→0≤x):=by
 obtain⟨c,hc',rfl⟩:=List.mem_map.1 hx
 obtain⟨h1,h2,h3⟩:=loadZ_le hn hs (hc c hc')
 exact⟨h1,by omega,h3⟩
theorem load_great {n:Nat} (hn:n<4) {l:List Int} (ho:l.any (oddB (sgn (n:Nat)))=false):
 great (loadC n (great l) (packC n l))≤great l∧(sgn (n:Nat)=false→great (loadC n (great l) (packC n l))=great l):=by
 have hg:=great_nonneg l
 have h1:great (loadC n (great l) (packC n l))≤great l:=great_le hg fun x hx=>by
  have:=load_mem hn hg packC_lt hx;omega
 refine ⟨h1,fun hs=>?_⟩
 by_cases h0:great l=0
 ·have:=great_nonneg (loadC n (great l) (packC n l));omega
 ·rcases packed_end hn ho h0 with h | ⟨hs',_⟩
  ·rw[codeOf_one hn] at h
   have h2:loadZ n (great l) 255∈loadC n (great l) (packC n l):=List.mem_map.2 ⟨_,h,rfl⟩
   have:=great_mem h2
   rw[loadZ_top hn] at this
   omega
  ·rw[hs] at hs';cases hs'
theorem near_loaded {n:Nat} (hn:n<4) {l:List Int} (ho:l.any (oddB (sgn (n:Nat)))=false) {x:Int} (hx:x∈l):
 (((x - loadZ n (great l) (codeOf n x (max (great l) 1))).natAbs:Nat):Int)*(2*den (n:Nat))≤great l*gz (n:Nat)+den (n:Nat):=by
 have hg:=great_nonneg l
 have hs:=share_packed hn ho hx
 obtain⟨d0,d1⟩:=den_nat hn
 have g0:=(gz_bound n hn).1
 have hm:=great_mem hx
 by_cases h0:great l=0
 ·rw[h0,loadZ_zero hn,show x=0 by omega]
  simp;omega
 ·have e:max (great l) 1=great l:=by omega
  rw[e] at hs ⊢
  have h1:=near_gap hn hs
  unfold dist at h1
  have hc:=codeOf_le n x (great l)
  generalize codeOf n x (great l)=c at *
  obtain⟨h2,h3⟩:=nearZ_err (great l*iat (bk n) c) _ d0
  rw[d1] at h2 h3
  change _≤_ at h2
  unfold loadZ
  generalize nearZ (great l*iat (bk n) c) (den (n:Nat)).toNat=m at *
  rw[Int.mul_comm (great l) (gz (n:Nat))]
  rw[Int.mul_comm (great l) (iat (bk n) c)] at h2 h3
  generalize gz (n:Nat)*great l=G at *
  generalize iat (bk n) c*great l=P at *
  have e1:(((x - m).natAbs:Nat):Int)*(2*den (n:Nat))=2*(((x*den (n:Nat) - den (n:Nat)*m).natAbs:Nat):Int):=by
   rw[Int.mul_comm (den (n:Nat)) m,←Int.sub_mul,Int.natAbs_mul,Int.natCast_mul,show (((den (n:Nat)).natAbs:Nat):Int)=den (n:Nat) by omega,Int.mul_left_comm]
  rw[e1]
  generalize den (n:Nat)*m=M at *
  generalize x*den (n:Nat)=X at *
  omega
open Go.RowKit
attribute [local go_sem ↓] Go.wp_at_zero Go.wp_at_succ
theorem Blk.cells1 {w:World} {g:Nat} {t:TypeId} {a:Value} (h:Blk w g t #[a]):w.cell? ⟨g,0,none⟩=some a:=h.cell 0
theorem cellB {w w':World} {a:Addr} {v:Value} (h:Below w.heap.size w w') (hc:w.cell? a=some v):w'.cell? a=some v:=(h.cell (World.block_lt_of_cell? w _ hc)).trans hc
theorem near1_any (l:List Int) (hl:l.length=256) (hin:∀j, -2560000000≤iat l j∧iat l j≤2560000000) (d x:Int) (hd0: -9223372036854775808≤d) (hd1:d≤9223372036854775807)
 (b8 b10 b11:Nat) (A:Option Addr) (C:Nat) (Ad Ax:Option Addr) (Ld Lx Cd Cx:Nat) (i:Nat) (hi:i<255) (w:World) (hb:b8<w.heap.size∧b10<w.heap.size∧b11<w.heap.size)
 (h8:Blk w b8 62 #[.slice A 256 C]) (hL:IsI w (.slice A 256 C) l)
 (h11:Blk w b11 30 #[.bool (decide (d<0)),.slice Ad Ld Cd]) (hD:IsN w (.slice Ad Ld Cd) d.natAbs)
 (h10:Blk w b10 30 #[.bool (decide (x<0)),.slice Ax Lx Cx]) (hX:IsN w (.slice Ax Lx Cx) x.natAbs):
 Calls Tryz.prog 209 #[.int .i64 i,.pointer (some ⟨b8,0,none⟩),.pointer (some ⟨b11,0,none⟩),.pointer (some ⟨b10,0,none⟩)] w fun e w'=>e= .returned (.bool (decide (cmpI x ((iat l i+iat l (i+1))*d)≤0)))∧Below w.heap.size w w':=by
 obtain⟨ad,rfl,ca⟩:=hL.at_ (k:=i) (by omega)
 obtain⟨_,e,cb⟩:=hL.at_ (k:=i+1) (by omega)
 cases e
 rw[Addr.add,if_neg (by omega)] at cb
 obtain⟨i1,i2⟩:=hin i
 obtain⟨i3,i4⟩:=hin (i+1)
 generalize iat l i=va at *
 generalize iat l (i+1)=vb at *
 have hO:=fun w=>pzof_any (va+vb) (by omega) (by omega) w
 have sa:Sz (va+vb).natAbs 400000:=(Sz.u64 (by unfold W64;omega)).more (by omega)
 have sd:Sz d.natAbs 400000:=(Sz.u64 (by unfold W64;omega)).more (by omega)
 have hM:=fun u v w h1 h2=>pzmul_any u v (va+vb) d w h1 h2 sa sd
 have hDZ:IsZ w (.agg #[.bool (decide (d<0)),.slice Ad Ld Cd]) d:=⟨_,rfl,hD⟩
 have hXZ:IsZ w (.agg #[.bool (decide (x<0)),.slice Ax Lx Cx]) x:=⟨_,rfl,hX⟩
 have hC:=fun u v w h1 h2=>pzcmp_any u v x ((va+vb)*d) w h1 h2
 have hw2:IntKind.i64.wrap ((i:Int)+1)=(i:Int)+1:=by rw[IntKind.wrap_i64];omega
 have hz:cmpI x ((va+vb)*d)= -1∨cmpI x ((va+vb)*d)=0∨cmpI x ((va+vb)*d)=1:=by unfold cmpI;split<;>(try split)<;>simp
 generalize hs:va+vb=s at *
 have hw:IntKind.i64.wrap (va+vb)=s:=by rw[IntKind.wrap_i64];omega
 generalize hm:s*d=m at *
 generalize decide (d<0)=sgd at *
 generalize decide (x<0)=sgx at *
 generalize cmpI x m=c at *
 clear hs hm sa sd i1 i2 i3 i4 hin hd0 hd1 hX hD
 have g0:(0:Int)≤(i:Int):=by omega
 have g1:(i:Int)<256:=by omega
 have g2:(i:Int)+1<256:=by omega
 have g5:(0:Int)≤(i:Int)+1:=by omega
 have g3:(0:Int)≤((i+1:Nat):Int):=by omega
 have g4:((i+1:Nat):Int)<256:=by omega
 have c80:=h8.cells1
 obtain⟨c110,c111⟩:=h11.cells2
 obtain⟨c100,c101⟩:=h10.cells2
 go_enter Tryz.func209,Tryz.ntmps209
 go_upto_region 1 with fail
 go_cut [6] (fun s wx=>∃Z A1 L1 C1,s= .pointer (some ⟨Z,0,none⟩)∧Blk wx Z 30 #[.bool (decide (m<0)),.slice A1 L1 C1]∧IsN wx (.slice A1 L1 C1) m.natAbs∧Below w.heap.size w wx)
 case first=>
  go_region_held3 (fun w'=>w'.cell? ⟨b8,0,none⟩=some (.slice (some ad) 256 C)∧w'.cell? (ad.add i)=some (.int .i64 va)∧w'.cell? ⟨ad.block,ad.off+(i+1),none⟩=some (.int .i64 vb)∧w'.cell? ⟨b11,0,none⟩=some (.bool sgd)∧w'.cell? ⟨b11,1,none⟩=some (.slice Ad Ld Cd))
   ((first | exact⟨cellB (by first | assumption | exact bdrew _ | exact Below.refl _ _ | exact balloc (bdrew _) _ | exact balloc (by assumption) _ | exact balloc (Below.refl _ _) _ | exact bset (bset (by assumption) (by first | assumption | exact Nat.le_refl _) _) (by first | assumption | exact Nat.le_refl _) _) c80,cellB (by first | assumption | exact bdrew _ | exact Below.refl _ _ | exact balloc (bdrew _) _ | exact balloc (by assumption) _ | exact balloc (Below.refl _ _) _ | exact bset (bset (by assumption) (by first | assumption | exact Nat.le_refl _) _) (by first | assumption | exact Nat.le_refl _) _) ca,cellB (by first | assumption | exact bdrew _ | exact Below.refl _ _ | exact balloc (bdrew _) _ | exact balloc (by assumption) _ | exact balloc (Below.refl _ _) _ | exact bset (bset (by assumption) (by first | assumption | exact Nat.le_refl _) _) (by first | assumption | exact Nat.le_refl _) _) cb,cellB (by first | assumption | exact bdrew _ | exact Below.refl _ _ | exact balloc (bdrew _) _ | exact balloc (by assumption) _ | exact balloc (Below.refl _ _) _ | exact bset (bset (by assumption) (by first | assumption | exact Nat.le_refl _) _) (by first | assumption | exact Nat.le_refl _) _) c110,cellB (by first | assumption | exact bdrew _ | exact Below.refl _ _ | exact balloc (bdrew _) _ | exact balloc (by assumption) _ | exact balloc (Below.refl _ _) _ | exact bset (bset (by assumption) (by first | assumption | exact Nat.le_refl _) _) (by first | assumption | exact Nat.le_refl _) _) c111⟩ | exact⟨c80,ca,cb,c110,c111⟩))
   (first
    | (go_at_call 118;(with_reducible refine (hO _).mono ?_);rintro e w1 ⟨v1,rfl,h1,b1⟩;(first | ((first | have hXX:=newX b1 w (by first | assumption | exact bdrew _) | have hXX:=newX (undrew b1) w (by first | exact Below.refl _ _ | assumption));obtain⟨hZ,sZ⟩:=hXX;try simp only[World.size_drew] at hZ sZ) | (have hZ:=hZ.below b1 hZ.lt) | skip);have B1:=bstep (a:=w) (by first | assumption | exact bdrew _ | exact Below.refl _ _ | exact balloc (bdrew _) _ | exact balloc (by assumption) _ | exact balloc (Below.refl _ _) _ | exact bset (bset (by assumption) (by first | assumption | exact Nat.le_refl _) _) (by first | assumption | exact Nat.le_refl _) _) b1)
    | (go_at_call 121;(with_reducible refine (hM _ _ _ ?_ ?_).mono ?_);exact h1.below (by first | exact Below.refl _ _ | exact balloc (Below.refl _ _) _ | exact bdrew _ | exact (balloc (Below.refl _ _) _).drew);exact hDZ.below (by first | assumption | exact bdrew _ | exact Below.refl _ _ | exact balloc (bdrew _) _ | exact balloc (by assumption) _ | exact balloc (Below.refl _ _) _ | exact bset (bset (by assumption) (by first | assumption | exact Nat.le_refl _) _) (by first | assumption | exact Nat.le_refl _) _);rintro e w2 ⟨v2,rfl,⟨n2,rfl,h2⟩,b2⟩;(first | ((first | have hXX:=newX b2 w (by first | assumption | exact bdrew _) | have hXX:=newX (undrew b2) w (by first | exact Below.refl _ _ | assumption));obtain⟨hZ,sZ⟩:=hXX;try simp only[World.size_drew] at hZ sZ) | (have hZ:=hZ.below b2 hZ.lt) | skip);obtain⟨A2,L2,C2,rfl⟩:=h2.frm;have B2:=bstep (a:=w) (by first | assumption | exact bdrew _ | exact Below.refl _ _ | exact balloc (bdrew _) _ | exact balloc (by assumption) _ | exact balloc (Below.refl _ _) _ | exact bset (bset (by assumption) (by first | assumption | exact Nat.le_refl _) _) (by first | assumption | exact Nat.le_refl _) _) b2;(try (obtain⟨z0,z1⟩:=hZ.cells2;have y0:=hZ.frozen 0;have y1:=hZ.frozen 1))))
  all_goals (go_wp2_with fail;go_meet)
  all_goals
   first
    | exact⟨_,_,_,_,rfl,Blk.new _ _ _,h2.below (balloc (Below.refl _ _) _),balloc B2 _⟩
    | (obtain ⟨p1, p2, p3⟩ := put2 hZ (.bool (decide (m < 0))) (.slice A2 L2 C2) (by simp [noU]) B2 (by first | assumption | exact Nat.le_refl _)
       exact⟨_,_,_,_,rfl,p1,p2 _ _ h2,p3⟩)
 obtain⟨Z,A1,L1,C1,rfl,hZ,hN,bz⟩:=hcut
 have hX2:=hXZ.below bz
 have h10:=h10.below bz hb.2.1
 obtain⟨e0,e1⟩:=hZ.cells2
 obtain⟨e2,e3⟩:=h10.cells2
 rcases hz with rfl | rfl | rfl
 all_goals
  go_wp2_with fail
  refine (hC _ _ _ hX2 ⟨_,rfl,hN⟩).mono ?_
  rintro e w3 ⟨rfl,b3⟩
  go_wp2
  go_ret
  exact⟨rfl,bz.trans (b3.mono bz.size)⟩
end Go.Proofs.YtdnjdglekifhpaaGreat
namespace Go.Proofs.YtdnjdglekifhpaaGreat
open Go.RowKit
theorem Blk.quad {w:World} {g:Nat} {t:TypeId} {a b c d:Value} (h:Blk w g t #[a,b,c,d]):w.cell? ⟨g,0,none⟩=some a∧w.cell? ⟨g,1,none⟩=some b∧w.cell? ⟨g,2,none⟩=some c∧w.cell? ⟨g,3,none⟩=some d:=⟨h.cell 0,h.cell 1,h.cell 2,h.cell 3⟩
theorem clone_i64 (v:Value) (l:List Int) (w:World) (h:IsI w v l) (hl:l.length≤17592186044416):
 Calls Tryz.prog 161 #[v] w fun e w'=>∃v',e= .returned v'∧IsI w' v' l∧Fresh w.heap.size v'∧Below w.heap.size w w':=by
 obtain⟨i0,hi,hz0,hz1,hz2⟩:=info_parts info_i64
 have q22:∀(w:World) (a:Option Addr) (n c n' c':Nat),(binOp .eql 62 (.slice a n c) (.slice none n' c')).run Tryz.prog w= .ok (.bool a.isNone) w:=fun w a n c n' c'=>Lib.run_eql_slice_nil w _ _ a n c n' c' Tryz.underlying62
 obtain⟨A,c,rfl,h1,h2,hr⟩:=h
 rcases A with _ | ad
 ·have h0:l.length=0:=by
   rcases Nat.eq_zero_or_pos l.length with h | h
   ·exact h
   ·obtain⟨ad,e,_⟩:=hr.2 h;cases e
  have hl:l=[]:=List.eq_nil_of_length_eq_zero h0
  subst hl
  go_enter Tryz.func161,Tryz.ntmps161
  go_wp2
  go_ret
  exact⟨_,rfl,IsI.nil w,fun g e=>by simp[Value.ownBlock] at e,Below.refl _ _⟩
 ·have hown:=World.ownsRow_lit w #[] 0 (base:=w.heap.size) (e:=2) (size:=1) (Nat.le_refl _) (by unfold maxLen;omega) rfl
  go_enter Tryz.func161,Tryz.ntmps161
  go_wp2_with (at_builtin;refine wpList_append_any _ rfl (.tmp 5) (.tmp 6) _ rfl w.heap.size 2 i0 _ 1 8 Tryz.underlying62 hi hz0 hz1 hz2 rfl (by omega) _ 0 [] rfl hown w.heap.size (some ad) l.length c (is l) rfl (hr.alloc (Nat.le_refl _) _) (is_one _) (by unfold maxLen;omega) (by omega) (by simp) ?_;intro v' w' hown' hgrow hat)
  go_ret
  rw[Nat.zero_add,List.nil_append] at hown'
  exact⟨_,rfl,IsI.of_own hown',Fresh.of_own hown',((Below.refl _ w).alloc (Nat.le_refl _) _).grown hgrow (by simp) (fun g e=>by cases e;exact Nat.le_refl _)⟩
theorem odd_any (n:Int) (C:Nat) (sg:Bool) (w:World) (h:Blk w C 4 #[.bool sg]):
 Calls Tryz.prog 160 #[.int .i64 n,.pointer (some ⟨C,0,none⟩)] w fun e w'=>e= .returned (.bool (oddB sg n))∧w=w':=by
 have hc:=h.cells1
 unfold oddB
 by_cases h1:n= -9223372036854775808
 ·have e1:(n == -9223372036854775808)=true:=by simpa using h1
  have e2:decide (n= -9223372036854775808)=true:=by simpa using h1
  rw[e2]
  clear h1
  go_enter Tryz.func160,Tryz.ntmps160
  go_wp2
  go_ret
  exact⟨rfl,rfl⟩
 ·have e1:(n == -9223372036854775808)=false:=by simpa using h1
  have e2:decide (n= -9223372036854775808)=false:=by simpa using h1
  rw[e2]
  clear h1
  by_cases h2:n<0
  ·have e3:decide (n<0)=true:=decide_eq_true h2
   rw[e3]
   clear h2
   go_enter Tryz.func160,Tryz.ntmps160
   go_wp2
   go_ret
   exact⟨by simp,rfl⟩
  ·have e3:decide (n<0)=false:=decide_eq_false h2
   rw[e3]
   clear h2
   go_enter Tryz.func160,Tryz.ntmps160
   go_wp2
   go_ret
   exact⟨rfl,rfl⟩
theorem any_take {α:Type} {l:List α} {k:Nat} {p:α→Bool} {y:α} (h:(l.take k).any p=false) (e:l.take (k+1)=l.take k++[y]) (hp:p y=false):(l.take (k+1)).any p=false:=by
 rw[e,List.any_append,h];simp[hp]
theorem indexOdd_any (v:Value) (l:List Int) (C:Nat) (sg:Bool) (w:World) (h:IsI w v l) (hC:Blk w C 4 #[.bool sg]):
 Calls Tryz.prog 172 #[v,.func (.func 160) #[] #[.pointer (some ⟨C,0,none⟩)]] w fun e w'=>(∃n:Int,e= .returned (.int .i64 n)∧decide (0≤n)=l.any (oddB sg))∧w=w':=by
 obtain⟨A,c,rfl,hc1,hc2,hr⟩:=h
 obtain⟨r,hr0⟩:∃r,r=l.any (oddB sg):=⟨_,rfl⟩
 rw[←hr0]
 have HR:=Lib.hid hr0
 clear hr0
 have hO:=fun n=>odd_any n C sg w hC
 go_enter Tryz.func172,Tryz.ntmps172
 go_wp2
 go_loop [8] (fun i=>∃k:Nat,k≤l.length∧i= .int .i64 k∧Hid ((l.take k).any (oddB sg)=false)) (fun i=>l.length - (intOf i).toNat)
 case atStart=>exact⟨0,by omega,rfl,Lib.hid (by simp)⟩
 case round=>
  obtain⟨k,hk,rfl,hno⟩:=hrel
  by_cases hlt:k<l.length
  ·obtain⟨ad,rfl,_,hx⟩:=is_cell hr hlt
   have HS:=Lib.hid (iat_snoc_take l k hlt)
   have HM:=Lib.hid (iat_mem hlt)
   generalize iat l k=y at *
   have hOy:=hO y
   cases hp:oddB sg y
   ·have HS2:=Lib.hid (any_take hno.out HS.out hp)
    rw[hp] at hOy
    go_wp2_with fail
    refine hOy.mono ?_
    rintro e w1 ⟨rfl,rfl⟩
    go_wp2
    go_round
    case rel=>exact⟨k+1,by omega,by go_num,HS2⟩
    case measure=>simp[intOf];omega
   ·have HT:=Lib.hid (show l.any (oddB sg)=true from List.any_eq_true.2 ⟨y,HM.out,hp⟩)
    rw[hp] at hOy
    go_wp2_with fail
    refine hOy.mono ?_
    rintro e w1 ⟨rfl,rfl⟩
    go_wp2
    go_ret
    exact⟨⟨k,rfl,by rw[HR.out,HT.out];simp⟩,rfl⟩
  ·obtain rfl:k=l.length:=by omega
   have HF:=Lib.hid (show l.any (oddB sg)=false by have:=hno.out;rwa [List.take_length] at this)
   go_wp2
   go_ret
   exact⟨⟨-1,rfl,by rw[HR.out,HF.out];rfl⟩,rfl⟩
theorem containsOdd_any (v:Value) (l:List Int) (C:Nat) (sg:Bool) (w:World) (h:IsI w v l) (hC:Blk w C 4 #[.bool sg]):
 Calls Tryz.prog 111 #[v,.func (.func 160) #[] #[.pointer (some ⟨C,0,none⟩)]] w fun e w'=>e= .returned (.bool (l.any (oddB sg)))∧w=w':=by
 have hI:=fun w h hC=>indexOdd_any v l C sg w h hC
 obtain⟨A,c,rfl,_⟩:=id h
 generalize l.any (oddB sg)=r at *
 go_enter Tryz.func111,Tryz.ntmps111
 go_wp2_with fail
 refine (hI _ h hC).mono ?_
 rintro e w1 ⟨⟨n,rfl,hn⟩,rfl⟩
 go_wp2
 go_ret
 exact⟨rfl,rfl⟩
theorem pload_any (v:Value) (k s:Int) (cs:List Nat) (wd:List Int) (w:World) (h:IsBk w v k s cs wd) (hl:wd.length≤17592186044416):
 Calls Tryz.prog 285 #[v] w fun e w'=>∃v',e= .returned v'∧IsI w' v' wd∧Below w.heap.size w w':=by
 obtain⟨a,b,rfl,ha,hb⟩:=h
 have hI:=fun w h=>clone_i64 b wd w h hl
 obtain⟨W0,hW,hR,hB⟩:=box1 w 222 #[.int .i64 k,.int .i64 s,a,b]
 obtain⟨g,hg⟩:∃g,g=w.heap.size:=⟨_,rfl⟩
 have hW':=Lib.hid (And.intro hW hg)
 rw[←hg] at hR
 clear hW hg
 replace hb:=hb.b hB
 obtain⟨c0,c1,c2,c3⟩:=hR.quad
 go_enter Tryz.func285,Tryz.ntmps285
 go_wp2_with fail
 rw[←hW'.out.1,←hW'.out.2]
 refine (hI _ hb).mono ?_
 rintro e w1 ⟨v1,rfl,h1,_,b1⟩
 obtain⟨A1,C1,rfl,_⟩:=h1.form
 go_wp2
 go_ret
 exact⟨_,rfl,h1,hB.trans (b1.mono hB.size)⟩
end Go.Proofs.YtdnjdglekifhpaaGreat
namespace Go.Proofs.YtdnjdglekifhpaaGreat
open Go.ChangeShapes Go.WideShapes Go.ChangeAt Go.RowKit
section
variable {H:Type} {enc:TypeId×Value→H} {P:Program}
theorem post_of_below {f:Func} {s:ChangeSpec} {apart fresh handsOn again:Bool} {W W':World} {args:Array Value} {v:Value} {ds gs:List (DataW H)} {before pa pv:List MemPlace}
 (hW:DataW.Whole enc P f.params.toList s.vars apart W args.toList ds gs before)
 (hres:∀(b:Nat) (sp:Nat→Bool) (hd:Bool),DataW.TrodAll enc P W' b sp hd f.resultTypes.toList (v.resultList f.resultTypes.size) (s.fn H (ds++gs)).results [])
 (hargs:∀sp:Nat→Bool,(∀p∈before,sp p.block=true)→DataW.TrodAll enc P W' 0 sp true f.params.toList args.toList (s.fn H (ds++gs)).args pa)
 (hvars:∀sp:Nat→Bool,(∀p∈before,sp p.block=true)→DataW.TrodVars enc P W' sp s.vars (s.fn H (ds++gs)).vars pv)
 (hps:before=pa++pv) (hb:Below W.heap.size W W')
 (hok:∀(j:Nat) (t:TypeId) (r:Value),f.resultTypes[j]?=some t→(v.resultList f.resultTypes.size)[j]?=some r→Value.okWide P W' .any 0 t r):
 s.post enc P f apart fresh handsOn again W args v W':=by
 have hlt:∀p∈before,p.block<W.heap.size:=fun p hp=>hW.lt p hp
 have hold:∀p∈before,(fun b=>decide (b<W.heap.size)) p.block=true:=fun p hp=>by simpa using hlt p hp
 refine ⟨ds,gs,before,[],pa,pv,hW,hres _ _ _,hargs _ hold,hvars _ hold,World.keptBut_mono (fun p hp=>⟨hp,?_⟩) (hb.frame (· ∈before)),fun _=>?_⟩
 ·rw[hps,List.mem_append] at hp
  exact Or.inr hp
 ·obtain⟨_,_,_,_,_,hz,hn⟩:=hW
  refine ⟨hok,_,_,([]++pa)++pv,⟨[]++pa,pv,trodAll_append (hargs _ (fun _ _=>rfl)) (hres _ _ _),hvars _ (fun _ _=>rfl),rfl,?_,?_⟩,?_⟩
  ·intro b off hp
   have hin:MemPlace.cell b off∈before:=by rw[hps];simpa using hp
   rw[hb.frozen (hlt _ hin)]
   exact hz b off hin
  ·intro ha
   have:=hn ha
   rw[hps] at this
   simpa using this
  ·intro p hp _
   rw[hps]
   simpa using hp
theorem below_trodAll (hl:laidOutB P=true) {W W':World} (hb:Below W.heap.size W W') (sp:Nat→Bool):∀{ts:List TypeId} {vs:List Value} {ds:List (DataW H)} {ps:List MemPlace},
 (∀t∈ts,P.readableRec t=true∧t<P.types.size)→DataW.TrodAll enc P W 0 (fun _=>true) true ts vs ds ps→(∀x∈ps,x.block<W.heap.size)→(∀x∈ps,sp x.block=true)→
 DataW.TrodAll enc P W' 0 sp true ts vs ds ps:=by
 intro ts
 induction ts with
 | nil=>intro vs ds ps _ h _ _;obtain⟨rfl,rfl,rfl⟩:=trodAll_nil h;rfl
 | cons t ts ih =>
   intro vs ds ps hr h hlt hsp
   obtain⟨v,vs',d,ds',p,q,rfl,rfl,rfl,h1,h2⟩:=trodAll_cons h
   obtain⟨k1,k2⟩:=hr t (List.mem_cons_self ..)
   exact⟨p,q,WideElems.Trod_stays hl k1 k2 h1 (fun x hx=>hb.same (hlt x (List.mem_append_left _ hx))) (fun x hx=>hsp x (List.mem_append_left _ hx)),ih (fun t' ht=>hr t' (List.mem_cons_of_mem _ ht)) h2 (fun x hx=>hlt x (List.mem_append_right _ hx)) (fun x hx=>hsp x (List.mem_append_right _ hx)),rfl⟩
theorem trodAll_len {w:World} {b:Nat} {sp:Nat→Bool} {hd:Bool}:∀{ts:List TypeId} {vs:List Value} {ds:List (DataW H)} {ps:List MemPlace},DataW.TrodAll enc P w b sp hd ts vs ds ps→ds.length=ts.length:=by
 intro ts
 induction ts with
 | nil=>intro vs ds ps h;obtain⟨rfl,rfl,rfl⟩:=trodAll_nil h;rfl
 | cons t ts ih =>
   intro vs ds ps h
   obtain⟨v,vs',d,ds',p,q,rfl,rfl,rfl,h1,h2⟩:=trodAll_cons h
   simp[ih h2]
end
theorem Tryz.own:ownKnob Tryz.prog.godebug=none:=by kernel_rfl
theorem Tryz.laidOut:laidOutB Tryz.prog=true:=by kernel_rfl
def LawWalk (f:FuncId) (fn:Func):Prop:=
 ∀(W:World) (base:Nat) (args:Array Value) (H:Type) (enc:TypeId×Value→H) (ds:List (DataW H)) (p:List MemPlace),
  (∀(j:Nat) t v,fn.params[j]?=some t→args[j]?=some v→Value.okWide Tryz.prog W .any base t v)→
  DataW.TrodAll enc Tryz.prog W 0 (fun _=>true) true fn.params.toList args.toList ds p→(∀x∈p,x.block<W.heap.size)→
  (DataW.weightsEach Tryz.prog fn.params.toList ds).all (· ≤reachBytes)=true→
  Calls Tryz.prog f args W fun e W'=>e= .returned (.bool true)∧Below W.heap.size W W'
theorem law_lifted (f:FuncId) (fn:Func) (s:ChangeSpec) (conds:List PathCond) (_:conds=[]) (hvars:s.vars=[]) (hres:fn.resultTypes= #[4])
 (hfn:Tryz.prog.funcs[f]?=some fn) (noInit:Tryz.checked.prog.inits.idxOf? f=none) (hread:∀t∈fn.params.toList,Tryz.prog.readableRec t=true∧t<Tryz.prog.types.size)
 (hs:∀(H:Type) (ds:List (DataW H)),ds.length=fn.params.toList.length→(s.fn H ds).results=[.lit (.bool true)]∧(s.fn H ds).args=ds∧(s.fn H ds).vars=[])
 (wit : ∀ (os : Os), os.Started → ∀ (H : Type) (enc : TypeId × Value → H), ∃ (w : World) (tape : Tape) (i : Input), w.os = os ∧ (w.forCall tape i).Shaped Tryz.checked.prog ∧ i.vars = [] ∧ Input.okWide Tryz.checked.prog (w.forCall tape i) .any w.heap.size f i ∧
  s.pre6 enc Tryz.checked.prog fn conds false (w.forCall tape i).memory i.args∧({}:Assume).holds Tryz.checked.prog (lone (Frame.enter Tryz.checked.prog f i.args .normal) [] (w.forCall tape i)))
 (walk:LawWalk f fn) (os:Os) (started:os.Started) (H:Type) (enc:TypeId×Value→H):
 ReturnsInHanded {} Tryz.checked os f .any (s.pre6 enc Tryz.prog fn conds false) (s.post enc Tryz.prog fn false true false false):=by
 refine returnsInHanded_of_change_sized (C:=Tryz.checked) Tryz.own started noInit hfn (wit os started H enc) ?_
 intro W base args ds gs before hval hW _ hsz _
 have hW':=hW
 obtain⟨p,q,hA,hV,rfl,_,_⟩:=hW
 rw[hvars] at hV
 obtain⟨rfl,rfl⟩:=trodVars_none hV
 have hlt:∀x∈p,x.block<W.heap.size:=fun x hx=>hW'.lt x (by simpa using hx)
 have hlen:ds.length=fn.params.toList.length:=trodAll_len hA
 obtain⟨e1,e2,e3⟩:=hs H ds hlen
 have hsz':(DataW.weightsEach Tryz.prog fn.params.toList ds).all (· ≤reachBytes)=true:=by
  have hv:s.plain.varTypes Tryz.checked.prog=[]:=by simp[ChangeSpec.plain,hvars,DataSpec.varTypes]
  rw[hv,List.append_nil,List.append_nil] at hsz
  exact hsz
 refine (walk W base args H enc ds p hval hA hlt hsz').mono fun e W' ⟨he,hb⟩=>?_
 subst he
 refine ⟨_,rfl,post_of_below (pa:=p) (pv:=[]) hW' (fun _ _ _=>?_) (fun sp hsp=>?_) (fun _ _=>?_) rfl hb ?_⟩
 ·rw[hres,List.append_nil,e1]
  exact trodAll_mk1 (shut_bool Tryz.underlying4 true)
 ·rw[List.append_nil,e2]
  exact below_trodAll Tryz.laidOut hb sp hread hA hlt (fun x hx=>hsp x (by simpa using hx))
 ·rw[hvars,List.append_nil,e3];rfl
 ·exact ok_one hres rfl (okWide_bool_mk Tryz.underlying4 true)
end Go.Proofs.YtdnjdglekifhpaaGreat

