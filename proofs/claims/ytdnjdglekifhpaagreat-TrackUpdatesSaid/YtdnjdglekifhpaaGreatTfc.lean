/- A part of the proof of: All updates of some moments are as the document says. No conditions: every input. -/
import Derived.Deep.DeepCutAuto
import Derived.Test.YtdnjdglekifhpaaGreatTfb
set_option maxRecDepth 100000
set_option maxHeartbeats 8000000
namespace Go.Proofs.YtdnjdglekifhpaaGreat
open Go.RowKit
attribute [local go_sem ↓] Go.wp_at_zero Go.wp_at_succ
theorem IsL.uniq {w:World} {v:Value} {l l':List Nat} (h:IsL w v l) (h':IsL w v l'):l=l':=by
 obtain⟨A,c,rfl,_,_,_,h4⟩:=h
 obtain⟨A',c',e,_,_,_,k4⟩:=h'
 injection e with e1 e2 e3
 subst e1
 apply List.ext_getElem e2
 intro i hi hi'
 obtain⟨ad,u,e,_,hu,hc⟩:=h4.at_ hi
 obtain⟨ad',u',e',_,hu',hc'⟩:=k4.at_ hi'
 subst e
 injection e' with e'
 subst e'
 rw[hc] at hc'
 rw[us_at l i hi] at hu
 rw[us_at l' i hi'] at hu'
 obtain rfl:=Option.some.inj hu
 obtain rfl:=Option.some.inj hu'
 have e4:=Option.some.inj hc'
 injection e4 with _ e4
 rw[List.getElem?_eq_getElem hi,List.getElem?_eq_getElem hi'] at e4
 simp only[Option.getD_some] at e4
 exact Int.ofNat.inj e4
theorem IsN.uniq {w:World} {v:Value} {n m:Nat} (h:IsN w v n) (h':IsN w v m):n=m:=by
 have:=IsL.uniq h h'
 rw[←num_limbs n,this,num_limbs]
open Classical in
noncomputable def numAt (w:World) (v:Value):Nat:=if h:∃n,IsN w v n then h.choose else 0
theorem numAt_eq {w:World} {v:Value} {n:Nat} (h:IsN w v n):numAt w v=n:=by
 unfold numAt
 have hx:∃n,IsN w v n:=⟨n,h⟩
 rw[dif_pos hx]
 exact IsN.uniq hx.choose_spec h
theorem newton_up {a x:Nat} (hx:0<x):a<((x+a / x) / 2+1)*((x+a / x) / 2+1):=by
 have h1:a<x*(a / x+1):=by
  have:=Nat.div_add_mod a x
  have:=Nat.mod_lt a hx
  rw[Nat.mul_add,Nat.mul_one];omega
 generalize a / x=q at *
 have h2:x+q+1≤2*((x+q) / 2+1):=by omega
 generalize (x+q) / 2+1=m at *
 have h3:(x+(q+1))*(x+(q+1))≤(2*m)*(2*m):=Nat.mul_le_mul (by omega) (by omega)
 have h4:4*(x*(q+1))≤(x+(q+1))*(x+(q+1)):=by
  have h5:(x+(q+1))*(x+(q+1))=x*x+2*(x*(q+1))+(q+1)*(q+1):=by grind
  rw[h5]
  generalize q+1=p
  rcases Nat.le_total x p with h | h
  ·obtain⟨d,rfl⟩:=Nat.exists_eq_add_of_le h
   have :x*x+(x+d)*(x+d)=2*(x*(x+d))+d*d:=by grind
   omega
  ·obtain⟨d,rfl⟩:=Nat.exists_eq_add_of_le h
   have :(p+d)*(p+d)+p*p=2*((p+d)*p)+d*d:=by grind
   omega
 have h6:(2*m)*(2*m)=4*(m*m):=by grind
 omega
theorem newton_end {a x:Nat} (hx:0<x) (h:x≤(x+a / x) / 2):x*x≤a:=by
 have h1:x≤a / x:=by omega
 exact (Nat.le_div_iff_mul_le hx).1 h1
theorem newton_start (a:Nat):a<(2^(bl a / 2+1)+1)*(2^(bl a / 2+1)+1):=by
 have h1:=lt_bl a
 have h2:2^bl a≤2^(bl a / 2+1+(bl a / 2+1)):=Nat.pow_le_pow_right (by omega) (by omega)
 rw[Nat.pow_add] at h2
 generalize 2^(bl a / 2+1)=x at *
 have :x*x≤(x+1)*(x+1):=Nat.mul_le_mul (by omega) (by omega)
 omega
def IsRt (a r:Nat):Prop:=r*r≤a∧a<(r+1)*(r+1)
theorem IsRt.uniq {a r s:Nat} (h:IsRt a r) (h':IsRt a s):r=s:=by
 have key:∀{r s:Nat},r*r≤a→a<(s+1)*(s+1)→r≤s:=fun {r s} h1 h2=>by
  rcases Nat.lt_or_ge s r with h | h
  ·have:=Nat.mul_le_mul (show s+1≤r from h) (show s+1≤r from h)
   omega
  ·exact h
 exact Nat.le_antisymm (key h.1 h'.2) (key h'.1 h.2)
theorem IsRt.le {a r:Nat} (h:IsRt a r):r≤a:=by
 rcases Nat.eq_zero_or_pos r with h0 | h0
 ·omega
 ·have:=Nat.mul_le_mul h0 (Nat.le_refl r)
  have:=h.1
  omega
theorem rpow1_any (va:Value) (a:Nat) (w:World) (ha:IsN w va a) (hla:Sz a 100000):
 Calls Tryz.prog 205 #[va,.int .i64 1] w fun e w'=>∃v',e= .returned v'∧IsN w' v' (a)∧Below w.heap.size w w':=by
 have hO:=fun w=>of_any 1 (by unfold W64;omega) w
 rw[show ((1:Nat):Int)=1 from rfl] at hO
 have hM1:=fun u v w hu hv=>mul_any u v 1 a w hu hv (Sz.one.fin (by omega)) (hla.fin (by omega))
 rw[Nat.one_mul] at hM1
 go_enter Tryz.func205,Tryz.ntmps205
 go_wp2_with fail
 refine (hO _).mono ?_
 rintro e w1 ⟨v5,rfl,h5,b1⟩
 replace ha:=ha.b b1
 go_wp2_with fail
 go_loopw [0,1,5] (fun aV kV oV wr=>((kV= .int .i64 1∧IsN wr aV a∧IsN wr oV 1)∨(kV= .int .i64 0∧IsN wr oV a))∧Below w.heap.size w wr) (fun _ kV _ _=>(intOf kV).toNat)
 case atStart=>exact⟨.inl ⟨rfl,ha,h5⟩,b1⟩
 case round=>
  clear ha h5 b1 hla
  obtain⟨⟨rfl,ha,ho⟩ | ⟨rfl,ho⟩,hB⟩:=hrel
  ·go_wp2_with fail
   refine (hM1 _ _ _ ho ha).mono ?_
   rintro e w2 ⟨v6,rfl,h6,b2⟩
   replace hB:=bOn hB b2
   go_wp2
   exact⟨⟨.inr ⟨rfl,h6⟩,hB⟩,by simp[intOf]⟩
  ·go_wp2
   go_ret
   exact⟨_,rfl,ho,hB⟩
theorem rpow2_any (va:Value) (a:Nat) (w:World) (ha:IsN w va a) (hla:Sz a 100000):
 Calls Tryz.prog 205 #[va,.int .i64 2] w fun e w'=>∃v',e= .returned v'∧IsN w' v' (a*a)∧Below w.heap.size w w':=by
 have hO:=fun w=>of_any 1 (by unfold W64;omega) w
 rw[show ((1:Nat):Int)=1 from rfl] at hO
 have hM1:=fun u v w hu hv=>mul_any u v 1 (a*a) w hu hv (Sz.one.fin (by omega)) ((hla.mul hla).fin (by omega))
 rw[Nat.one_mul] at hM1
 have hM2:=fun u v w hu hv=>mul_any u v a a w hu hv (hla.fin (by omega)) (hla.fin (by omega))
 go_enter Tryz.func205,Tryz.ntmps205
 go_wp2_with fail
 refine (hO _).mono ?_
 rintro e w1 ⟨v5,rfl,h5,b1⟩
 replace ha:=ha.b b1
 go_wp2_with fail
 go_loopw [0,1,5] (fun aV kV oV wr=>((kV= .int .i64 2∧IsN wr aV a∧IsN wr oV 1)∨(kV= .int .i64 1∧IsN wr aV (a*a)∧IsN wr oV 1)∨(kV= .int .i64 0∧IsN wr oV (a*a)))∧Below w.heap.size w wr) (fun _ kV _ _=>(intOf kV).toNat)
 case atStart=>exact⟨.inl ⟨rfl,ha,h5⟩,b1⟩
 case round=>
  clear ha h5 b1 hla
  obtain⟨⟨rfl,ha,ho⟩ | ⟨rfl,ha,ho⟩ | ⟨rfl,ho⟩,hB⟩:=hrel
  ·go_wp2_with fail
   refine (hM2 _ _ _ ha ha).mono ?_
   rintro e w2 ⟨v6,rfl,h6,b2⟩
   replace ho:=ho.b b2
   replace hB:=bOn hB b2
   go_wp2
   exact⟨⟨.inr (.inl ⟨rfl,h6,ho⟩),hB⟩,by simp[intOf]⟩
  ·go_wp2_with fail
   refine (hM1 _ _ _ ho ha).mono ?_
   rintro e w2 ⟨v6,rfl,h6,b2⟩
   replace hB:=bOn hB b2
   go_wp2
   exact⟨⟨.inr (.inr ⟨rfl,h6⟩),hB⟩,by simp[intOf]⟩
  ·go_wp2
   go_ret
   exact⟨_,rfl,ho,hB⟩
theorem rstep_any (vx:Value) (A:Option Addr) (L C x a X2 X3:Nat) (w:World) (hx:IsN w vx x) (ha:IsN w (.slice A L C) a) (h2:Blk w X2 28 #[.slice A L C]) (h3:Blk w X3 3 #[.int .i64 2]) (x0:0<x) (sx:Sz x 20000) (sa:Sz a 20000):
 Calls Tryz.prog 204 #[vx,.pointer (some ⟨X2,0,none⟩),.pointer (some ⟨X3,0,none⟩)] w fun e w'=>∃v',e= .returned v'∧IsN w' v' ((x+a / x) / 2)∧Below w.heap.size w w':=by
 have hP:=fun w h=>rpow1_any vx x w h (sx.more (by omega))
 have hD:=fun v w h h'=>dm_any (.slice A L C) v a x x0 w h h' (sa.fin (by omega))
 have hO1:=fun w=>of_any 1 (by unfold W64;omega) w
 rw[show ((1:Nat):Int)=1 from rfl] at hO1
 have hO2:=fun w=>of_any 2 (by unfold W64;omega) w
 rw[show ((2:Nat):Int)=2 from rfl] at hO2
 have hM:=fun u w h h'=>mul_any u vx 1 x w h h' (Sz.one.fin (by omega)) (sx.fin (by omega))
 rw[Nat.one_mul] at hM
 have sq:Sz (a / x) 20000:=sa.le (Nat.div_le_self a x)
 have hA:=fun u v w h h'=>add_any u v x (a / x) w h h' (sx.fin (by omega)) (sq.fin (by omega))
 have hD2:=fun u v w h h'=>dm_any u v (x+a / x) 2 (by omega) w h h' ((sx.add sq).fin (by omega))
 have hB:=Below.refl w.heap.size w
 have c0:=h2.q1
 have c1:=h3.q1
 go_enter Tryz.func204,Tryz.ntmps204
 go_upto_region 1 with fail
 replace hB:=hB.drew
 replace hx:=hx.b (bdrew _)
 replace ha:=ha.b (bdrew _)
 replace h2:=h2.drew
 replace h3:=h3.drew
 clear c0 c1
 refine wp_region_noPanic ?_
 refine wp_region_held_drew (S:=fun w'=>w'.cell? ⟨X2,0,none⟩=some (.slice A L C)∧w'.cell? ⟨X3,0,none⟩=some (.int .i64 2)) (by kernel_rfl) ?_ (fun hHeld=>?_)
 ·exact⟨h2.cell 0,h3.cell 0⟩
 obtain⟨wd1_1,hwd⟩:∃q,q=w.drew:=⟨_,rfl⟩
 rw[←hwd] at hB hx ha h2 h3 hHeld ⊢
 clear hwd
 refine tkA 0 rfl ?_
 refine tkA 1 rfl ?_
 refine tkA 2 rfl ?_
 refine tkA 3 rfl ?_
 try simp only[Act.put,lay]
 refine rd1 4 rfl fun K hK=>?_
 go_simp
 refine (hP _ hx).mono ?_
 rintro e u1_1 ⟨v1,rfl,h1,b1_1⟩
 replace hx:=hx.b b1_1
 replace ha:=ha.b b1_1
 replace h2:=h2.b b1_1
 replace h3:=h3.b b1_1
 replace hB:=bOn hB b1_1
 go_wp2_with fail
 refine hK.out _ _ ?_ fun hHeld=>?_
 ·exact⟨h2.cell 0,h3.cell 0⟩
 clear hK K
 try simp only[Act.put,lay]
 refine rd1 5 rfl fun K hK=>?_
 go_simp
 refine (hD _ _ ha h1).mono ?_
 rintro e u1_2 ⟨q1,r1,rfl,hq, -, -,b1_2⟩
 replace hx:=hx.b b1_2
 replace ha:=ha.b b1_2
 replace h2:=h2.b b1_2
 replace h3:=h3.b b1_2
 replace h1:=h1.b b1_2
 replace hB:=bOn hB b1_2
 go_wp2_with fail
 refine hK.out _ _ ?_ fun hHeld=>?_
 ·exact⟨h2.cell 0,h3.cell 0⟩
 clear hK K
 refine tkA 6 rfl ?_
 refine tkA 7 rfl ?_
 refine tkA 8 rfl ?_
 refine tkA 9 rfl ?_
 refine tkA 10 rfl ?_
 refine tkA 11 rfl ?_
 refine tkA 12 rfl ?_
 try simp only[Act.put,lay]
 try dsimp only
 try simp only[Act.put,lay]
 refine wpAnyH_done (by kernel_rfl) ?_ _
 refine NoPanic.normal ?_
 skip
 have c2:=h2.q1
 have c3:=h3.q1
 go_wp2_with fail
 refine (hO1 _).mono ?_
 rintro e w4 ⟨v4,rfl,h4,b4⟩
 replace hx:=hx.b b4
 replace ha:=ha.b b4
 replace h2:=h2.b b4
 replace h3:=h3.b b4
 replace hq:=hq.b b4
 replace hB:=bOn hB b4
 clear c2 c3
 have c4:=h2.q1
 have c5:=h3.q1
 go_wp2_with fail
 refine (hM _ _ h4 hx).mono ?_
 rintro e w6 ⟨v5,rfl,h5,b6⟩
 replace hx:=hx.b b6
 replace ha:=ha.b b6
 replace h2:=h2.b b6
 replace h3:=h3.b b6
 replace hq:=hq.b b6
 replace h4:=h4.b b6
 replace hB:=bOn hB b6
 clear c4 c5
 have c6:=h2.q1
 have c7:=h3.q1
 go_wp2_with fail
 refine (hA _ _ _ h5 hq).mono ?_
 rintro e w8 ⟨v6,rfl,h6,b8⟩
 replace hx:=hx.b b8
 replace ha:=ha.b b8
 replace h2:=h2.b b8
 replace h3:=h3.b b8
 replace hq:=hq.b b8
 replace h5:=h5.b b8
 replace hB:=bOn hB b8
 clear c6 c7
 have c8:=h2.q1
 have c9:=h3.q1
 go_wp2_with fail
 refine (hO2 _).mono ?_
 rintro e w10 ⟨v7,rfl,h7,b10⟩
 replace hx:=hx.b b10
 replace ha:=ha.b b10
 replace h2:=h2.b b10
 replace h3:=h3.b b10
 replace h6:=h6.b b10
 replace hB:=bOn hB b10
 clear c8 c9
 have c10:=h2.q1
 have c11:=h3.q1
 go_wp2_with fail
 refine (hD2 _ _ _ h6 h7).mono ?_
 rintro e w12 ⟨q8,r8,rfl,h8, -, -,b12⟩
 replace hx:=hx.b b12
 replace ha:=ha.b b12
 replace h2:=h2.b b12
 replace h3:=h3.b b12
 replace h6:=h6.b b12
 replace h7:=h7.b b12
 replace hB:=bOn hB b12
 clear c10 c11
 have c12:=h2.q1
 have c13:=h3.q1
 go_wp2
 go_ret
 exact⟨_,rfl,h8,hB⟩
theorem root_any (va:Value) (a:Nat) (w:World) (ha:IsN w va a) (sa:Sz a 600):
 Calls Tryz.prog 151 #[va,.int .i64 2] w fun e w'=>∃r v',e= .returned (.tuple #[v',.int .i64 0])∧IsN w' v' r∧IsRt a r∧Below w.heap.size w w':=by
 have hE:∀w:World,Calls Tryz.prog 203 #[.int .i64 2] w fun e w'=>e= .returned (.bool true)∧w=w':=fun w=>by
  go_enter Tryz.func203,Tryz.ntmps203
  go_wp2
  go_ret
  exact⟨rfl,rfl⟩
 obtain⟨A,L,C,rfl,ha⟩:=ha.opn
 obtain⟨L',hL⟩:∃n,n=(limbs a).length:=⟨_,rfl⟩
 have hLL:L=L':=by
  obtain⟨A',c,e,_⟩:=ha
  injection e with _ e2
  omega
 subst hLL
 rcases Nat.eq_zero_or_pos a with h0 | h0
 ·subst h0
  rw[limbs_zero] at hL
  have hL0:L=0:=hL
  have hl1:((L:Int) == 0)=true:=by simp[hL0]
  have hl2:decide ((L:Int)=0)=true:=decide_eq_true (by omega)
  clear hL hL0
  obtain⟨g,Y1,h2,h3,hB,hgw,EY⟩:=boxes2 w 28 #[.slice A L C] 3 #[.int .i64 2]
  replace ha:=ha.b hB
  have c0:=h2.q1
  have c1:=h3.q1
  go_enter Tryz.func151,Tryz.ntmps151
  go_wp2_with fail
  rw[←EY.out.2,←EY.out.1]
  refine (hE _).mono ?_
  rintro e w2 ⟨rfl,rfl⟩
  go_wp2
  exact bodyPost_ret (v:= .tuple #[.slice none 0 0,.int .i64 0]) (by simp[results,Tryz.results151,go_sem]) rfl ⟨0,_,rfl,IsN.zero _,⟨by omega,by omega⟩,hB⟩
 have hLp:L≠0:=fun e=>by
  rw[hL] at e
  have:=List.eq_nil_of_length_eq_zero e
  have h1:=num_limbs a
  rw[this] at h1
  simp[num] at h1;omega
 clear hL
 have hl1:((L:Int) == 0)=false:=by simpa using hLp
 have hl2:decide ((L:Int)=0)=false:=decide_eq_false (by omega)
 have hO:=fun w=>of_any 1 (by unfold W64;omega) w
 rw[show ((1:Nat):Int)=1 from rfl] at hO
 have hBi:=fun w h=>bits_any (.slice A L C) a w h (sa.fin (by omega))
 have hbl:=sa.bl
 have hn:=newton_start a
 obtain⟨n,en⟩:∃n,n=bl a / 2+1:=⟨_,rfl⟩
 rw[←en] at hn
 have hS:=fun v w h=>dshl_any v 1 n (by omega) w h (Sz.one.fin (by omega))
 rw[Nat.one_mul] at hS
 obtain⟨m,em⟩:∃m,m=n - 1:=⟨_,rfl⟩
 have q1:((bl a:Nat):Int) / 2=(m:Int):=by omega
 have q2:((bl a:Nat):Int).tdiv 2=(m:Int):=by rw[Int.tdiv_eq_ediv_of_nonneg (by omega)];exact q1
 have q8:IntKind.i64.wrap (m:Int)=(m:Int):=by rw[IntKind.wrap_i64];omega
 have q3:IntKind.i64.wrap (((bl a:Nat):Int).tdiv 2)=(m:Int):=by rw[q2,q8]
 have q5:IntKind.i64.wrap (((bl a:Nat):Int) / 2)=(m:Int):=by rw[q1,q8]
 have q6:(m:Int)+1=(n:Int):=by omega
 have q7:IntKind.i64.wrap ((m:Int)+1)=(n:Int):=by rw[q6,IntKind.wrap_i64];omega
 have sx0:Sz (2^n) 20000:=(Sz.two_pow n).more (by omega)
 have hRt:=fun (vx:Value) (x X2 X3:Nat) (w:World) (h1:IsN w vx x) (h2:IsN w (.slice A L C) a) (h3:Blk w X2 28 #[.slice A L C]) (h4:Blk w X3 3 #[.int .i64 2]) (h5:0<x) (h6:Sz x 20000)=>rstep_any vx A L C x a X2 X3 w h1 h2 h3 h4 h5 h6 (sa.more (by omega))
 have hCm:=fun u v x y w h h'=>cmp_any u v x y w h h'
 have hLn:=Lib.hid hLp
 clear hbl en em hLp q6
 obtain⟨g,Y1,h2,h3,hB,hgw,EY⟩:=boxes2 w 28 #[.slice A L C] 3 #[.int .i64 2]
 replace ha:=ha.b hB
 have c0:=h2.q1
 have c1:=h3.q1
 go_enter Tryz.func151,Tryz.ntmps151
 go_wp2_with fail
 rw[←EY.out.2,←EY.out.1]
 refine (hE _).mono ?_
 rintro e w2 ⟨rfl,rfl⟩
 go_upto_region 6 with fail
 replace hB:=hB.drew
 replace ha:=ha.b (bdrew _)
 replace h2:=h2.drew
 replace h3:=h3.drew
 clear c0 c1
 refine wp_region_noPanic ?_
 refine wp_region_held_drew (S:=fun w'=>w'.cell? ⟨g,0,none⟩=some (.slice A L C)∧w'.cell? ⟨g+1,0,none⟩=some (.int .i64 2)) (by kernel_rfl) ?_ (fun hHeld=>?_)
 ·exact⟨h2.cell 0,h3.cell 0⟩
 obtain⟨wd6_1,hwd⟩:∃q,q=Y1.drew:=⟨_,rfl⟩
 rw[←hwd] at hB ha h2 h3 hHeld ⊢
 clear hwd
 refine tkA 1 rfl ?_
 refine tkA 3 rfl ?_
 try simp only[Act.put,lay]
 refine rd1 0 rfl fun K hK=>?_
 go_simp
 refine (hO _).mono ?_
 rintro e u6_1 ⟨v7,rfl,h7,b6_1⟩
 replace ha:=ha.b b6_1
 replace h2:=h2.b b6_1
 replace h3:=h3.b b6_1
 replace hB:=bOn hB b6_1
 go_wp2_with fail
 refine hK.out _ _ ?_ fun hHeld=>?_
 ·exact⟨h2.cell 0,h3.cell 0⟩
 clear hK K
 try simp only[Act.put,lay]
 refine rd1 2 rfl fun K hK=>?_
 go_simp
 refine (hBi _ ha).mono ?_
 rintro e u6_2 ⟨rfl,rfl⟩
 go_wp2_with fail
 refine hK.out _ _ ?_ fun hHeld=>?_
 ·exact⟨h2.cell 0,h3.cell 0⟩
 clear hK K
 refine tkA 4 rfl ?_
 refine tkA 5 rfl ?_
 try simp only[Act.put,lay]
 refine rd1 6 rfl fun K hK=>?_
 go_simp
 refine (hS _ _ h7).mono ?_
 rintro e u6_3 ⟨v8,rfl,h8,b6_3⟩
 replace ha:=ha.b b6_3
 replace h2:=h2.b b6_3
 replace h3:=h3.b b6_3
 replace h7:=h7.b b6_3
 replace hB:=bOn hB b6_3
 go_wp2_with fail
 refine hK.out _ _ ?_ fun hHeld=>?_
 ·exact⟨h2.cell 0,h3.cell 0⟩
 clear hK K
 refine tkA 7 rfl ?_
 refine tkA 8 rfl ?_
 refine tkA 9 rfl ?_
 refine tkA 10 rfl ?_
 refine tkA 11 rfl ?_
 try simp only[Act.put,lay]
 try dsimp only
 try simp only[Act.put,lay]
 refine wpAnyH_done (by kernel_rfl) ?_ _
 refine NoPanic.normal ?_
 skip
 have c2:=h2.q1
 have c3:=h3.q1
 have p0:0<2^n:=Nat.pow_pos (by omega)
 go_wp2_with fail
 refine (hRt _ _ _ _ _ h8 ha h2 h3 p0 sx0).mono ?_
 rintro e w5 ⟨v9,rfl,h9,b5⟩
 replace ha:=ha.b b5
 replace h2:=h2.b b5
 replace h3:=h3.b b5
 replace h8:=h8.b b5
 replace hB:=bOn hB b5
 clear c2 c3
 have c4:=h2.q1
 have c5:=h3.q1
 go_wp2_with fail
 go_loopw [7,9] (fun xV yV wr=>∃x,IsN wr xV x∧IsN wr yV ((x+a / x) / 2)∧0<x∧Sz x 20000∧a<(x+1)*(x+1)∧IsN wr (.slice A L C) a∧Blk wr g 28 #[.slice A L C]∧Blk wr (g+1) 3 #[.int .i64 2]∧Below w.heap.size w wr) (fun xV _ wr=>numAt wr xV)
 case atStart=>exact⟨2^n,h8,h9,p0,sx0,hn,ha,h2,h3,hB⟩
 case round=>
  clear h8 h9 ha h2 h3 hB sx0 hn p0
  obtain⟨x,h8,h9,p0,sx,hn,ha,h2,h3,hB⟩:=hrel
  have hm:=numAt_eq h8
  have up:=newton_up (a:=a) p0
  have hle:=newton_end (a:=a) p0
  have hdl:=Nat.div_le_self a x
  generalize hy:(x+a / x) / 2=y at *
  have hC:=hCm _ _ y x wr h9 h8
  by_cases hlt:y<x
  ·have hc:cmpI y x= -1:=by unfold cmpI;rw[if_pos (by omega)]
   rw[hc] at hC
   go_wp2_with fail
   refine hC.mono ?_
   rintro e w5 ⟨rfl,b5⟩
   replace h9:=h9.b b5
   replace ha:=ha.b b5
   replace h2:=h2.b b5
   replace h3:=h3.b b5
   replace hB:=bOn hB b5
   have y0:0<y:=by
    rcases Nat.eq_zero_or_pos y with h | h
    ·subst h;simp at up;omega
    ·exact h
   have sy:Sz y 20000:=sx.le (by omega)
   go_wp2_with fail
   refine (hRt _ _ _ _ _ h9 ha h2 h3 y0 sy).mono ?_
   rintro e w6 ⟨v9,rfl,h10,b6⟩
   replace h9:=h9.b b6
   replace ha:=ha.b b6
   replace h2:=h2.b b6
   replace h3:=h3.b b6
   replace hB:=bOn hB b6
   have hm2:=numAt_eq h9
   go_wp2
   exact⟨⟨y,h9,h10,y0,sy,up,ha,h2,h3,hB⟩,by simp only[hm,hm2];simp[hlt]⟩
  ·have hc:0≤cmpI y x:=by unfold cmpI;(repeat' split)<;>omega
   have hr:=hle (by omega)
   generalize cmpI y x=cm at *
   have hc2:decide (cm<0)=false:=decide_eq_false (by omega)
   go_wp2_with fail
   refine hC.mono ?_
   rintro e w5 ⟨rfl,b5⟩
   replace h8:=h8.b b5
   replace hB:=bOn hB b5
   go_wp2
   exact bodyPost_ret (v:= .tuple #[u7,.int .i64 0]) (by simp[results,Tryz.results151,go_sem]) rfl ⟨x,_,rfl,h8,⟨hr,hn⟩,hB⟩
def rtUp (a r:Nat):Nat:=if r*r<a then r+1 else r
theorem rootup_less (va:Value) (a:Nat) (w:World) (ha:IsN w va a) (sa:Sz a 600) (hlt:∀r,IsRt a r→r*r<a):
 Calls Tryz.prog 152 #[va,.int .i64 2] w fun e w'=>∃r v',e= .returned (.tuple #[v',.int .i64 0])∧IsN w' v' (rtUp a r)∧IsRt a r∧Below w.heap.size w w':=by
 have hR:=fun w h=>root_any va a w h sa
 have hO:=fun w=>of_any 1 (by unfold W64;omega) w
 rw[show ((1:Nat):Int)=1 from rfl] at hO
 go_enter Tryz.func152,Tryz.ntmps152
 go_wp2_with fail
 refine (hR _ ha).mono ?_
 rintro e w1 ⟨r,v1,rfl,h1,hrt,b1⟩
 replace ha:=ha.b b1
 have hB:=b1
 have hle:=hrt.le
 have sr:Sz r 600:=sa.le hle
 have hP:=fun v w h=>rpow2_any v r w h (sr.more (by omega))
 have hC:=fun u v w h h'=>cmp_any u v (r*r) a w h h'
 have hx:=hlt r hrt
 have hc:cmpI ((r*r:Nat):Int) (a:Int)= -1:=by unfold cmpI;rw[if_pos (by omega)]
 rw[hc] at hC
 go_wp2_with fail
 refine (hP _ _ h1).mono ?_
 rintro e w3 ⟨v2,rfl,h2,b3⟩
 replace ha:=ha.b b3
 replace h1:=h1.b b3
 replace hB:=bOn hB b3
 go_wp2_with fail
 refine (hC _ _ _ h2 ha).mono ?_
 rintro e w5 ⟨rfl,b5⟩
 replace ha:=ha.b b5
 replace h1:=h1.b b5
 replace h2:=h2.b b5
 replace hB:=bOn hB b5
 go_wp2_with fail
 refine (hO _).mono ?_
 rintro e w7 ⟨v3,rfl,h3,b7⟩
 replace ha:=ha.b b7
 replace h1:=h1.b b7
 replace h2:=h2.b b7
 replace hB:=bOn hB b7
 have hA:=fun u v w h h'=>add_any u v r 1 w h h' (sr.fin (by omega)) (Sz.one.fin (by omega))
 go_wp2_with fail
 refine (hA _ _ _ h1 h3).mono ?_
 rintro e w9 ⟨v4,rfl,h4,b9⟩
 replace ha:=ha.b b9
 replace h1:=h1.b b9
 replace h2:=h2.b b9
 replace h3:=h3.b b9
 replace hB:=bOn hB b9
 go_wp2
 exact bodyPost_ret (v:= .tuple #[v4,.int .i64 0]) (by simp[results,Tryz.results152,go_sem]) rfl ⟨r,_,rfl,by unfold rtUp;rw[if_pos hx];exact h4,hrt,hB⟩
theorem rootup_same (va:Value) (a:Nat) (w:World) (ha:IsN w va a) (sa:Sz a 600) (hge:∀r,IsRt a r→¬r*r<a):
 Calls Tryz.prog 152 #[va,.int .i64 2] w fun e w'=>∃r v',e= .returned (.tuple #[v',.int .i64 0])∧IsN w' v' (rtUp a r)∧IsRt a r∧Below w.heap.size w w':=by
 have hR:=fun w h=>root_any va a w h sa
 have hO:=fun w=>of_any 1 (by unfold W64;omega) w
 rw[show ((1:Nat):Int)=1 from rfl] at hO
 go_enter Tryz.func152,Tryz.ntmps152
 go_wp2_with fail
 refine (hR _ ha).mono ?_
 rintro e w1 ⟨r,v1,rfl,h1,hrt,b1⟩
 replace ha:=ha.b b1
 have hB:=b1
 have hle:=hrt.le
 have sr:Sz r 600:=sa.le hle
 have hP:=fun v w h=>rpow2_any v r w h (sr.more (by omega))
 have hC:=fun u v w h h'=>cmp_any u v (r*r) a w h h'
 have hx:=hge r hrt
 have hc:cmpI ((r*r:Nat):Int) (a:Int)=0:=by have:=hrt.1;unfold cmpI;rw[if_neg (by omega),if_neg (by omega)]
 rw[hc] at hC
 go_wp2_with fail
 refine (hP _ _ h1).mono ?_
 rintro e w3 ⟨v2,rfl,h2,b3⟩
 replace ha:=ha.b b3
 replace h1:=h1.b b3
 replace hB:=bOn hB b3
 go_wp2_with fail
 refine (hC _ _ _ h2 ha).mono ?_
 rintro e w5 ⟨rfl,b5⟩
 replace ha:=ha.b b5
 replace h1:=h1.b b5
 replace h2:=h2.b b5
 replace hB:=bOn hB b5
 go_wp2
 exact bodyPost_ret (v:= .tuple #[v1,.int .i64 0]) (by simp[results,Tryz.results152,go_sem]) rfl ⟨r,_,rfl,by unfold rtUp;rw[if_neg hx];exact h1,hrt,hB⟩
theorem rootup_any (va:Value) (a:Nat) (w:World) (ha:IsN w va a) (sa:Sz a 600):
 Calls Tryz.prog 152 #[va,.int .i64 2] w fun e w'=>∃r v',e= .returned (.tuple #[v',.int .i64 0])∧IsN w' v' (rtUp a r)∧IsRt a r∧Below w.heap.size w w':=by
 by_cases h:∃r,IsRt a r∧r*r<a
 ·obtain⟨r,h1,h2⟩:=h
  exact rootup_less va a w ha sa fun s hs=>by rw[hs.uniq h1];exact h2
 ·exact rootup_same va a w ha sa fun s hs hlt=>h ⟨s,hs,hlt⟩
theorem zN {w:World} {v:Value} {n:Nat} (h:IsN w v n):IsZ w (.agg #[.bool false,v]) (n:Int):=⟨v,by rw[decide_eq_false (by omega)],by simpa using h⟩
def flN (a:Rat):Nat:=a.num.natAbs*2^120 / a.den
def clN (a:Rat):Nat:=a.num.natAbs*2^120 / a.den+if a.num.natAbs*2^120 % a.den=0 then 0 else 1
theorem sz_flN {a:Rat} {k:Nat} (h:BQ a k):Sz (flN a) (k+2):=((h.1.mul (Sz.two_pow 120)).more (by omega)).le (Nat.div_le_self _ _)
theorem sz_clN {a:Rat} {k:Nat} (h:BQ a k):Sz (clN a) (k+4):=by
 have h1:Sz (a.num.natAbs*2^120 / a.den+1) (k+2+1+1):=(sz_flN h).add Sz.one
 refine h1.le ?_
 unfold clN;split<;>omega
theorem psqrt_some (v:Value) (a b:Rat) (w:World) (h:IsS w v a b) (sa:BQ a 500) (sb:BQ b 500) (na:¬a.num<0) (hr:b.num.natAbs*2^120 % b.den≠0):
 Calls Tryz.prog 85 #[v,.int .i64 60] w fun e w'=>∃r t v',e= .returned (.tuple #[v',.int .i64 0])∧IsS w' v' (mkRat (r:Nat) (2^60)) (mkRat (rtUp (clN b) t:Nat) (2^60))∧IsRt (flN a) r∧IsRt (clN b) t∧Below w.heap.size w w':=by
 obtain⟨s1,A1,L1,C1,D1,M1,E1,s2,A2,L2,C2,D2,M2,E2,rfl,q1,q2⟩:=h.opn
 obtain rfl:s1=false:=by rw[q1.parts.1];exact decide_eq_false na
 have hG:=fun w=>pgrid60 w
 have hU1:=fun w h=>pup_any (.agg #[.bool false,.slice A1 L1 C1,.slice D1 M1 E1]) a w h (sa.more (by omega))
 have sxa:Sz (a.num.natAbs*2^120) 502:=(sa.1.mul (Sz.two_pow 120)).more (by omega)
 have sxb:Sz (b.num.natAbs*2^120) 502:=(sb.1.mul (Sz.two_pow 120)).more (by omega)
 have hD1:=fun u w h h'=>dm_any u (.slice D1 M1 E1) (a.num.natAbs*2^120) a.den a.den_pos w h h' (sxa.fin (by omega))
 have hU2:=fun w h=>pup_any (.agg #[.bool s2,.slice A2 L2 C2,.slice D2 M2 E2]) b w h (sb.more (by omega))
 have hD2:=fun u w h h'=>dm_any u (.slice D2 M2 E2) (b.num.natAbs*2^120) b.den b.den_pos w h h' (sxb.fin (by omega))
 have hO:=fun w=>of_any 1 (by unfold W64;omega) w
 rw[show ((1:Nat):Int)=1 from rfl] at hO
 have sza:Sz (a.num.natAbs*2^120 / a.den) 510:=(sz_flN sa).more (by omega)
 have szb0:Sz (b.num.natAbs*2^120 / b.den) 510:=(sz_flN sb).more (by omega)
 have HFL:=Lib.hid (show flN a=a.num.natAbs*2^120 / a.den from rfl)
 have HCL:=Lib.hid (show clN b=b.num.natAbs*2^120 / b.den+1 by unfold clN;rw[if_neg hr])
 have szb:Sz (b.num.natAbs*2^120 / b.den+1) 520:=(szb0.add Sz.one).more (by omega)
 have hAd:=fun u v w h h'=>add_any u v (b.num.natAbs*2^120 / b.den) 1 w h h' (szb0.fin (by omega)) (Sz.one.fin (by omega))
 have hRo:=fun v w h=>root_any v (a.num.natAbs*2^120 / a.den) w h (sza.more (by omega))
 have hUp:=fun v w h=>rootup_any v (b.num.natAbs*2^120 / b.den+1) w h (szb.more (by omega))
 obtain⟨P,hP⟩:∃P,P=2^120:=⟨_,rfl⟩
 rw[←hP] at hU1 hU2 hD1 hD2 hr sza szb HFL HCL hAd hRo hUp
 clear sa sb sxa sxb szb0 h hP
 generalize a.num.natAbs*P / a.den=fa at *
 generalize b.num.natAbs*P / b.den=fb at *
 generalize b.num.natAbs*P % b.den=rb at *
 generalize a.num.natAbs*P=xa at *
 generalize b.num.natAbs*P=xb at *
 obtain⟨g,Y1,hA,hR,hB,hgw,EY⟩:=boxes2 w 46 #[.bool false,.slice A1 L1 C1,.slice D1 M1 E1,.bool s2,.slice A2 L2 C2,.slice D2 M2 E2] 46 #[.bool false,.slice none 0 0,.slice none 0 0,.bool false,.slice none 0 0,.slice none 0 0]
 replace q1:=q1.b hB
 replace q2:=q2.b hB
 obtain⟨c0,c1,c2,c3,c4,c5⟩:=hA.q6
 obtain⟨c6,c7,c8,c9,c10,c11⟩:=hR.q6
 go_enter Tryz.func85,Tryz.ntmps85
 go_wp2_with fail
 rw[←EY.out.2,←EY.out.1]
 refine (hG _).mono ?_
 rintro e w2 ⟨rfl,rfl⟩
 have n1:=q1.parts.2.2
 have n2:=q2.parts.2.2
 go_upto_region 3 with fail
 replace hB:=hB.drew
 replace q1:=q1.b (bdrew _)
 replace q2:=q2.b (bdrew _)
 replace hA:=hA.drew
 replace hR:=hR.drew
 replace n1:=n1.b (bdrew _)
 replace n2:=n2.b (bdrew _)
 clear c0 c1 c2 c3 c4 c5 c6 c7 c8 c9 c10 c11
 refine wp_region_noPanic ?_
 refine wp_region_held_drew (S:=fun w'=>w'.cell? ⟨g,0,none⟩=some (.bool false)∧w'.cell? ⟨g,1,none⟩=some (.slice A1 L1 C1)∧w'.cell? ⟨g,2,none⟩=some (.slice D1 M1 E1)∧w'.cell? ⟨g,3,none⟩=some (.bool s2)∧w'.cell? ⟨g,4,none⟩=some (.slice A2 L2 C2)∧w'.cell? ⟨g,5,none⟩=some (.slice D2 M2 E2)) (by kernel_rfl) ?_ (fun hHeld=>?_)
 ·exact⟨hA.cell 0,hA.cell 1,hA.cell 2,hA.cell 3,hA.cell 4,hA.cell 5⟩
 obtain⟨wd3_1,hwd⟩:∃q,q=Y1.drew:=⟨_,rfl⟩
 rw[←hwd] at hB q1 q2 hA hR n1 n2 hHeld ⊢
 clear hwd
 refine tkA 0 rfl ?_
 refine tkA 1 rfl ?_
 refine tkA 2 rfl ?_
 refine tkA 4 rfl ?_
 refine tkA 5 rfl ?_
 refine tkA 6 rfl ?_
 try simp only[Act.put,lay]
 refine rd1 3 rfl fun K hK=>?_
 go_simp
 refine (hU1 _ q1).mono ?_
 rintro e u3_1 ⟨v3,rfl,n3,b3_1⟩
 replace q1:=q1.b b3_1
 replace q2:=q2.b b3_1
 replace hA:=hA.b b3_1
 replace hR:=hR.b b3_1
 replace n1:=n1.b b3_1
 replace n2:=n2.b b3_1
 replace hB:=bOn hB b3_1
 go_wp2_with fail
 refine hK.out _ _ ?_ fun hHeld=>?_
 ·exact⟨hA.cell 0,hA.cell 1,hA.cell 2,hA.cell 3,hA.cell 4,hA.cell 5⟩
 clear hK K
 try simp only[Act.put,lay]
 refine rd1 7 rfl fun K hK=>?_
 go_simp
 refine (hD1 _ _ n3 n1).mono ?_
 rintro e u3_2 ⟨v4,v5,rfl,n4, -, -,b3_2⟩
 replace q1:=q1.b b3_2
 replace q2:=q2.b b3_2
 replace hA:=hA.b b3_2
 replace hR:=hR.b b3_2
 replace n1:=n1.b b3_2
 replace n2:=n2.b b3_2
 replace n3:=n3.b b3_2
 replace hB:=bOn hB b3_2
 go_wp2_with fail
 refine hK.out _ _ ?_ fun hHeld=>?_
 ·exact⟨hA.cell 0,hA.cell 1,hA.cell 2,hA.cell 3,hA.cell 4,hA.cell 5⟩
 clear hK K
 refine tkA 8 rfl ?_
 refine tkA 9 rfl ?_
 refine tkA 10 rfl ?_
 refine tkA 11 rfl ?_
 refine tkA 12 rfl ?_
 refine tkA 13 rfl ?_
 refine tkA 14 rfl ?_
 try simp only[Act.put,lay]
 try dsimp only
 try simp only[Act.put,lay]
 refine wpAnyH_done (by kernel_rfl) ?_ _
 refine NoPanic.normal ?_
 skip
 obtain⟨c12,c13,c14,c15,c16,c17⟩:=hA.q6
 obtain⟨c18,c19,c20,c21,c22,c23⟩:=hR.q6
 go_upto_region 4 with fail
 replace hB:=hB.drew
 replace q2:=q2.b (bdrew _)
 replace hA:=hA.drew
 replace hR:=hR.drew
 replace n2:=n2.b (bdrew _)
 replace n4:=n4.b (bdrew _)
 clear c12 c13 c14 c15 c16 c17 c18 c19 c20 c21 c22 c23
 refine wp_region_noPanic ?_
 refine wp_region_held_drew (S:=fun w'=>w'.cell? ⟨g,0,none⟩=some (.bool false)∧w'.cell? ⟨g,1,none⟩=some (.slice A1 L1 C1)∧w'.cell? ⟨g,2,none⟩=some (.slice D1 M1 E1)∧w'.cell? ⟨g,3,none⟩=some (.bool s2)∧w'.cell? ⟨g,4,none⟩=some (.slice A2 L2 C2)∧w'.cell? ⟨g,5,none⟩=some (.slice D2 M2 E2)) (by kernel_rfl) ?_ (fun hHeld=>?_)
 ·exact⟨hA.cell 0,hA.cell 1,hA.cell 2,hA.cell 3,hA.cell 4,hA.cell 5⟩
 obtain⟨wd4_2,hwd⟩:∃q,q=u3_2.drew:=⟨_,rfl⟩
 rw[←hwd] at hB q2 hA hR n2 n4 hHeld ⊢
 clear hwd
 refine tkA 0 rfl ?_
 refine tkA 1 rfl ?_
 refine tkA 2 rfl ?_
 refine tkA 4 rfl ?_
 refine tkA 5 rfl ?_
 refine tkA 6 rfl ?_
 try simp only[Act.put,lay]
 refine rd1 3 rfl fun K hK=>?_
 go_simp
 refine (hU2 _ q2).mono ?_
 rintro e u4_1 ⟨v6,rfl,n6,b4_1⟩
 replace q2:=q2.b b4_1
 replace hA:=hA.b b4_1
 replace hR:=hR.b b4_1
 replace n2:=n2.b b4_1
 replace n4:=n4.b b4_1
 replace hB:=bOn hB b4_1
 go_wp2_with fail
 refine hK.out _ _ ?_ fun hHeld=>?_
 ·exact⟨hA.cell 0,hA.cell 1,hA.cell 2,hA.cell 3,hA.cell 4,hA.cell 5⟩
 clear hK K
 try simp only[Act.put,lay]
 refine rd1 7 rfl fun K hK=>?_
 go_simp
 refine (hD2 _ _ n6 n2).mono ?_
 rintro e u4_2 ⟨v7,v8,rfl,n7,n8, -,b4_2⟩
 replace q2:=q2.b b4_2
 replace hA:=hA.b b4_2
 replace hR:=hR.b b4_2
 replace n2:=n2.b b4_2
 replace n4:=n4.b b4_2
 replace n6:=n6.b b4_2
 replace hB:=bOn hB b4_2
 go_wp2_with fail
 refine hK.out _ _ ?_ fun hHeld=>?_
 ·exact⟨hA.cell 0,hA.cell 1,hA.cell 2,hA.cell 3,hA.cell 4,hA.cell 5⟩
 clear hK K
 refine tkA 8 rfl ?_
 refine tkA 9 rfl ?_
 refine tkA 10 rfl ?_
 refine tkA 11 rfl ?_
 refine tkA 12 rfl ?_
 refine tkA 13 rfl ?_
 refine tkA 14 rfl ?_
 try simp only[Act.put,lay]
 try dsimp only
 try simp only[Act.put,lay]
 refine wpAnyH_done (by kernel_rfl) ?_ _
 refine NoPanic.normal ?_
 skip
 obtain⟨c24,c25,c26,c27,c28,c29⟩:=hA.q6
 obtain⟨c30,c31,c32,c33,c34,c35⟩:=hR.q6
 obtain⟨A8,L8,C8,rfl,n8⟩:=n8.opn
 have hL8:L8=(limbs rb).length:=by
  obtain⟨A',c',e,_⟩:=n8
  injection e with _ e2
 have hL8':0<L8:=by
  rcases Nat.eq_zero_or_pos L8 with h | h
  ·rw[h] at hL8
   have h1:=List.eq_nil_of_length_eq_zero hL8.symm
   have h2:=num_limbs rb
   rw[h1] at h2
   exact absurd h2.symm hr
  ·exact h
 have l1:decide ((0:Int)<(L8:Int))=true:=decide_eq_true (by omega)
 have l2:decide (0<L8)=true:=decide_eq_true hL8'
 clear hL8 hL8'
 go_wp2_with fail
 refine (hO _).mono ?_
 rintro e w7 ⟨v9,rfl,n9,b7⟩
 replace hA:=hA.b b7
 replace hR:=hR.b b7
 replace n4:=n4.b b7
 replace n7:=n7.b b7
 replace hB:=bOn hB b7
 clear c24 c25 c26 c27 c28 c29 c30 c31 c32 c33 c34 c35
 obtain⟨c36,c37,c38,c39,c40,c41⟩:=hA.q6
 obtain⟨c42,c43,c44,c45,c46,c47⟩:=hR.q6
 go_wp2_with fail
 refine (hAd _ _ _ n7 n9).mono ?_
 rintro e w9 ⟨v10,rfl,n10,b9⟩
 replace hA:=hA.b b9
 replace hR:=hR.b b9
 replace n4:=n4.b b9
 replace n7:=n7.b b9
 replace n9:=n9.b b9
 replace hB:=bOn hB b9
 clear c36 c37 c38 c39 c40 c41 c42 c43 c44 c45 c46 c47
 obtain⟨c48,c49,c50,c51,c52,c53⟩:=hA.q6
 obtain⟨c54,c55,c56,c57,c58,c59⟩:=hR.q6
 go_wp2_with fail
 refine (hRo _ _ n4).mono ?_
 rintro e w11 ⟨r,v11,rfl,n11,hr1,b11⟩
 replace hA:=hA.b b11
 replace hR:=hR.b b11
 replace n4:=n4.b b11
 replace n10:=n10.b b11
 replace hB:=bOn hB b11
 clear c48 c49 c50 c51 c52 c53 c54 c55 c56 c57 c58 c59
 obtain⟨c60,c61,c62,c63,c64,c65⟩:=hA.q6
 obtain⟨c66,c67,c68,c69,c70,c71⟩:=hR.q6
 obtain⟨A11,L11,C11,rfl,n11⟩:=n11.opn
 go_wp2_with fail
 refine (hUp _ _ n10).mono ?_
 rintro e w13 ⟨t,v12,rfl,n12,hr2,b13⟩
 replace hA:=hA.b b13
 replace hR:=hR.b b13
 replace n10:=n10.b b13
 replace n11:=n11.b b13
 replace hB:=bOn hB b13
 clear c60 c61 c62 c63 c64 c65 c66 c67 c68 c69 c70 c71
 obtain⟨c72,c73,c74,c75,c76,c77⟩:=hA.q6
 obtain⟨c78,c79,c80,c81,c82,c83⟩:=hR.q6
 obtain⟨A12,L12,C12,rfl,n12⟩:=n12.opn
 have st:Sz (rtUp (fb+1) t) 700:=by
  have h1:=hr2.le
  have h2:Sz (t+1) 700:=((szb.le h1).add Sz.one).more (by omega)
  refine h2.le ?_
  unfold rtUp;split<;>omega
 have sr:Sz r 700:=(sza.le hr1.le).more (by omega)
 have hBt:=fun u v w h h'=>pbetween_any u v (r:Int) (rtUp (fb+1) t:Int) w h h' (by simpa using sr.more (by omega)) (by simpa using st.more (by omega))
 generalize hru:rtUp (fb+1) t=ru at *
 have HRU:=Lib.hid hru
 clear hru st sr
 go_wp2_with fail
 refine (hBt _ _ _ (zN n11) (zN n12)).mono ?_
 rintro e w15 ⟨v13,rfl,h13,b15⟩
 replace hA:=hA.b b15
 replace hR:=hR.b b15
 replace n11:=n11.b b15
 replace n12:=n12.b b15
 replace hB:=bOn hB b15
 clear c72 c73 c74 c75 c76 c77 c78 c79 c80 c81 c82 c83
 obtain⟨c84,c85,c86,c87,c88,c89⟩:=hA.q6
 obtain⟨c90,c91,c92,c93,c94,c95⟩:=hR.q6
 obtain⟨s13,A13,L13,C13,D13,M13,E13,s14,A14,L14,C14,D14,M14,E14,rfl,q13,q14⟩:=h13.opn
 generalize hz1:mkRat (r:Int) (2^60)=z1 at *
 generalize hz2:mkRat (ru:Int) (2^60)=z2 at *
 have HZ:=Lib.hid (And.intro hz1 hz2)
 clear hz1 hz2 hBt
 obtain⟨p1,p2,p3⟩:=put6 hR (.bool s13) (.slice A13 L13 C13) (.slice D13 M13 E13) (.bool s14) (.slice A14 L14 C14) (.slice D14 M14 E14) (by simp[noU]) hB (by omega)
 have rc0:World.cell? _ ⟨g+1,0,none⟩=some (.bool false):=hR.cell 0
 have rf0:=hR.frozen 0
 have rc1:World.cell? _ ⟨g+1,1,none⟩=some (.slice none 0 0):=hR.cell 1
 have rf1:=hR.frozen 1
 have rc2:World.cell? _ ⟨g+1,2,none⟩=some (.slice none 0 0):=hR.cell 2
 have rf2:=hR.frozen 2
 have rc3:World.cell? _ ⟨g+1,3,none⟩=some (.bool false):=hR.cell 3
 have rf3:=hR.frozen 3
 have rc4:World.cell? _ ⟨g+1,4,none⟩=some (.slice none 0 0):=hR.cell 4
 have rf4:=hR.frozen 4
 have rc5:World.cell? _ ⟨g+1,5,none⟩=some (.slice none 0 0):=hR.cell 5
 have rf5:=hR.frozen 5
 have P:=Lib.hid (And.intro (⟨_,_,_,_,_,_,rfl,q13.kept p2,q14.kept p2⟩:IsS _ _ z1 z2) (And.intro p3 p1.cells6))
 clear p1 p2 p3
 go_wp2_with fail
 obtain⟨P1,P2,P3,P4,P5,P6,P7,P8⟩:=P.out
 exact bodyPost_ret (v:= .tuple #[.agg #[.bool s13,.slice A13 L13 C13,.slice D13 M13 E13,.bool s14,.slice A14 L14 C14,.slice D14 M14 E14],.int .i64 0]) (by simp[results,Tryz.results85,go_sem,P3,P4,P5,P6,P7,P8]) rfl ⟨r,t,_,rfl,by rw[HCL.out,HRU.out,HZ.out.1,HZ.out.2];exact P1,by rw[HFL.out];exact hr1,by rw[HCL.out];exact hr2,P2⟩
theorem psqrt_none (v:Value) (a b:Rat) (w:World) (h:IsS w v a b) (sa:BQ a 500) (sb:BQ b 500) (na:¬a.num<0) (hr:b.num.natAbs*2^120 % b.den=0):
 Calls Tryz.prog 85 #[v,.int .i64 60] w fun e w'=>∃r t v',e= .returned (.tuple #[v',.int .i64 0])∧IsS w' v' (mkRat (r:Nat) (2^60)) (mkRat (rtUp (clN b) t:Nat) (2^60))∧IsRt (flN a) r∧IsRt (clN b) t∧Below w.heap.size w w':=by
 obtain⟨s1,A1,L1,C1,D1,M1,E1,s2,A2,L2,C2,D2,M2,E2,rfl,q1,q2⟩:=h.opn
 obtain rfl:s1=false:=by rw[q1.parts.1];exact decide_eq_false na
 have hG:=fun w=>pgrid60 w
 have hU1:=fun w h=>pup_any (.agg #[.bool false,.slice A1 L1 C1,.slice D1 M1 E1]) a w h (sa.more (by omega))
 have sxa:Sz (a.num.natAbs*2^120) 502:=(sa.1.mul (Sz.two_pow 120)).more (by omega)
 have sxb:Sz (b.num.natAbs*2^120) 502:=(sb.1.mul (Sz.two_pow 120)).more (by omega)
 have hD1:=fun u w h h'=>dm_any u (.slice D1 M1 E1) (a.num.natAbs*2^120) a.den a.den_pos w h h' (sxa.fin (by omega))
 have hU2:=fun w h=>pup_any (.agg #[.bool s2,.slice A2 L2 C2,.slice D2 M2 E2]) b w h (sb.more (by omega))
 have hD2:=fun u w h h'=>dm_any u (.slice D2 M2 E2) (b.num.natAbs*2^120) b.den b.den_pos w h h' (sxb.fin (by omega))
 have hO:=fun w=>of_any 1 (by unfold W64;omega) w
 rw[show ((1:Nat):Int)=1 from rfl] at hO
 have sza:Sz (a.num.natAbs*2^120 / a.den) 510:=(sz_flN sa).more (by omega)
 have szb0:Sz (b.num.natAbs*2^120 / b.den) 510:=(sz_flN sb).more (by omega)
 have HFL:=Lib.hid (show flN a=a.num.natAbs*2^120 / a.den from rfl)
 have HCL:=Lib.hid (show clN b=b.num.natAbs*2^120 / b.den by unfold clN;rw[if_pos hr,Nat.add_zero])
 have szb:Sz (b.num.natAbs*2^120 / b.den) 520:=szb0.more (by omega)
 have hAd:=fun u v w h h'=>add_any u v (b.num.natAbs*2^120 / b.den) 1 w h h' (szb0.fin (by omega)) (Sz.one.fin (by omega))
 have hRo:=fun v w h=>root_any v (a.num.natAbs*2^120 / a.den) w h (sza.more (by omega))
 have hUp:=fun v w h=>rootup_any v (b.num.natAbs*2^120 / b.den) w h (szb.more (by omega))
 obtain⟨P,hP⟩:∃P,P=2^120:=⟨_,rfl⟩
 rw[←hP] at hU1 hU2 hD1 hD2 hr sza szb HFL HCL hAd hRo hUp
 clear sa sb sxa sxb szb0 h hP
 generalize a.num.natAbs*P / a.den=fa at *
 generalize b.num.natAbs*P / b.den=fb at *
 generalize b.num.natAbs*P % b.den=rb at *
 generalize a.num.natAbs*P=xa at *
 generalize b.num.natAbs*P=xb at *
 obtain⟨g,Y1,hA,hR,hB,hgw,EY⟩:=boxes2 w 46 #[.bool false,.slice A1 L1 C1,.slice D1 M1 E1,.bool s2,.slice A2 L2 C2,.slice D2 M2 E2] 46 #[.bool false,.slice none 0 0,.slice none 0 0,.bool false,.slice none 0 0,.slice none 0 0]
 replace q1:=q1.b hB
 replace q2:=q2.b hB
 obtain⟨c0,c1,c2,c3,c4,c5⟩:=hA.q6
 obtain⟨c6,c7,c8,c9,c10,c11⟩:=hR.q6
 go_enter Tryz.func85,Tryz.ntmps85
 go_wp2_with fail
 rw[←EY.out.2,←EY.out.1]
 refine (hG _).mono ?_
 rintro e w2 ⟨rfl,rfl⟩
 have n1:=q1.parts.2.2
 have n2:=q2.parts.2.2
 go_upto_region 3 with fail
 replace hB:=hB.drew
 replace q1:=q1.b (bdrew _)
 replace q2:=q2.b (bdrew _)
 replace hA:=hA.drew
 replace hR:=hR.drew
 replace n1:=n1.b (bdrew _)
 replace n2:=n2.b (bdrew _)
 clear c0 c1 c2 c3 c4 c5 c6 c7 c8 c9 c10 c11
 refine wp_region_noPanic ?_
 refine wp_region_held_drew (S:=fun w'=>w'.cell? ⟨g,0,none⟩=some (.bool false)∧w'.cell? ⟨g,1,none⟩=some (.slice A1 L1 C1)∧w'.cell? ⟨g,2,none⟩=some (.slice D1 M1 E1)∧w'.cell? ⟨g,3,none⟩=some (.bool s2)∧w'.cell? ⟨g,4,none⟩=some (.slice A2 L2 C2)∧w'.cell? ⟨g,5,none⟩=some (.slice D2 M2 E2)) (by kernel_rfl) ?_ (fun hHeld=>?_)
 ·exact⟨hA.cell 0,hA.cell 1,hA.cell 2,hA.cell 3,hA.cell 4,hA.cell 5⟩
 obtain⟨wd3_1,hwd⟩:∃q,q=Y1.drew:=⟨_,rfl⟩
 rw[←hwd] at hB q1 q2 hA hR n1 n2 hHeld ⊢
 clear hwd
 refine tkA 0 rfl ?_
 refine tkA 1 rfl ?_
 refine tkA 2 rfl ?_
 refine tkA 4 rfl ?_
 refine tkA 5 rfl ?_
 refine tkA 6 rfl ?_
 try simp only[Act.put,lay]
 refine rd1 3 rfl fun K hK=>?_
 go_simp
 refine (hU1 _ q1).mono ?_
 rintro e u3_1 ⟨v3,rfl,n3,b3_1⟩
 replace q1:=q1.b b3_1
 replace q2:=q2.b b3_1
 replace hA:=hA.b b3_1
 replace hR:=hR.b b3_1
 replace n1:=n1.b b3_1
 replace n2:=n2.b b3_1
 replace hB:=bOn hB b3_1
 go_wp2_with fail
 refine hK.out _ _ ?_ fun hHeld=>?_
 ·exact⟨hA.cell 0,hA.cell 1,hA.cell 2,hA.cell 3,hA.cell 4,hA.cell 5⟩
 clear hK K
 try simp only[Act.put,lay]
 refine rd1 7 rfl fun K hK=>?_
 go_simp
 refine (hD1 _ _ n3 n1).mono ?_
 rintro e u3_2 ⟨v4,v5,rfl,n4, -, -,b3_2⟩
 replace q1:=q1.b b3_2
 replace q2:=q2.b b3_2
 replace hA:=hA.b b3_2
 replace hR:=hR.b b3_2
 replace n1:=n1.b b3_2
 replace n2:=n2.b b3_2
 replace n3:=n3.b b3_2
 replace hB:=bOn hB b3_2
 go_wp2_with fail
 refine hK.out _ _ ?_ fun hHeld=>?_
 ·exact⟨hA.cell 0,hA.cell 1,hA.cell 2,hA.cell 3,hA.cell 4,hA.cell 5⟩
 clear hK K
 refine tkA 8 rfl ?_
 refine tkA 9 rfl ?_
 refine tkA 10 rfl ?_
 refine tkA 11 rfl ?_
 refine tkA 12 rfl ?_
 refine tkA 13 rfl ?_
 refine tkA 14 rfl ?_
 try simp only[Act.put,lay]
 try dsimp only
 try simp only[Act.put,lay]
 refine wpAnyH_done (by kernel_rfl) ?_ _
 refine NoPanic.normal ?_
 skip
 obtain⟨c12,c13,c14,c15,c16,c17⟩:=hA.q6
 obtain⟨c18,c19,c20,c21,c22,c23⟩:=hR.q6
 go_upto_region 4 with fail
 replace hB:=hB.drew
 replace q2:=q2.b (bdrew _)
 replace hA:=hA.drew
 replace hR:=hR.drew
 replace n2:=n2.b (bdrew _)
 replace n4:=n4.b (bdrew _)
 clear c12 c13 c14 c15 c16 c17 c18 c19 c20 c21 c22 c23
 refine wp_region_noPanic ?_
 refine wp_region_held_drew (S:=fun w'=>w'.cell? ⟨g,0,none⟩=some (.bool false)∧w'.cell? ⟨g,1,none⟩=some (.slice A1 L1 C1)∧w'.cell? ⟨g,2,none⟩=some (.slice D1 M1 E1)∧w'.cell? ⟨g,3,none⟩=some (.bool s2)∧w'.cell? ⟨g,4,none⟩=some (.slice A2 L2 C2)∧w'.cell? ⟨g,5,none⟩=some (.slice D2 M2 E2)) (by kernel_rfl) ?_ (fun hHeld=>?_)
 ·exact⟨hA.cell 0,hA.cell 1,hA.cell 2,hA.cell 3,hA.cell 4,hA.cell 5⟩
 obtain⟨wd4_2,hwd⟩:∃q,q=u3_2.drew:=⟨_,rfl⟩
 rw[←hwd] at hB q2 hA hR n2 n4 hHeld ⊢
 clear hwd
 refine tkA 0 rfl ?_
 refine tkA 1 rfl ?_
 refine tkA 2 rfl ?_
 refine tkA 4 rfl ?_
 refine tkA 5 rfl ?_
 refine tkA 6 rfl ?_
 try simp only[Act.put,lay]
 refine rd1 3 rfl fun K hK=>?_
 go_simp
 refine (hU2 _ q2).mono ?_
 rintro e u4_1 ⟨v6,rfl,n6,b4_1⟩
 replace q2:=q2.b b4_1
 replace hA:=hA.b b4_1
 replace hR:=hR.b b4_1
 replace n2:=n2.b b4_1
 replace n4:=n4.b b4_1
 replace hB:=bOn hB b4_1
 go_wp2_with fail
 refine hK.out _ _ ?_ fun hHeld=>?_
 ·exact⟨hA.cell 0,hA.cell 1,hA.cell 2,hA.cell 3,hA.cell 4,hA.cell 5⟩
 clear hK K
 try simp only[Act.put,lay]
 refine rd1 7 rfl fun K hK=>?_
 go_simp
 refine (hD2 _ _ n6 n2).mono ?_
 rintro e u4_2 ⟨v7,v8,rfl,n7,n8, -,b4_2⟩
 replace q2:=q2.b b4_2
 replace hA:=hA.b b4_2
 replace hR:=hR.b b4_2
 replace n2:=n2.b b4_2
 replace n4:=n4.b b4_2
 replace n6:=n6.b b4_2
 replace hB:=bOn hB b4_2
 go_wp2_with fail
 refine hK.out _ _ ?_ fun hHeld=>?_
 ·exact⟨hA.cell 0,hA.cell 1,hA.cell 2,hA.cell 3,hA.cell 4,hA.cell 5⟩
 clear hK K
 refine tkA 8 rfl ?_
 refine tkA 9 rfl ?_
 refine tkA 10 rfl ?_
 refine tkA 11 rfl ?_
 refine tkA 12 rfl ?_
 refine tkA 13 rfl ?_
 refine tkA 14 rfl ?_
 try simp only[Act.put,lay]
 try dsimp only
 try simp only[Act.put,lay]
 refine wpAnyH_done (by kernel_rfl) ?_ _
 refine NoPanic.normal ?_
 skip
 obtain⟨c24,c25,c26,c27,c28,c29⟩:=hA.q6
 obtain⟨c30,c31,c32,c33,c34,c35⟩:=hR.q6
 obtain⟨A8,L8,C8,rfl,n8⟩:=n8.opn
 have hL8:L8=(limbs rb).length:=by
  obtain⟨A',c',e,_⟩:=n8
  injection e with _ e2
 rw[hr,limbs_zero] at hL8
 have hL8':L8=0:=hL8
 have l1:decide ((0:Int)<(L8:Int))=false:=decide_eq_false (by omega)
 have l2:decide (0<L8)=false:=decide_eq_false (by omega)
 clear hL8 hL8'
 go_wp2_with fail
 refine (hRo _ _ n4).mono ?_
 rintro e w7 ⟨r,v11,rfl,n11,hr1,b7⟩
 replace hA:=hA.b b7
 replace hR:=hR.b b7
 replace n4:=n4.b b7
 replace n7:=n7.b b7
 replace hB:=bOn hB b7
 clear c24 c25 c26 c27 c28 c29 c30 c31 c32 c33 c34 c35
 obtain⟨c36,c37,c38,c39,c40,c41⟩:=hA.q6
 obtain⟨c42,c43,c44,c45,c46,c47⟩:=hR.q6
 obtain⟨A11,L11,C11,rfl,n11⟩:=n11.opn
 go_wp2_with fail
 refine (hUp _ _ n7).mono ?_
 rintro e w9 ⟨t,v12,rfl,n12,hr2,b9⟩
 replace hA:=hA.b b9
 replace hR:=hR.b b9
 replace n7:=n7.b b9
 replace n11:=n11.b b9
 replace hB:=bOn hB b9
 clear c36 c37 c38 c39 c40 c41 c42 c43 c44 c45 c46 c47
 obtain⟨c48,c49,c50,c51,c52,c53⟩:=hA.q6
 obtain⟨c54,c55,c56,c57,c58,c59⟩:=hR.q6
 obtain⟨A12,L12,C12,rfl,n12⟩:=n12.opn
 have st:Sz (rtUp (fb) t) 700:=by
  have h1:=hr2.le
  have h2:Sz (t+1) 700:=((szb.le h1).add Sz.one).more (by omega)
  refine h2.le ?_
  unfold rtUp;split<;>omega
 have sr:Sz r 700:=(sza.le hr1.le).more (by omega)
 have hBt:=fun u v w h h'=>pbetween_any u v (r:Int) (rtUp (fb) t:Int) w h h' (by simpa using sr.more (by omega)) (by simpa using st.more (by omega))
 generalize hru:rtUp (fb) t=ru at *
 have HRU:=Lib.hid hru
 clear hru st sr
 go_wp2_with fail
 refine (hBt _ _ _ (zN n11) (zN n12)).mono ?_
 rintro e w11 ⟨v13,rfl,h13,b11⟩
 replace hA:=hA.b b11
 replace hR:=hR.b b11
 replace n11:=n11.b b11
 replace n12:=n12.b b11
 replace hB:=bOn hB b11
 clear c48 c49 c50 c51 c52 c53 c54 c55 c56 c57 c58 c59
 obtain⟨c60,c61,c62,c63,c64,c65⟩:=hA.q6
 obtain⟨c66,c67,c68,c69,c70,c71⟩:=hR.q6
 obtain⟨s13,A13,L13,C13,D13,M13,E13,s14,A14,L14,C14,D14,M14,E14,rfl,q13,q14⟩:=h13.opn
 generalize hz1:mkRat (r:Int) (2^60)=z1 at *
 generalize hz2:mkRat (ru:Int) (2^60)=z2 at *
 have HZ:=Lib.hid (And.intro hz1 hz2)
 clear hz1 hz2 hBt
 obtain⟨p1,p2,p3⟩:=put6 hR (.bool s13) (.slice A13 L13 C13) (.slice D13 M13 E13) (.bool s14) (.slice A14 L14 C14) (.slice D14 M14 E14) (by simp[noU]) hB (by omega)
 have rc0:World.cell? _ ⟨g+1,0,none⟩=some (.bool false):=hR.cell 0
 have rf0:=hR.frozen 0
 have rc1:World.cell? _ ⟨g+1,1,none⟩=some (.slice none 0 0):=hR.cell 1
 have rf1:=hR.frozen 1
 have rc2:World.cell? _ ⟨g+1,2,none⟩=some (.slice none 0 0):=hR.cell 2
 have rf2:=hR.frozen 2
 have rc3:World.cell? _ ⟨g+1,3,none⟩=some (.bool false):=hR.cell 3
 have rf3:=hR.frozen 3
 have rc4:World.cell? _ ⟨g+1,4,none⟩=some (.slice none 0 0):=hR.cell 4
 have rf4:=hR.frozen 4
 have rc5:World.cell? _ ⟨g+1,5,none⟩=some (.slice none 0 0):=hR.cell 5
 have rf5:=hR.frozen 5
 have P:=Lib.hid (And.intro (⟨_,_,_,_,_,_,rfl,q13.kept p2,q14.kept p2⟩:IsS _ _ z1 z2) (And.intro p3 p1.cells6))
 clear p1 p2 p3
 go_wp2_with fail
 obtain⟨P1,P2,P3,P4,P5,P6,P7,P8⟩:=P.out
 exact bodyPost_ret (v:= .tuple #[.agg #[.bool s13,.slice A13 L13 C13,.slice D13 M13 E13,.bool s14,.slice A14 L14 C14,.slice D14 M14 E14],.int .i64 0]) (by simp[results,Tryz.results85,go_sem,P3,P4,P5,P6,P7,P8]) rfl ⟨r,t,_,rfl,by rw[HCL.out,HRU.out,HZ.out.1,HZ.out.2];exact P1,by rw[HFL.out];exact hr1,by rw[HCL.out];exact hr2,P2⟩
theorem psqrt_any (v:Value) (a b:Rat) (w:World) (h:IsS w v a b) (sa:BQ a 500) (sb:BQ b 500) (na:¬a.num<0):
 Calls Tryz.prog 85 #[v,.int .i64 60] w fun e w'=>∃r t v',e= .returned (.tuple #[v',.int .i64 0])∧IsS w' v' (mkRat (r:Nat) (2^60)) (mkRat (rtUp (clN b) t:Nat) (2^60))∧IsRt (flN a) r∧IsRt (clN b) t∧Below w.heap.size w w':=by
 by_cases hr:b.num.natAbs*2^120 % b.den=0
 ·exact psqrt_none v a b w h sa sb na hr
 ·exact psqrt_some v a b w h sa sb na hr
end Go.Proofs.YtdnjdglekifhpaaGreat
namespace Go.Proofs.YtdnjdglekifhpaaGreat
theorem rt_ex:∀a:Nat,∃r,IsRt a r
 | 0=>⟨0,by unfold IsRt;omega⟩
 | a + 1 => by
   obtain⟨r,h1,h2⟩:=rt_ex a
   by_cases h:(r+1)*(r+1)≤a+1
   ·refine ⟨r+1,h,?_⟩
    have :(r+1+1)*(r+1+1)=(r+1)*(r+1)+2*(r+1)+1:=by grind
    omega
   ·exact⟨r,by omega,by omega⟩
noncomputable def rootN (a:Nat):Nat:=(rt_ex a).choose
theorem rootN_is (a:Nat):IsRt a (rootN a):=(rt_ex a).choose_spec
noncomputable def sqLo (a:Rat):Rat:=mkRat (rootN (flN a):Nat) (2^60)
noncomputable def sqHi (b:Rat):Rat:=mkRat (rtUp (clN b) (rootN (clN b)):Nat) (2^60)
def divLo (a b c d:Rat):Rat:=mnTo (quo4 a b c d) 3
def divHi (a b c d:Rat):Rat:=mxTo (quo4 a b c d) 3
def mulLo (a b c d:Rat):Rat:=mnTo [a*c,a*d,b*c,b*d] 3
def mulHi (a b c d:Rat):Rat:=mxTo [a*c,a*d,b*c,b*d] 3
theorem four_all {P:Rat→Prop} {a b c d:Rat} (ha:P a) (hb:P b) (hc:P c) (hd:P d):P (mnTo [a,b,c,d] 3)∧P (mxTo [a,b,c,d] 3):=by
 have h:∀i,i<[a,b,c,d].length→P (qnt [a,b,c,d] i):=fun i hi=>by
  match i,hi with
  | 0,_=>exact ha
  | 1,_=>exact hb
  | 2,_=>exact hc
  | 3,_=>exact hd
 exact⟨mnTo_all h 3 (by simp),mxTo_all h 3 (by simp)⟩
theorem sz_div {a b c d:Rat} {k m:Nat} (sa:BQ a k) (sb:BQ b k) (sc:BQ c m) (sd:BQ d m):BQ (divLo a b c d) (k+m+1)∧BQ (divHi a b c d) (k+m+1):=
 four_all (P:=fun q=>BQ q (k+m+1)) (bq_div sa sc) (bq_div sa sd) (bq_div sb sc) (bq_div sb sd)
theorem sz_mul {a b c d:Rat} {k m:Nat} (sa:BQ a k) (sb:BQ b k) (sc:BQ c m) (sd:BQ d m):BQ (mulLo a b c d) (k+m+1)∧BQ (mulHi a b c d) (k+m+1):=
 four_all (P:=fun q=>BQ q (k+m+1)) (sa.mul sc) (sa.mul sd) (sb.mul sc) (sb.mul sd)
theorem sz60 {n k:Nat} (h:Sz n k) (hk:2≤k):BQ (mkRat (n:Int) (2^60)) k:=by
 have h1:Sz (2^60) k:=(Sz.two_pow 60).more (by omega)
 generalize 2^60=P at *
 exact BQ.mk (by rw[Int.natAbs_natCast];exact h) h1 (by omega)
theorem sz_sqLo {a:Rat} {k:Nat} (h:BQ a k):BQ (sqLo a) (k+2):=by
 unfold sqLo
 exact sz60 ((sz_flN h).le (rootN_is _).le) (by omega)
theorem sz_sqHi {a:Rat} {k:Nat} (h:BQ a k):BQ (sqHi a) (k+6):=by
 unfold sqHi
 refine sz60 ?_ (by omega)
 have h1:Sz (rootN (clN a)+1) (k+4+1+1):=((sz_clN h).le (rootN_is _).le).add Sz.one
 refine Sz.le (a:=rootN (clN a)+1) h1 ?_
 unfold rtUp;split<;>omega
theorem sqLo_nonneg (a:Rat):0≤sqLo a:=by unfold sqLo;exact man_nonneg 60 (by omega)
theorem sqHi_nonneg (a:Rat):0≤sqHi a:=by unfold sqHi;exact man_nonneg 60 (by omega)
theorem pow_in {x:Rat} (h0:0≤x) (h1:x≤1):∀n,0≤powQ x n∧powQ x n≤1
 | 0=>⟨(by decide+kernel:(0:Rat)≤1),Rat.le_refl⟩
 | n + 1 => by
   obtain⟨p0,p1⟩:=pow_in h0 h1 n
   refine ⟨Rat.mul_nonneg p0 h0,?_⟩
   have:=Rat.mul_le_mul_of_nonneg_right p1 h0
   unfold powQ
   rw[Rat.one_mul] at this
   exact Rat.le_trans this h1
theorem lack_pos {beta:Int} {k t:Nat} (h0:0≤beta) (h1:beta<((2^k:Nat):Int)) (ht:1≤t):0<1 - powQ (mkRat beta (2^k)) t:=by
 have hx0:=man_nonneg k h0
 have hx1:mkRat beta (2^k)<1:=by
  obtain⟨s1,s2⟩:=stepP k
  have h2:=mkP_mul beta k
  have hP:=powQ_pos k
  refine Rat.lt_of_mul_lt_mul_right (c:=((2^k:Nat):Rat)) ?_ (Rat.le_of_lt hP)
  rw[h2,Rat.one_mul]
  have h3:(beta:Rat)<(((2^k:Nat):Int):Rat):=by rw[Rat.intCast_lt_intCast];exact h1
  exact h3
 obtain⟨n,rfl⟩:∃n,t=n+1:=⟨t - 1,by omega⟩
 obtain⟨p0,p1⟩:=pow_in hx0 (Rat.le_of_lt hx1) n
 have h4:=Rat.mul_le_mul_of_nonneg_right p1 hx0
 rw[Rat.one_mul] at h4
 have h5:powQ (mkRat beta (2^k)) (n+1)≤mkRat beta (2^k):=h4
 generalize powQ (mkRat beta (2^k)) (n+1)=p at *
 generalize mkRat beta (2^k)=x at *
 grind
theorem pos_num {a:Rat} (h:0<a):a.num≠0:=fun e=>by
 rw[Rat.num_eq_zero] at e;rw[e] at h;exact absurd h (by decide)
theorem pos_has {c d:Rat} (h:0<c):(decide (cmpQ c 0≤0) && decide (cmpQ 0 d≤0))=false:=by
 rw[decide_eq_false (by rw[cmpQ_le_iff,Rat.not_le];exact h),Bool.false_and]
theorem div_nonneg {a b:Rat} (ha:0≤a) (hb:0<b):0≤divQ a b:=by
 rw[divQ_eq a b hb,Rat.div_def]
 refine Rat.mul_nonneg ha ?_
 exact Rat.le_of_lt (Rat.inv_pos.2 hb)
theorem add_posQ {a b:Rat} (ha:0≤a) (hb:0<b):0<a+b:=by grind
noncomputable def updLo (l1 l2 eps rate f0 f1 s0 s1:Rat):Rat:=
 mkRat (flr (mulLo rate rate (divLo (divLo f0 f1 l1 l1) (divHi f0 f1 l1 l1) (sqLo (divLo s0 s1 l2 l2)+eps) (sqHi (divHi s0 s1 l2 l2)+eps)) (divHi (divLo f0 f1 l1 l1) (divHi f0 f1 l1 l1) (sqLo (divLo s0 s1 l2 l2)+eps) (sqHi (divHi s0 s1 l2 l2)+eps))) 60) (2^60)
noncomputable def updHi (l1 l2 eps rate f0 f1 s0 s1:Rat):Rat:=
 mkRat (cel (mulHi rate rate (divLo (divLo f0 f1 l1 l1) (divHi f0 f1 l1 l1) (sqLo (divLo s0 s1 l2 l2)+eps) (sqHi (divHi s0 s1 l2 l2)+eps)) (divHi (divLo f0 f1 l1 l1) (divHi f0 f1 l1 l1) (sqLo (divLo s0 s1 l2 l2)+eps) (sqHi (divHi s0 s1 l2 l2)+eps))) 60) (2^60)
open Go.RowKit
attribute [local go_sem ↓] Go.wp_at_zero Go.wp_at_succ
theorem Blk.q12 {w:World} {G:Nat} {t:TypeId} {x0 x1 x2 x3 x4 x5 x6 x7 x8 x9 x10 x11:Value} (hb:Blk w G t #[x0,x1,x2,x3,x4,x5,x6,x7,x8,x9,x10,x11]):w.cell? ⟨G,0,none⟩=some x0∧w.cell? ⟨G,1,none⟩=some x1∧w.cell? ⟨G,2,none⟩=some x2∧w.cell? ⟨G,3,none⟩=some x3∧w.cell? ⟨G,4,none⟩=some x4∧w.cell? ⟨G,5,none⟩=some x5∧w.cell? ⟨G,6,none⟩=some x6∧w.cell? ⟨G,7,none⟩=some x7∧w.cell? ⟨G,8,none⟩=some x8∧w.cell? ⟨G,9,none⟩=some x9∧w.cell? ⟨G,10,none⟩=some x10∧w.cell? ⟨G,11,none⟩=some x11:=
 ⟨hb.cell 0,hb.cell 1,hb.cell 2,hb.cell 3,hb.cell 4,hb.cell 5,hb.cell 6,hb.cell 7,hb.cell 8,hb.cell 9,hb.cell 10,hb.cell 11⟩
theorem psqrt_fn (v:Value) (a b:Rat) (w:World) (h:IsS w v a b) (sa:BQ a 500) (sb:BQ b 500) (na:¬a.num<0):
 Calls Tryz.prog 85 #[v,.int .i64 60] w fun e w'=>∃v',e= .returned (.tuple #[v',.int .i64 0])∧IsS w' v' (sqLo a) (sqHi b)∧Below w.heap.size w w':=
 (psqrt_any v a b w h sa sb na).mono fun _ _ ⟨r, t, v', e, h1, h2, h3, hB⟩ => ⟨v', e, by
  rw[h2.uniq (rootN_is _),h3.uniq (rootN_is _)] at h1
  exact h1,hB⟩
theorem fillHead {w:World} {R:Nat} {t:TypeId} {a b c d e f:Value} (hR:Blk w R t #[a,b,c,d,e,f]) (x y z:Value) (hcs:(#[a,b,c,d,e,f]:Array Value).all noU=true):∃W,W=((w.setCell ⟨R,0,none⟩ x).setCell ⟨R,1,none⟩ y).setCell ⟨R,2,none⟩ z∧Filled w W R t #[x,y,z,d,e,f]:=
 ⟨_,rfl,by simpa using ((hR.set_ 0 x).set_ 1 y).set_ 2 z,fun v l h=>h.keepBlk hR hcs (fun k hk=>(Below.heap_setCell _ ⟨R,2,none⟩ z k hk).trans ((Below.heap_setCell _ ⟨R,1,none⟩ y k hk).trans (Below.heap_setCell w ⟨R,0,none⟩ x k hk))) (by simp[World.setCell]),fun g t' cs h hne=>((h.far (p:=⟨R,0,none⟩) hne x).far (p:=⟨R,1,none⟩) hne y).far (p:=⟨R,2,none⟩) hne z,fun B w0 hBR hB=>((hB.setCell (p:=⟨R,0,none⟩) hBR x).setCell (p:=⟨R,1,none⟩) hBR y).setCell (p:=⟨R,2,none⟩) hBR z⟩
end Go.Proofs.YtdnjdglekifhpaaGreat
namespace Go.Proofs.YtdnjdglekifhpaaGreat
theorem cmpQ_pos_iff (a b:Rat):0<cmpQ a b↔b<a:=by
 rw[←Rat.not_le,←cmpQ_le_iff]
 omega
theorem mn4 (x y z t:Rat):mnTo [x,y,z,t] 3=(if t<(if z<(if y<x then y else x) then z else (if y<x then y else x)) then t else (if z<(if y<x then y else x) then z else (if y<x then y else x))):=by
 have q0:qnt [x,y,z,t] 0=x:=rfl
 have q1:qnt [x,y,z,t] (0+1)=y:=rfl
 have q2:qnt [x,y,z,t] (1+1)=z:=rfl
 have q3:qnt [x,y,z,t] (2+1)=t:=rfl
 simp only[mnTo,q0,q1,q2,q3,cmpQ_lt_iff]
theorem mx4 (x y z t:Rat):mxTo [x,y,z,t] 3=(if (if (if x<y then y else x)<z then z else (if x<y then y else x))<t then t else (if (if x<y then y else x)<z then z else (if x<y then y else x))):=by
 have q0:qnt [x,y,z,t] 0=x:=rfl
 have q1:qnt [x,y,z,t] (0+1)=y:=rfl
 have q2:qnt [x,y,z,t] (1+1)=z:=rfl
 have q3:qnt [x,y,z,t] (2+1)=t:=rfl
 simp only[mxTo,q0,q1,q2,q3,cmpQ_pos_iff]
theorem mn4_swap (x y z t:Rat):mnTo [y,x,t,z] 3=mnTo [x,y,z,t] 3:=by
 rw[mn4,mn4]
 grind
theorem mx4_swap (x y z t:Rat):mxTo [y,x,t,z] 3=mxTo [x,y,z,t] 3:=by
 rw[mx4,mx4]
 grind
theorem mul_one_div {a d:Rat} (hd:0<d):a*divQ 1 d=divQ a d:=by
 rw[divQ_eq _ _ hd,divQ_eq _ _ hd,Rat.div_def,Rat.div_def,Rat.one_mul]
theorem rdiv_lo {a b c d:Rat} (hc:0<c) (hd:0<d):mnTo [a*divQ 1 d,a*divQ 1 c,b*divQ 1 d,b*divQ 1 c] 3=divLo a b c d:=by
 rw[mul_one_div hc,mul_one_div hd,mul_one_div hc,mul_one_div hd,mn4_swap]
 rfl
theorem rdiv_hi {a b c d:Rat} (hc:0<c) (hd:0<d):mxTo [a*divQ 1 d,a*divQ 1 c,b*divQ 1 d,b*divQ 1 c] 3=divHi a b c d:=by
 rw[mul_one_div hc,mul_one_div hd,mul_one_div hc,mul_one_div hd,mx4_swap]
 rfl
open Go.RowKit
attribute [local go_sem ↓] Go.wp_at_zero Go.wp_at_succ
theorem rivmul_any (u v:Value) (a b c d:Rat) (w:World) (h:IsS w u a b) (h':IsS w v c d) (sa:BQ a 4000) (sb:BQ b 4000) (sc:BQ c 4000) (sd:BQ d 4000):
 Calls Tryz.prog 96 #[u,v] w fun e w'=>∃v',e= .returned v'∧IsS w' v' (mnTo [a*c,a*d,b*c,b*d] 3) (mxTo [a*c,a*d,b*c,b*d] 3)∧Below w.heap.size w w':=by
 have hM1:=fun u v w h1 h2=>rqmul_any u v a c w h1 h2 (sa.more (by omega)) (sc.more (by omega))
 have hM2:=fun u v w h1 h2=>rqmul_any u v a d w h1 h2 (sa.more (by omega)) (sd.more (by omega))
 have hM3:=fun u v w h1 h2=>rqmul_any u v b c w h1 h2 (sb.more (by omega)) (sc.more (by omega))
 have hM4:=fun u v w h1 h2=>rqmul_any u v b d w h1 h2 (sb.more (by omega)) (sd.more (by omega))
 have hAr:=fun v w h=>raround_all v [a*c,a*d,b*c,b*d] w h (by simp) (fun i hi=>by
  rw[←qnt_at hi]
  match i,hi with
  | 0,_=>exact (sa.mul sc).more (by omega)
  | 1,_=>exact (sa.mul sd).more (by omega)
  | 2,_=>exact (sb.mul sc).more (by omega)
  | 3,_=>exact (sb.mul sd).more (by omega))
 rw[show [a*c,a*d,b*c,b*d].length - 1=3 from rfl] at hAr
 generalize mnTo [a*c,a*d,b*c,b*d] 3=rl at *
 generalize mxTo [a*c,a*d,b*c,b*d] 3=rh at *
 generalize a*c=r1 at *
 generalize a*d=r2 at *
 generalize b*c=r3 at *
 generalize b*d=r4 at *
 obtain⟨s1,A1,L1,C1,D1,M1,E1,s2,A2,L2,C2,D2,M2,E2,rfl,q1,q2⟩:=h.opn
 obtain⟨s3,A3,L3,C3,D3,M3,E3,s4,A4,L4,C4,D4,M4,E4,rfl,q3,q4⟩:=h'.opn
 clear h h' sa sb sc sd
 obtain⟨g,hg⟩:∃g,g=w.heap.size:=⟨_,rfl⟩
 obtain⟨Y0,eY0,hA,bY0⟩:=box1 w 46 #[.bool s1,.slice A1 L1 C1,.slice D1 M1 E1,.bool s2,.slice A2 L2 C2,.slice D2 M2 E2]
 have zY0:Y0.heap.size=g+1:=by rw[eY0,World.size_alloc,←hg]
 rw[←hg] at hA
 replace q1:=q1.b bY0
 replace q2:=q2.b bY0
 replace q3:=q3.b bY0
 replace q4:=q4.b bY0
 have hB:=bY0
 obtain⟨Y1,eY1,hC,bY1⟩:=box1 Y0 46 #[.bool s3,.slice A3 L3 C3,.slice D3 M3 E3,.bool s4,.slice A4 L4 C4,.slice D4 M4 E4]
 have zY1:Y1.heap.size=g+1+1:=by rw[eY1,World.size_alloc,zY0]
 rw[zY0] at hC
 replace hA:=hA.b bY1
 replace q1:=q1.b bY1
 replace q2:=q2.b bY1
 replace q3:=q3.b bY1
 replace q4:=q4.b bY1
 replace hB:=bOn hB bY1
 obtain⟨Y2,eY2,hR,bY2⟩:=box1 Y1 46 #[.bool false,.slice none 0 0,.slice none 0 0,.bool false,.slice none 0 0,.slice none 0 0]
 have zY2:Y2.heap.size=g+1+1+1:=by rw[eY2,World.size_alloc,zY1]
 rw[zY1] at hR
 replace hA:=hA.b bY2
 replace hC:=hC.b bY2
 replace q1:=q1.b bY2
 replace q2:=q2.b bY2
 replace q3:=q3.b bY2
 replace q4:=q4.b bY2
 replace hB:=bOn hB bY2
 have hgw:w.heap.size≤g:=by omega
 have EY:=Lib.hid (And.intro hg (And.intro eY0 (And.intro eY1 eY2)))
 clear hg eY0 zY0 eY1 zY1 eY2 zY2
 obtain⟨c0,c1,c2,c3,c4,c5⟩:=hA.q6
 obtain⟨c6,c7,c8,c9,c10,c11⟩:=hC.q6
 obtain⟨c12,c13,c14,c15,c16,c17⟩:=hR.q6
 go_enter Tryz.func96,Tryz.ntmps96
 go_upto_region 1 with fail
 rw[←EY.out.2.1,←EY.out.2.2.1,←EY.out.2.2.2,←EY.out.1]
 replace hB:=hB.drew
 replace q1:=q1.b (bdrew _)
 replace q2:=q2.b (bdrew _)
 replace q3:=q3.b (bdrew _)
 replace q4:=q4.b (bdrew _)
 replace hA:=hA.drew
 replace hC:=hC.drew
 replace hR:=hR.drew
 clear c0 c1 c2 c3 c4 c5 c6 c7 c8 c9 c10 c11 c12 c13 c14 c15 c16 c17
 refine wp_region_noPanic ?_
 refine wp_region_held_drew (S:=fun w'=>w'.cell? ⟨g,0,none⟩=some (.bool s1)∧w'.cell? ⟨g,1,none⟩=some (.slice A1 L1 C1)∧w'.cell? ⟨g,2,none⟩=some (.slice D1 M1 E1)∧w'.cell? ⟨g,3,none⟩=some (.bool s2)∧w'.cell? ⟨g,4,none⟩=some (.slice A2 L2 C2)∧w'.cell? ⟨g,5,none⟩=some (.slice D2 M2 E2)∧w'.cell? ⟨g+1,0,none⟩=some (.bool s3)∧w'.cell? ⟨g+1,1,none⟩=some (.slice A3 L3 C3)∧w'.cell? ⟨g+1,2,none⟩=some (.slice D3 M3 E3)∧w'.cell? ⟨g+1,3,none⟩=some (.bool s4)∧w'.cell? ⟨g+1,4,none⟩=some (.slice A4 L4 C4)∧w'.cell? ⟨g+1,5,none⟩=some (.slice D4 M4 E4)) (by kernel_rfl) ?_ (fun hHeld=>?_)
 ·exact⟨hA.cell 0,hA.cell 1,hA.cell 2,hA.cell 3,hA.cell 4,hA.cell 5,hC.cell 0,hC.cell 1,hC.cell 2,hC.cell 3,hC.cell 4,hC.cell 5⟩
 obtain⟨wd1_1,hwd⟩:∃q,q=Y2.drew:=⟨_,rfl⟩
 rw[←hwd] at hB q1 q2 q3 q4 hA hC hR hHeld ⊢
 clear hwd
 refine tkA 0 rfl ?_
 refine tkA 1 rfl ?_
 refine tkA 2 rfl ?_
 refine tkA 3 rfl ?_
 refine tkA 5 rfl ?_
 refine tkA 6 rfl ?_
 refine tkA 7 rfl ?_
 refine tkA 8 rfl ?_
 refine tkA 10 rfl ?_
 refine tkA 11 rfl ?_
 refine tkA 12 rfl ?_
 refine tkA 13 rfl ?_
 refine tkA 15 rfl ?_
 refine tkA 16 rfl ?_
 refine tkA 17 rfl ?_
 refine tkA 18 rfl ?_
 try simp only[Act.put,lay]
 refine rd1 4 rfl fun K hK=>?_
 go_simp
 refine (hM1 _ _ _ q1 q3).mono ?_
 rintro e u1_1 ⟨v5,rfl,q5,b1_1⟩
 replace q1:=q1.b b1_1
 replace q2:=q2.b b1_1
 replace q3:=q3.b b1_1
 replace q4:=q4.b b1_1
 replace hA:=hA.b b1_1
 replace hC:=hC.b b1_1
 replace hR:=hR.b b1_1
 replace hB:=bOn hB b1_1
 obtain⟨s5,A5,L5,C5,D5,M5,E5,rfl,q5⟩:=q5.opn
 go_wp2_with fail
 refine hK.out _ _ ?_ fun hHeld=>?_
 ·exact⟨hA.cell 0,hA.cell 1,hA.cell 2,hA.cell 3,hA.cell 4,hA.cell 5,hC.cell 0,hC.cell 1,hC.cell 2,hC.cell 3,hC.cell 4,hC.cell 5⟩
 clear hK K
 try simp only[Act.put,lay]
 refine rd1 9 rfl fun K hK=>?_
 go_simp
 refine (hM2 _ _ _ q1 q4).mono ?_
 rintro e u1_2 ⟨v6,rfl,q6,b1_2⟩
 replace q1:=q1.b b1_2
 replace q2:=q2.b b1_2
 replace q3:=q3.b b1_2
 replace q4:=q4.b b1_2
 replace hA:=hA.b b1_2
 replace hC:=hC.b b1_2
 replace hR:=hR.b b1_2
 replace q5:=q5.b b1_2
 replace hB:=bOn hB b1_2
 obtain⟨s6,A6,L6,C6,D6,M6,E6,rfl,q6⟩:=q6.opn
 go_wp2_with fail
 refine hK.out _ _ ?_ fun hHeld=>?_
 ·exact⟨hA.cell 0,hA.cell 1,hA.cell 2,hA.cell 3,hA.cell 4,hA.cell 5,hC.cell 0,hC.cell 1,hC.cell 2,hC.cell 3,hC.cell 4,hC.cell 5⟩
 clear hK K
 try simp only[Act.put,lay]
 refine rd1 14 rfl fun K hK=>?_
 go_simp
 refine (hM3 _ _ _ q2 q3).mono ?_
 rintro e u1_3 ⟨v7,rfl,q7,b1_3⟩
 replace q1:=q1.b b1_3
 replace q2:=q2.b b1_3
 replace q3:=q3.b b1_3
 replace q4:=q4.b b1_3
 replace hA:=hA.b b1_3
 replace hC:=hC.b b1_3
 replace hR:=hR.b b1_3
 replace q5:=q5.b b1_3
 replace q6:=q6.b b1_3
 replace hB:=bOn hB b1_3
 obtain⟨s7,A7,L7,C7,D7,M7,E7,rfl,q7⟩:=q7.opn
 go_wp2_with fail
 refine hK.out _ _ ?_ fun hHeld=>?_
 ·exact⟨hA.cell 0,hA.cell 1,hA.cell 2,hA.cell 3,hA.cell 4,hA.cell 5,hC.cell 0,hC.cell 1,hC.cell 2,hC.cell 3,hC.cell 4,hC.cell 5⟩
 clear hK K
 try simp only[Act.put,lay]
 refine rd1 19 rfl fun K hK=>?_
 go_simp
 refine (hM4 _ _ _ q2 q4).mono ?_
 rintro e u1_4 ⟨v8,rfl,q8,b1_4⟩
 replace q1:=q1.b b1_4
 replace q2:=q2.b b1_4
 replace q3:=q3.b b1_4
 replace q4:=q4.b b1_4
 replace hA:=hA.b b1_4
 replace hC:=hC.b b1_4
 replace hR:=hR.b b1_4
 replace q5:=q5.b b1_4
 replace q6:=q6.b b1_4
 replace q7:=q7.b b1_4
 replace hB:=bOn hB b1_4
 obtain⟨s8,A8,L8,C8,D8,M8,E8,rfl,q8⟩:=q8.opn
 go_wp2_with fail
 refine hK.out _ _ ?_ fun hHeld=>?_
 ·exact⟨hA.cell 0,hA.cell 1,hA.cell 2,hA.cell 3,hA.cell 4,hA.cell 5,hC.cell 0,hC.cell 1,hC.cell 2,hC.cell 3,hC.cell 4,hC.cell 5⟩
 clear hK K
 try simp only[Act.put,lay]
 refine rd1 20 rfl fun K hK=>?_
 obtain⟨u1_5,eu,hS,bS⟩:=box1 u1_4 32 #[.bool s5,.slice A5 L5 C5,.slice D5 M5 E5,.bool s6,.slice A6 L6 C6,.slice D6 M6 E6,.bool s7,.slice A7 L7 C7,.slice D7 M7 E7,.bool s8,.slice A8 L8 C8,.slice D8 M8 E8]
 obtain⟨XS,en⟩:∃X,X=u1_4.heap.size:=⟨_,rfl⟩
 rw[←en] at hS
 have EUS:=Lib.hid (And.intro eu en)
 clear eu en
 go_simp
 rw[←EUS.out.1,←EUS.out.2]
 replace hA:=hA.b bS
 replace hC:=hC.b bS
 replace hR:=hR.b bS
 replace q5:=q5.b bS
 replace q6:=q6.b bS
 replace q7:=q7.b bS
 replace q8:=q8.b bS
 replace hB:=bOn hB bS
 have hL:IsQs u1_5 (.slice (some ⟨XS,0,none⟩) 4 4) [r1,r2,r3,r4]:=IsQs.of_blk (es:=[(s5,.slice A5 L5 C5,.slice D5 M5 E5),(s6,.slice A6 L6 C6,.slice D6 M6 E6),(s7,.slice A7 L7 C7,.slice D7 M7 E7),(s8,.slice A8 L8 C8,.slice D8 M8 E8)]) (rs:=[r1,r2,r3,r4]) hS ((((OkQ.nil _).snoc q5).snoc q6).snoc q7 |>.snoc q8) (by simp)
 clear hS bS
 refine hK.out _ _ ?_ fun hHeld=>?_
 ·exact⟨hA.cell 0,hA.cell 1,hA.cell 2,hA.cell 3,hA.cell 4,hA.cell 5,hC.cell 0,hC.cell 1,hC.cell 2,hC.cell 3,hC.cell 4,hC.cell 5⟩
 clear hK K
 try simp only[Act.put,lay]
 refine rd1 21 rfl fun K hK=>?_
 go_simp
 refine (hAr _ _ hL).mono ?_
 rintro e u1_6 ⟨v9,rfl,h9,b9⟩
 obtain⟨s9,A9,L9,C9,D9,M9,E9,s10,A10,L10,C10,D10,M10,E10,rfl,q9,q10⟩:=h9.opn
 replace hA:=hA.b b9
 replace hC:=hC.b b9
 replace hR:=hR.b b9
 replace hB:=bOn hB b9
 clear hL
 go_wp2_with fail
 refine hK.out _ _ ?_ fun hHeld=>?_
 ·exact⟨hA.cell 0,hA.cell 1,hA.cell 2,hA.cell 3,hA.cell 4,hA.cell 5,hC.cell 0,hC.cell 1,hC.cell 2,hC.cell 3,hC.cell 4,hC.cell 5⟩
 clear hK K
 try simp only[Act.put,lay]
 refine rd1 22 rfl fun K hK=>?_
 obtain⟨u1_7,eu,hR',kz,kb,kB⟩:=fill6 hR (.bool s9) (.slice A9 L9 C9) (.slice D9 M9 E9) (.bool s10) (.slice A10 L10 C10) (.slice D10 M10 E10) (by simp[noU])
 obtain⟨x0,x1,x2,x3,x4,x5⟩:=hR.q6
 have xf:=hR.frozen
 go_simp
 rw[←eu]
 replace hA:=kb _ _ _ hA (by omega)
 replace hC:=kb _ _ _ hC (by omega)
 replace q9:=q9.filled kz
 replace q10:=q10.filled kz
 replace hB:=kB _ _ (by omega) hB
 replace hR:=hR'
 clear hR' kz kb kB eu xf x0 x1 x2 x3 x4 x5
 refine hK.out _ _ ?_ fun hHeld=>?_
 ·exact⟨hA.cell 0,hA.cell 1,hA.cell 2,hA.cell 3,hA.cell 4,hA.cell 5,hC.cell 0,hC.cell 1,hC.cell 2,hC.cell 3,hC.cell 4,hC.cell 5⟩
 clear hK K
 try simp only[Act.put,lay]
 try dsimp only
 try simp only[Act.put,lay]
 refine wpAnyH_done (by kernel_rfl) ?_ _
 refine NoPanic.normal ?_
 skip
 obtain⟨c18,c19,c20,c21,c22,c23⟩:=hA.q6
 obtain⟨c24,c25,c26,c27,c28,c29⟩:=hC.q6
 obtain⟨c30,c31,c32,c33,c34,c35⟩:=hR.q6
 go_wp2_with fail
 exact bodyPost_ret (v:= .agg #[.bool s9,.slice A9 L9 C9,.slice D9 M9 E9,.bool s10,.slice A10 L10 C10,.slice D10 M10 E10]) (by simp[results,Tryz.results96,go_sem,c30,c31,c32,c33,c34,c35]) rfl ⟨_,rfl,⟨_,_,_,_,_,_,rfl,q9,q10⟩,hB⟩
theorem rivdiv_any (u v:Value) (a b c d:Rat) (w:World) (h:IsS w u a b) (h':IsS w v c d) (sa:BQ a 1900) (sb:BQ b 1900) (sc:BQ c 1900) (sd:BQ d 1900) (hno:(decide (cmpQ c 0≤0) && decide (cmpQ 0 d≤0))=false) (c0:c.num≠0) (d0:d.num≠0):
 Calls Tryz.prog 90 #[u,v] w fun e w'=>∃v',e= .returned (.tuple #[v',.int .i64 0])∧IsS w' v' (mnTo [a*divQ 1 d,a*divQ 1 c,b*divQ 1 d,b*divQ 1 c] 3) (mxTo [a*divQ 1 d,a*divQ 1 c,b*divQ 1 d,b*divQ 1 c] 3)∧Below w.heap.size w w':=by
 have hO:=fun w=>rqof_any 0 (by omega) (by omega) w
 rw[show ((0:Int):Rat)=0 from rfl] at hO
 have hO1:=fun w=>rqof_any 1 (by omega) (by omega) w
 rw[show ((1:Int):Rat)=1 from rfl] at hO1
 have bz:BQ (0:Rat) 1:=BQ.int (n:=0) (by unfold W64;omega)
 have b1:BQ (1:Rat) 1:=BQ.int (n:=1) (by unfold W64;omega)
 have hH:=fun v u w h h'=>rshas_any v u c d 0 w h h' (sc.more (by omega)) (sd.more (by omega)) (bz.more (by omega))
 rw[hno] at hH
 have hD1:=fun u v w h h'=>rqdiv_any u v 1 d w h h' (b1.more (by omega)) (sd.more (by omega)) d0
 have hD2:=fun u v w h h'=>rqdiv_any u v 1 c w h h' (b1.more (by omega)) (sc.more (by omega)) c0
 have hM:=fun u v w h h'=>rivmul_any u v a b (divQ 1 d) (divQ 1 c) w h h' (sa.more (by omega)) (sb.more (by omega)) ((bq_div b1 sd).more (by omega)) ((bq_div b1 sc).more (by omega))
 generalize mnTo [a*divQ 1 d,a*divQ 1 c,b*divQ 1 d,b*divQ 1 c] 3=rl at *
 generalize mxTo [a*divQ 1 d,a*divQ 1 c,b*divQ 1 d,b*divQ 1 c] 3=rh at *
 generalize divQ 1 d=il at *
 generalize divQ 1 c=ih at *
 obtain⟨z0,ez0⟩:∃z:Rat,z=0:=⟨_,rfl⟩
 rw[←ez0] at hO hH
 obtain⟨z1,ez1⟩:∃z:Rat,z=1:=⟨_,rfl⟩
 rw[←ez1] at hO1 hD1 hD2
 obtain⟨s1,A1,L1,C1,D1,M1,E1,s2,A2,L2,C2,D2,M2,E2,rfl,q1,q2⟩:=h.opn
 obtain⟨s3,A3,L3,C3,D3,M3,E3,s4,A4,L4,C4,D4,M4,E4,rfl,q3,q4⟩:=h'.opn
 clear h h' sa sb sc sd hno c0 d0 bz b1 ez0 ez1
 obtain⟨g,Y2,hA,hC,hR,hB,hgw,EY⟩:=boxes3 w 46 #[.bool s1,.slice A1 L1 C1,.slice D1 M1 E1,.bool s2,.slice A2 L2 C2,.slice D2 M2 E2] 46 #[.bool s3,.slice A3 L3 C3,.slice D3 M3 E3,.bool s4,.slice A4 L4 C4,.slice D4 M4 E4] 46 #[.bool false,.slice none 0 0,.slice none 0 0,.bool false,.slice none 0 0,.slice none 0 0]
 replace q1:=q1.b hB
 replace q2:=q2.b hB
 replace q3:=q3.b hB
 replace q4:=q4.b hB
 obtain⟨c0,c1,c2,c3,c4,c5⟩:=hA.q6
 obtain⟨c6,c7,c8,c9,c10,c11⟩:=hC.q6
 obtain⟨c12,c13,c14,c15,c16,c17⟩:=hR.q6
 go_enter Tryz.func90,Tryz.ntmps90
 go_upto_region 1 with fail
 rw[←EY.out.2,←EY.out.1]
 replace hB:=hB.drew
 replace q1:=q1.b (bdrew _)
 replace q2:=q2.b (bdrew _)
 replace q3:=q3.b (bdrew _)
 replace q4:=q4.b (bdrew _)
 replace hA:=hA.drew
 replace hC:=hC.drew
 replace hR:=hR.drew
 clear c0 c1 c2 c3 c4 c5 c6 c7 c8 c9 c10 c11 c12 c13 c14 c15 c16 c17
 refine wp_region_noPanic ?_
 refine wp_region_held_drew (S:=fun w'=>w'.cell? ⟨g+1,0,none⟩=some (.bool s3)∧w'.cell? ⟨g+1,1,none⟩=some (.slice A3 L3 C3)∧w'.cell? ⟨g+1,2,none⟩=some (.slice D3 M3 E3)∧w'.cell? ⟨g+1,3,none⟩=some (.bool s4)∧w'.cell? ⟨g+1,4,none⟩=some (.slice A4 L4 C4)∧w'.cell? ⟨g+1,5,none⟩=some (.slice D4 M4 E4)) (by kernel_rfl) ?_ (fun hHeld=>?_)
 ·exact⟨hC.cell 0,hC.cell 1,hC.cell 2,hC.cell 3,hC.cell 4,hC.cell 5⟩
 obtain⟨wd1_1,hwd⟩:∃q,q=Y2.drew:=⟨_,rfl⟩
 rw[←hwd] at hB q1 q2 q3 q4 hA hC hR hHeld ⊢
 clear hwd
 refine tkA 0 rfl ?_
 try simp only[Act.put,lay]
 refine rd1 1 rfl fun K hK=>?_
 go_simp
 refine (hO _).mono ?_
 rintro e u1_1 ⟨v5,rfl,q5,b1_1⟩
 replace q1:=q1.b b1_1
 replace q2:=q2.b b1_1
 replace q3:=q3.b b1_1
 replace q4:=q4.b b1_1
 replace hA:=hA.b b1_1
 replace hC:=hC.b b1_1
 replace hR:=hR.b b1_1
 replace hB:=bOn hB b1_1
 go_wp2_with fail
 refine hK.out _ _ ?_ fun hHeld=>?_
 ·exact⟨hC.cell 0,hC.cell 1,hC.cell 2,hC.cell 3,hC.cell 4,hC.cell 5⟩
 clear hK K
 try simp only[Act.put,lay]
 refine rd1 2 rfl fun K hK=>?_
 go_simp
 refine (hH _ _ _ ⟨_,_,_,_,_,_,rfl,q3,q4⟩ q5).mono ?_
 rintro e u1_2 ⟨rfl,b1_2⟩
 replace q1:=q1.b b1_2
 replace q2:=q2.b b1_2
 replace q3:=q3.b b1_2
 replace q4:=q4.b b1_2
 replace hA:=hA.b b1_2
 replace hC:=hC.b b1_2
 replace hR:=hR.b b1_2
 replace q5:=q5.b b1_2
 replace hB:=bOn hB b1_2
 go_wp2_with fail
 refine hK.out _ _ ?_ fun hHeld=>?_
 ·exact⟨hC.cell 0,hC.cell 1,hC.cell 2,hC.cell 3,hC.cell 4,hC.cell 5⟩
 clear hK K
 try simp only[Act.put,lay]
 try dsimp only
 try simp only[Act.put,lay]
 refine wpAnyH_done (by kernel_rfl) ?_ _
 refine NoPanic.normal ?_
 skip
 obtain⟨c18,c19,c20,c21,c22,c23⟩:=hA.q6
 obtain⟨c24,c25,c26,c27,c28,c29⟩:=hC.q6
 obtain⟨c30,c31,c32,c33,c34,c35⟩:=hR.q6
 go_upto_region 3 with fail
 clear c18 c19 c20 c21 c22 c23 c24 c25 c26 c27 c28 c29 c30 c31 c32 c33 c34 c35
 replace hB:=hB.drew
 replace q1:=q1.b (bdrew _)
 replace q2:=q2.b (bdrew _)
 replace q3:=q3.b (bdrew _)
 replace q4:=q4.b (bdrew _)
 replace hA:=hA.drew
 replace hC:=hC.drew
 replace hR:=hR.drew
 refine wp_region_noPanic ?_
 refine wp_region_held_drew (S:=fun w'=>World.grownBy u1_2.drew w' (some (u1_2.drew.heap.size))) (by kernel_rfl) (grown_of (Below.refl _ _) _) (fun hHeld=>?_)
 obtain⟨wd3_2,hwd⟩:∃q,q=u1_2.drew:=⟨_,rfl⟩
 rw[←hwd] at hB q1 q2 q3 q4 hA hC hR hHeld ⊢
 clear hwd
 refine tkA 1 rfl ?_
 refine tkH 2 rfl (v:=?v3) ?h3 ?r3
 case h3=>
  intro w hSw
  (try dsimp only at hSw)
  obtain⟨yhC_0,yhC_1,yhC_2,yhC_3,yhC_4,yhC_5⟩:=(Blk.grownT hC hSw (fun e=>absurd (Option.some.inj e) (Nat.ne_of_lt hC.lt))).q6
  go_simp
  try (with_reducible rfl)
 try simp only[Act.put,lay]
 refine wpAnyH_facts [(0,15),(3,18),(7,6)] [(4,14),(5,19),(6,20)] [6] (pick [(0,fun (v:Value) (w:World)=>∃u0,u0=v∧IsQ w u0 z1),(3,fun (v:Value) (w:World)=>∃u3,.tuple #[u3,.int .i64 0]=v∧IsQ w u3 il),(4,fun (v:Value) (w:World)=>∃u3,.tuple #[u3,.int .i64 0]=v∧IsQ w u3 il),(5,fun (v:Value) (w:World)=>∃u3,u3=v∧IsQ w u3 il),(6,fun (v:Value) (w:World)=>.int .i64 0=v),(7,fun (v:Value) (w:World)=>∃XPA,.pointer (some ⟨XPA,0,none⟩)=v∧wd3_2.heap.size≤XPA∧Blk w XPA 32 #[.bool false,.slice none 0 0,.slice none 0 0])]) #[true,true,true,true,true,true,true,true,false,false] (fun _ h=>grown_of h _) (pick_pers (show PersAll _ from ⟨fun _ _ _ b ⟨u0,e,g0⟩=>⟨u0,e,g0.below b⟩,fun _ _ _ b ⟨u3,e,g3⟩=>⟨u3,e,g3.below b⟩,fun _ _ _ b ⟨u3,e,g3⟩=>⟨u3,e,g3.below b⟩,fun _ _ _ b ⟨u3,e,g3⟩=>⟨u3,e,g3.below b⟩,fun _ _ _ _ e=>e,fun _ _ _ b ⟨X,e,l,h⟩=>⟨X,e,l,h.below b h.lt⟩,trivial⟩)) (hord_of (by kernel_rfl)) (by kernel_rfl) (by kernel_rfl) (by kernel_rfl) (by kernel_rfl) (fun _ _ _ _ _ h=>h) ?ops2 ?pur2 ?done2 (Below.refl _ _) (Nat.le_of_ble_eq_true (by kernel_rfl))
 case ops2=>
  refine .cons rfl (fun a w zS K hK=>?_) ?_
  ·go_simp
   refine (hO1 _).mono ?_
   rintro e w' ⟨u0,rfl,g0,b⟩
   exact hK _ _ ⟨u0,rfl,g0⟩ b
  refine .cons rfl (fun a w zS K hK=>?_) ?_
  ·have q4:=q4.below zS.1
   obtain⟨v15,e15,u0,rfl,g0⟩:=zS.2.2 0 15 (by kernel_rfl)
   have e17:=zS.2.1 17 _ (by kernel_rfl) rfl
   go_simp
   refine (hD1 _ _ _ g0 q4).mono ?_
   rintro e w' ⟨u3,rfl,g3,b⟩
   exact hK _ _ ⟨u3,rfl,g3⟩ b
  refine .cons rfl (fun a w zS K hK=>?_) ?_
  ·go_simp
   exact hK _ _ ⟨_,rfl,zS.1.size,Blk.new w _ _⟩ ((Below.refl _ w).alloc (Nat.le_refl _) _)
  exact .nil
 case pur2=>
  refine .cons rfl (fun a w zS=>?_) ?_
  ·obtain⟨v18,e18,u3,rfl,g3⟩:=zS.2.2 3 18 (by kernel_rfl)
   exact⟨_,fun w'=>by go_simp<;>rfl,⟨u3,rfl,g3⟩⟩
  refine .cons rfl (fun a w zS=>?_) ?_
  ·obtain⟨v14,e14,u3,rfl,g3⟩:=zS.2.2 4 14 (by kernel_rfl)
   exact⟨_,fun w'=>by go_simp<;>rfl,⟨u3,rfl,g3⟩⟩
  refine .cons rfl (fun a w zS=>?_) ?_
  ·obtain⟨v14,e14,u3,rfl,g3⟩:=zS.2.2 4 14 (by kernel_rfl)
   exact⟨_,fun w'=>by go_simp<;>rfl,rfl⟩
  exact .nil
 case done2=>
  intro fuel a wr3_2 zf zS zdf zsz zs zd
  obtain⟨fuel,rfl⟩:∃n,fuel=n+2:=⟨fuel - 2,by have h:2≤fuel:=Nat.le_trans (Nat.le_of_ble_eq_true (by kernel_rfl)) zf;omega⟩
  clear zf
  replace q1:=q1.b zS
  replace q2:=q2.b zS
  replace q3:=q3.b zS
  replace q4:=q4.b zS
  have nhA:=hA.lt
  replace hA:=hA.below zS nhA
  have nhC:=hC.lt
  replace hC:=hC.below zS nhC
  have nhR:=hR.lt
  replace hR:=hR.below zS nhR
  obtain⟨v15_,e15_,u0,rfl,g0⟩:=zd 0 15 (by kernel_rfl)
  obtain⟨v18_,e18_,u3_3,rfl, -⟩:=zd 3 18 (by kernel_rfl)
  obtain⟨v14_,e14_,u3_4,rfl, -⟩:=zd 4 14 (by kernel_rfl)
  obtain⟨v19_,e19_,u3,rfl,g3⟩:=zd 5 19 (by kernel_rfl)
  obtain⟨v20_,e20_,rfl⟩:=zd 6 20 (by kernel_rfl)
  obtain⟨v6_,e6_,XPA,rfl,lXPA,h6⟩:=zd 7 6 (by kernel_rfl)
  obtain rfl:=act_of [(15,u0),(18,.tuple #[u3_3,.int .i64 0]),(6,.pointer (some ⟨XPA,0,none⟩)),(14,.tuple #[u3_4,.int .i64 0]),(19,u3),(20,.int .i64 0)] ⟨e15_,e18_,e6_,e14_,e19_,e20_,trivial⟩ zdf zsz (fun s h=>zs s h)
  simp only[putAll,List.set_cons_zero,List.set_cons_succ]
  clear zdf zsz zs zd e15_ e18_ e6_ e14_ e19_ e20_
  have kXPA:w.heap.size≤XPA:=Nat.le_trans hB.size lXPA
  have dXPA_hA:g≠XPA:=Nat.ne_of_lt (Nat.lt_of_lt_of_le nhA lXPA)
  have dXPA_hC:g+1≠XPA:=Nat.ne_of_lt (Nat.lt_of_lt_of_le nhC lXPA)
  have dXPA_hR:g+1+1≠XPA:=Nat.ne_of_lt (Nat.lt_of_lt_of_le nhR lXPA)
  replace hB:=bOn hB zS
  clear nhA nhC nhR
  obtain⟨s7,A7,L7,C7,D7,M7,E7,rfl,q7⟩:=g3.opn
  clear g0
  clear q4
  have zG:=grown_of zS (some (wd3_2.heap.size))
  refine rd1 8 rfl fun K hK=>?_
  obtain⟨ws3_8,eu,h6',kz,kb,kB⟩:=fill3 h6 (.bool s7) (.slice A7 L7 C7) (.slice D7 M7 E7) (by simp[noU])
  obtain⟨x0,x1,x2⟩:=h6.q3
  have xf:=h6.frozen
  replace zG:=(grown_set (grown_set (grown_set zG (p:=⟨XPA,0,none⟩) (.inr (by assumption)) (.bool s7)) (p:=⟨XPA,1,none⟩) (.inr (by assumption)) (.slice A7 L7 C7)) (p:=⟨XPA,2,none⟩) (.inr (by assumption)) (.slice D7 M7 E7))
  rw[←eu] at zG
  go_simp
  rw[←eu]
  replace q1:=q1.filled kz
  replace q2:=q2.filled kz
  replace q3:=q3.filled kz
  replace hA:=kb _ _ _ hA (by first | assumption | exact Ne.symm (by assumption) | omega)
  replace hC:=kb _ _ _ hC (by first | assumption | exact Ne.symm (by assumption) | omega)
  replace hR:=kb _ _ _ hR (by first | assumption | exact Ne.symm (by assumption) | omega)
  replace q7:=q7.filled kz
  replace hB:=kB _ _ (by omega) hB
  replace h6:=h6'
  clear h6' kz kb kB eu xf x0 x1 x2
  refine hK.out _ _ zG (fun hHeld=>?_)
  clear hK K
  refine tkH 9 rfl (v:=?v4) ?h4 ?r4 (hS:=zG)
  case h4=>intro w s;go_simp;try (with_reducible rfl)
  try simp only[Act.put,lay]
  try dsimp only
  try simp only[Act.put,lay]
  refine wpAnyH_done (by kernel_rfl) ?_ _
  refine NoPanic.normal ?_
  clear zG
  obtain⟨c36,c37,c38,c39,c40,c41⟩:=hA.q6
  obtain⟨c42,c43,c44,c45,c46,c47⟩:=hC.q6
  obtain⟨c48,c49,c50,c51,c52,c53⟩:=hR.q6
  obtain⟨c54,c55,c56⟩:=h6.q3
  go_upto_region 4 with fail
  clear c36 c37 c38 c39 c40 c41 c42 c43 c44 c45 c46 c47 c48 c49 c50 c51 c52 c53 c54 c55 c56
  replace hB:=hB.drew
  replace q1:=q1.b (bdrew _)
  replace q2:=q2.b (bdrew _)
  replace q3:=q3.b (bdrew _)
  replace hA:=hA.drew
  replace hC:=hC.drew
  replace hR:=hR.drew
  replace h6:=h6.drew
  replace q7:=q7.b (bdrew _)
  refine wp_region_noPanic ?_
  refine wp_region_held_drew (S:=fun w'=>World.grownBy ws3_8.drew w' (some (ws3_8.drew.heap.size))) (by kernel_rfl) (grown_of (Below.refl _ _) _) (fun hHeld=>?_)
  obtain⟨wd4_3,hwd⟩:∃q,q=ws3_8.drew:=⟨_,rfl⟩
  rw[←hwd] at hB q1 q2 q3 hA hC hR h6 q7 hHeld ⊢
  clear hwd
  refine tkA 1 rfl ?_
  refine tkH 2 rfl (v:=?v6) ?h6 ?r6
  case h6=>
   intro w hSw
   (try dsimp only at hSw)
   obtain⟨yhC_0,yhC_1,yhC_2,yhC_3,yhC_4,yhC_5⟩:=(Blk.grownT hC hSw (fun e=>absurd (Option.some.inj e) (Nat.ne_of_lt hC.lt))).q6
   go_simp
   try (with_reducible rfl)
  try simp only[Act.put,lay]
  refine wpAnyH_facts [(0,22),(3,25),(7,8)] [(4,21),(5,26),(6,27)] [6] (pick [(0,fun (v:Value) (w:World)=>∃u0,u0=v∧IsQ w u0 z1),(3,fun (v:Value) (w:World)=>∃u3,.tuple #[u3,.int .i64 0]=v∧IsQ w u3 ih),(4,fun (v:Value) (w:World)=>∃u3,.tuple #[u3,.int .i64 0]=v∧IsQ w u3 ih),(5,fun (v:Value) (w:World)=>∃u3,u3=v∧IsQ w u3 ih),(6,fun (v:Value) (w:World)=>.int .i64 0=v),(7,fun (v:Value) (w:World)=>∃XPB,.pointer (some ⟨XPB,0,none⟩)=v∧wd4_3.heap.size≤XPB∧Blk w XPB 32 #[.bool false,.slice none 0 0,.slice none 0 0])]) #[true,true,true,true,true,true,true,true,false,false] (fun _ h=>grown_of h _) (pick_pers (show PersAll _ from ⟨fun _ _ _ b ⟨u0,e,g0⟩=>⟨u0,e,g0.below b⟩,fun _ _ _ b ⟨u3,e,g3⟩=>⟨u3,e,g3.below b⟩,fun _ _ _ b ⟨u3,e,g3⟩=>⟨u3,e,g3.below b⟩,fun _ _ _ b ⟨u3,e,g3⟩=>⟨u3,e,g3.below b⟩,fun _ _ _ _ e=>e,fun _ _ _ b ⟨X,e,l,h⟩=>⟨X,e,l,h.below b h.lt⟩,trivial⟩)) (hord_of (by kernel_rfl)) (by kernel_rfl) (by kernel_rfl) (by kernel_rfl) (by kernel_rfl) (fun _ _ _ _ _ h=>h) ?ops3 ?pur3 ?done3 (Below.refl _ _) (Nat.le_of_ble_eq_true (by kernel_rfl))
  case ops3=>
   refine .cons rfl (fun a w zS K hK=>?_) ?_
   ·go_simp
    refine (hO1 _).mono ?_
    rintro e w' ⟨u0,rfl,g0,b⟩
    exact hK _ _ ⟨u0,rfl,g0⟩ b
   refine .cons rfl (fun a w zS K hK=>?_) ?_
   ·have q3:=q3.below zS.1
    obtain⟨v22,e22,u0,rfl,g0⟩:=zS.2.2 0 22 (by kernel_rfl)
    have e24:=zS.2.1 24 _ (by kernel_rfl) rfl
    go_simp
    refine (hD2 _ _ _ g0 q3).mono ?_
    rintro e w' ⟨u3,rfl,g3,b⟩
    exact hK _ _ ⟨u3,rfl,g3⟩ b
   refine .cons rfl (fun a w zS K hK=>?_) ?_
   ·go_simp
    exact hK _ _ ⟨_,rfl,zS.1.size,Blk.new w _ _⟩ ((Below.refl _ w).alloc (Nat.le_refl _) _)
   exact .nil
  case pur3=>
   refine .cons rfl (fun a w zS=>?_) ?_
   ·obtain⟨v25,e25,u3,rfl,g3⟩:=zS.2.2 3 25 (by kernel_rfl)
    exact⟨_,fun w'=>by go_simp<;>rfl,⟨u3,rfl,g3⟩⟩
   refine .cons rfl (fun a w zS=>?_) ?_
   ·obtain⟨v21,e21,u3,rfl,g3⟩:=zS.2.2 4 21 (by kernel_rfl)
    exact⟨_,fun w'=>by go_simp<;>rfl,⟨u3,rfl,g3⟩⟩
   refine .cons rfl (fun a w zS=>?_) ?_
   ·obtain⟨v21,e21,u3,rfl,g3⟩:=zS.2.2 4 21 (by kernel_rfl)
    exact⟨_,fun w'=>by go_simp<;>rfl,rfl⟩
   exact .nil
  case done3=>
   intro fuel a wr4_3 zf zS zdf zsz zs zd
   obtain⟨fuel,rfl⟩:∃n,fuel=n+2:=⟨fuel - 2,by have h:2≤fuel:=Nat.le_trans (Nat.le_of_ble_eq_true (by kernel_rfl)) zf;omega⟩
   clear zf
   replace q1:=q1.b zS
   replace q2:=q2.b zS
   replace q3:=q3.b zS
   have nhA:=hA.lt
   replace hA:=hA.below zS nhA
   have nhC:=hC.lt
   replace hC:=hC.below zS nhC
   have nhR:=hR.lt
   replace hR:=hR.below zS nhR
   have nh6:=h6.lt
   replace h6:=h6.below zS nh6
   replace q7:=q7.b zS
   obtain⟨v22_,e22_,u0,rfl,g0⟩:=zd 0 22 (by kernel_rfl)
   obtain⟨v25_,e25_,u3_3,rfl, -⟩:=zd 3 25 (by kernel_rfl)
   obtain⟨v21_,e21_,u3_4,rfl, -⟩:=zd 4 21 (by kernel_rfl)
   obtain⟨v26_,e26_,u3,rfl,g3⟩:=zd 5 26 (by kernel_rfl)
   obtain⟨v27_,e27_,rfl⟩:=zd 6 27 (by kernel_rfl)
   obtain⟨v8_,e8_,XPB,rfl,lXPB,h8⟩:=zd 7 8 (by kernel_rfl)
   obtain rfl:=act_of [(22,u0),(25,.tuple #[u3_3,.int .i64 0]),(8,.pointer (some ⟨XPB,0,none⟩)),(21,.tuple #[u3_4,.int .i64 0]),(26,u3),(27,.int .i64 0)] ⟨e22_,e25_,e8_,e21_,e26_,e27_,trivial⟩ zdf zsz (fun s h=>zs s h)
   simp only[putAll,List.set_cons_zero,List.set_cons_succ]
   clear zdf zsz zs zd e22_ e25_ e8_ e21_ e26_ e27_
   have kXPB:w.heap.size≤XPB:=Nat.le_trans hB.size lXPB
   have dXPB_hA:g≠XPB:=Nat.ne_of_lt (Nat.lt_of_lt_of_le nhA lXPB)
   have dXPB_hC:g+1≠XPB:=Nat.ne_of_lt (Nat.lt_of_lt_of_le nhC lXPB)
   have dXPB_hR:g+1+1≠XPB:=Nat.ne_of_lt (Nat.lt_of_lt_of_le nhR lXPB)
   have dXPB_h6:XPA≠XPB:=Nat.ne_of_lt (Nat.lt_of_lt_of_le nh6 lXPB)
   replace hB:=bOn hB zS
   clear nhA nhC nhR nh6
   obtain⟨s9,A9,L9,C9,D9,M9,E9,rfl,q9⟩:=g3.opn
   clear g0
   clear q3
   clear hC
   have zG:=grown_of zS (some (wd4_3.heap.size))
   refine rd1 8 rfl fun K hK=>?_
   obtain⟨ws4_8,eu,h8',kz,kb,kB⟩:=fill3 h8 (.bool s9) (.slice A9 L9 C9) (.slice D9 M9 E9) (by simp[noU])
   obtain⟨x0,x1,x2⟩:=h8.q3
   have xf:=h8.frozen
   replace zG:=(grown_set (grown_set (grown_set zG (p:=⟨XPB,0,none⟩) (.inr (by assumption)) (.bool s9)) (p:=⟨XPB,1,none⟩) (.inr (by assumption)) (.slice A9 L9 C9)) (p:=⟨XPB,2,none⟩) (.inr (by assumption)) (.slice D9 M9 E9))
   rw[←eu] at zG
   go_simp
   rw[←eu]
   replace q1:=q1.filled kz
   replace q2:=q2.filled kz
   replace hA:=kb _ _ _ hA (by first | assumption | exact Ne.symm (by assumption) | omega)
   replace hR:=kb _ _ _ hR (by first | assumption | exact Ne.symm (by assumption) | omega)
   replace h6:=kb _ _ _ h6 (by first | assumption | exact Ne.symm (by assumption) | omega)
   replace q7:=q7.filled kz
   replace q9:=q9.filled kz
   replace hB:=kB _ _ (by omega) hB
   replace h8:=h8'
   clear h8' kz kb kB eu xf x0 x1 x2
   refine hK.out _ _ zG (fun hHeld=>?_)
   clear hK K
   refine tkH 9 rfl (v:=?v7) ?h7 ?r7 (hS:=zG)
   case h7=>intro w s;go_simp;try (with_reducible rfl)
   try simp only[Act.put,lay]
   try dsimp only
   try simp only[Act.put,lay]
   refine wpAnyH_done (by kernel_rfl) ?_ _
   refine NoPanic.normal ?_
   clear zG
   obtain⟨c57,c58,c59,c60,c61,c62⟩:=hA.q6
   obtain⟨c63,c64,c65,c66,c67,c68⟩:=hR.q6
   obtain⟨c69,c70,c71⟩:=h6.q3
   obtain⟨c72,c73,c74⟩:=h8.q3
   go_wp2_with fail
   refine (hM _ _ _ ⟨_,_,_,_,_,_,rfl,q1,q2⟩ ⟨_,_,_,_,_,_,rfl,q7,q9⟩).mono ?_
   rintro e w8 ⟨v11,rfl,h11,b8⟩
   replace q1:=q1.b b8
   replace q2:=q2.b b8
   replace hA:=hA.b b8
   replace hR:=hR.b b8
   replace h6:=h6.b b8
   replace q7:=q7.b b8
   replace h8:=h8.b b8
   replace q9:=q9.b b8
   replace hB:=bOn hB b8
   clear c57 c58 c59 c60 c61 c62 c63 c64 c65 c66 c67 c68 c69 c70 c71 c72 c73 c74
   obtain⟨c75,c76,c77,c78,c79,c80⟩:=hA.q6
   obtain⟨c81,c82,c83,c84,c85,c86⟩:=hR.q6
   obtain⟨c87,c88,c89⟩:=h6.q3
   obtain⟨c90,c91,c92⟩:=h8.q3
   obtain⟨s11,A11,L11,C11,D11,M11,E11,s12,A12,L12,C12,D12,M12,E12,rfl,q11,q12⟩:=h11.opn
   obtain⟨p1,p2,p3⟩:=put6 hR (.bool s11) (.slice A11 L11 C11) (.slice D11 M11 E11) (.bool s12) (.slice A12 L12 C12) (.slice D12 M12 E12) (by simp[noU]) hB (by omega)
   have rc0:World.cell? _ ⟨g+1+1,0,none⟩=some (.bool false):=hR.cell 0
   have rf0:=hR.frozen 0
   have rc1:World.cell? _ ⟨g+1+1,1,none⟩=some (.slice none 0 0):=hR.cell 1
   have rf1:=hR.frozen 1
   have rc2:World.cell? _ ⟨g+1+1,2,none⟩=some (.slice none 0 0):=hR.cell 2
   have rf2:=hR.frozen 2
   have rc3:World.cell? _ ⟨g+1+1,3,none⟩=some (.bool false):=hR.cell 3
   have rf3:=hR.frozen 3
   have rc4:World.cell? _ ⟨g+1+1,4,none⟩=some (.slice none 0 0):=hR.cell 4
   have rf4:=hR.frozen 4
   have rc5:World.cell? _ ⟨g+1+1,5,none⟩=some (.slice none 0 0):=hR.cell 5
   have rf5:=hR.frozen 5
   have P:=Lib.hid (And.intro (⟨_,_,_,_,_,_,rfl,q11.kept p2,q12.kept p2⟩:IsS _ _ rl rh) (And.intro p3 p1.cells6))
   clear p1 p2 p3
   go_wp2_with fail
   obtain⟨P1,P2,P3,P4,P5,P6,P7,P8⟩:=P.out
   exact bodyPost_ret (v:= .tuple #[.agg #[.bool s11,.slice A11 L11 C11,.slice D11 M11 E11,.bool s12,.slice A12 L12 C12,.slice D12 M12 E12],.int .i64 0]) (by simp[results,Tryz.results90,go_sem,P3,P4,P5,P6,P7,P8]) rfl ⟨_,rfl,P1,P2⟩
theorem bits_start (a:Nat):a<(0+2^(bl a / 2+1))*(0+2^(bl a / 2+1)):=by
 have h1:=lt_bl a
 have h2:2^bl a≤2^(bl a / 2+1+(bl a / 2+1)):=Nat.pow_le_pow_right (by omega) (by omega)
 rw[Nat.pow_add] at h2
 rw[Nat.zero_add]
 omega
theorem cmpL_nums (a b:Nat):cmpL (limbs a) (limbs b)=cmpI (a:Int) (b:Int):=cmpL_limbs a b
theorem rpower2_any (va:Value) (a:Nat) (w:World) (ha:IsN w va a) (hla:Sz a 100000):
 Calls Tryz.prog 237 #[va,.int .i64 2] w fun e w'=>∃v',e= .returned v'∧IsN w' v' (a*a)∧Below w.heap.size w w':=by
 have hO:=fun w=>rof_any 1 (by unfold W64;omega) w
 rw[show ((1:Nat):Int)=1 from rfl] at hO
 have hM1:=fun u w hu hv=>rmul_any u va 1 a w hu hv (Sz.one.fin (by omega)) (hla.fin (by omega))
 rw[Nat.one_mul] at hM1
 have hM2:=fun u w hu hv=>rmul_any u va a a w hu hv (hla.fin (by omega)) (hla.fin (by omega))
 go_enter Tryz.func237,Tryz.ntmps237
 go_wp2_with fail
 refine (hO _).mono ?_
 rintro e w1 ⟨v5,rfl,h5,b1⟩
 replace ha:=ha.b b1
 go_wp2_with fail
 go_loopw [5,6] (fun oV iV wr=>((iV= .int .i64 0∧IsN wr oV 1)∨(iV= .int .i64 1∧IsN wr oV a)∨(iV= .int .i64 2∧IsN wr oV (a*a)))∧IsN wr va a∧Below w.heap.size w wr) (fun _ iV _=>2 - (intOf iV).toNat)
 case atStart=>exact⟨.inl ⟨rfl,h5⟩,ha,b1⟩
 case round=>
  clear ha h5 b1 hla
  obtain⟨⟨rfl,ho⟩ | ⟨rfl,ho⟩ | ⟨rfl,ho⟩,ha,hB⟩:=hrel
  ·go_wp2_with fail
   refine (hM1 _ _ ho ha).mono ?_
   rintro e w2 ⟨v6,rfl,h6,b2⟩
   replace ha:=ha.b b2
   replace hB:=bOn hB b2
   go_wp2
   exact⟨⟨.inr (.inl ⟨rfl,h6⟩),ha,hB⟩,by simp[intOf]⟩
  ·go_wp2_with fail
   refine (hM2 _ _ ho ha).mono ?_
   rintro e w2 ⟨v6,rfl,h6,b2⟩
   replace ha:=ha.b b2
   replace hB:=bOn hB b2
   go_wp2
   exact⟨⟨.inr (.inr ⟨rfl,h6⟩),ha,hB⟩,by simp[intOf]⟩
  ·go_wp2
   go_ret
   exact⟨_,rfl,ho,hB⟩
theorem rroot_any (va:Value) (a:Nat) (w:World) (ha:IsN w va a) (sa:Sz a 600):
 Calls Tryz.prog 208 #[va,.int .i64 2] w fun e w'=>∃r v',e= .returned (.tuple #[v',.int .i64 0])∧IsN w' v' r∧IsRt a r∧Below w.heap.size w w':=by
 obtain⟨i0,hi,hz0,hz1,hz2⟩:=info_parts info_u64
 obtain⟨X,hX⟩:∃X,X=w.heap.size:=⟨_,rfl⟩
 obtain⟨W1,hW1,hO1,hB1⟩:=box1 w 141 #[]
 rw[←hX] at hO1 hB1
 have hZ:IsN W1 (.slice (some ⟨X,0,none⟩) 0 0) 0:=by
  unfold IsN
  rw[limbs_zero]
  exact⟨_,_,rfl,Nat.le_refl _,by omega,Bd.nil,by simp[us],fun h=>absurd h (by simp)⟩
 have hbl:=sa.bl
 have hBi:=fun w h=>rbits_any va a w h (sa.fin (by omega))
 have hst:=bits_start a
 obtain⟨n,en⟩:∃n,n=bl a / 2:=⟨_,rfl⟩
 rw[←en] at hst
 have q1:((bl a:Nat):Int) / 2=(n:Int):=by omega
 have q2:((bl a:Nat):Int).tdiv 2=(n:Int):=by rw[Int.tdiv_eq_ediv_of_nonneg (by omega)];exact q1
 have q8:IntKind.i64.wrap (n:Int)=(n:Int):=by rw[IntKind.wrap_i64];omega
 have q3:IntKind.i64.wrap (((bl a:Nat):Int).tdiv 2)=(n:Int):=by rw[q2,q8]
 have q5:IntKind.i64.wrap (((bl a:Nat):Int) / 2)=(n:Int):=by rw[q1,q8]
 have hn:n≤19200:=by omega
 have hO:=fun w=>rof_any 1 (by unfold W64;omega) w
 rw[show ((1:Nat):Int)=1 from rfl] at hO
 have ha0:=ha
 rw[hX] at hB1
 replace ha:=ha.b hB1
 have hXs:w.heap.size≤W1.heap.size:=hB1.size
 have HW:=Lib.hid (And.intro hW1 hX)
 clear hW1 hX hO1 en hbl
 go_enter Tryz.func208,Tryz.ntmps208
 go_upto_region 4 with fail
 rw[←HW.out.1,←HW.out.2]
 go_wp2_with fail
 refine (hBi _ ha).mono ?_
 rintro e w2 ⟨rfl,rfl⟩
 go_wp2_with fail
 clear q1 q2 q3 q5 q8
 go_loopw [6,7] (fun oV iV wr=>∃j r:Nat,iV= .int .i64 ((j:Int) - 1)∧j≤n+1∧IsN wr oV r∧r*r≤a∧a<(r+2^j)*(r+2^j)∧IsN wr va a∧Below w.heap.size w wr) (fun _ iV _=>(intOf iV+1).toNat)
 case atStart=>exact⟨n+1,0,congrArg (Value.int .i64) (by omega),Nat.le_refl _,hZ,by omega,hst,ha,hB1⟩
 case round=>
  clear hZ hst ha hB1
  obtain⟨j,r,rfl,hj,ho,hr,hlt,ha,hB⟩:=hrel
  have sr:Sz r 600:=by
   refine sa.le ?_
   rcases Nat.eq_zero_or_pos r with h0 | h0
   ·omega
   ·have:=Nat.mul_le_mul h0 (Nat.le_refl r);omega
  rcases j with _ | j
  ·have d0:decide ((0:Int)≤((0:Nat):Int) - 1)=false:=decide_eq_false (by omega)
   rw[Nat.pow_zero] at hlt
   go_wp2
   exact bodyPost_ret (v:= .tuple #[u6,.int .i64 0]) (by simp[results,Tryz.results208,go_sem]) rfl ⟨r,_,rfl,ho,⟨hr,hlt⟩,hB⟩
  ·have e1:((j+1:Nat):Int) - 1=(j:Int):=by omega
   rw[e1]
   have d0:decide ((0:Int)≤(j:Int))=true:=decide_eq_true (by omega)
   have s2:Sz (2^j) 302:=(Sz.two_pow j).more (by omega)
   have hS:=fun v w h=>shl_any v 1 j (by omega) w h (Sz.one.more (by omega))
   rw[Nat.one_mul] at hS
   have hA:=fun u v w h h'=>radd_any u v r (2^j) w h h' (sr.fin (by omega)) (s2.fin (by omega))
   have sm:=sr.add s2
   have hP:=fun v w h=>rpower2_any v (r+2^j) w h (sm.more (by omega))
   have hC:=fun u v w (h:IsN w u ((r+2^j)*(r+2^j))) (h':IsN w v a)=>rcmp_any u v (limbs ((r+2^j)*(r+2^j))) (limbs a) w h h'
   rw[cmpL_nums] at hC
   have hpw:2^(j+1)=2^j+2^j:=by rw[Nat.pow_succ];omega
   rw[hpw] at hlt
   have HP:=Lib.hid hpw
   clear hpw e1
   generalize hp:2^j=p at *
   have HJ:=Lib.hid hp
   clear hp
   generalize hm:r+p=m at *
   have HM:=Lib.hid hm
   clear hm
   go_wp2_with fail
   refine (hO _).mono ?_
   rintro e w3 ⟨v1,rfl,h1,b3⟩
   replace ho:=ho.b b3
   replace ha:=ha.b b3
   replace hB:=bOn hB b3
   go_wp2_with fail
   refine (hS _ _ h1).mono ?_
   rintro e w4 ⟨v2,rfl,h2,b4⟩
   replace ho:=ho.b b4
   replace ha:=ha.b b4
   replace hB:=bOn hB b4
   go_wp2_with fail
   refine (hA _ _ _ ho h2).mono ?_
   rintro e w5 ⟨v3,rfl,h3,b5⟩
   replace ho:=ho.b b5
   replace ha:=ha.b b5
   replace hB:=bOn hB b5
   go_wp2_with fail
   refine (hP _ _ h3).mono ?_
   rintro e w6 ⟨v4,rfl,h4,b6⟩
   replace ho:=ho.b b6
   replace h3:=h3.b b6
   replace ha:=ha.b b6
   replace hB:=bOn hB b6
   by_cases hc:m*m≤a
   ·have hcc:cmpI ((m*m:Nat):Int) (a:Int)≤0:=by unfold cmpI;(repeat' split)<;>omega
    generalize cmpI ((m*m:Nat):Int) (a:Int)=cm at *
    have d1:decide (cm≤0)=true:=decide_eq_true hcc
    go_wp2_with fail
    refine (hC _ _ _ h4 ha).mono ?_
    rintro e w7 ⟨rfl,n7,rfl⟩
    replace h3:=h3.below (below_drewN (Below.refl _ _) n7)
    replace ha:=ha.below (below_drewN (Below.refl _ _) n7)
    replace hB:=below_drewN hB n7
    go_wp2
    exact⟨⟨j,m,by go_num,by omega,h3,hc,by rw[HJ.out,←HM.out,Nat.add_assoc];exact hlt,ha,hB⟩,by simp[intOf]⟩
   ·have hcc:¬cmpI ((m*m:Nat):Int) (a:Int)≤0:=by unfold cmpI;(repeat' split)<;>omega
    generalize cmpI ((m*m:Nat):Int) (a:Int)=cm at *
    have d1:decide (cm≤0)=false:=decide_eq_false hcc
    go_wp2_with fail
    refine (hC _ _ _ h4 ha).mono ?_
    rintro e w7 ⟨rfl,n7,rfl⟩
    replace ho:=ho.below (below_drewN (Below.refl _ _) n7)
    replace ha:=ha.below (below_drewN (Below.refl _ _) n7)
    replace hB:=below_drewN hB n7
    go_wp2
    exact⟨⟨j,r,by go_num,by omega,ho,hr,by rw[HJ.out,HM.out];omega,ha,hB⟩,by simp[intOf]⟩
theorem rroot_fn (va:Value) (a:Nat) (w:World) (ha:IsN w va a) (sa:Sz a 600):
 Calls Tryz.prog 208 #[va,.int .i64 2] w fun e w'=>∃v',e= .returned (.tuple #[v',.int .i64 0])∧IsN w' v' (rootN a)∧Below w.heap.size w w':=
 (rroot_any va a w ha sa).mono fun _ _ ⟨r,v',e,h1,h2,hB⟩=>⟨v',e,by rw[h2.uniq (rootN_is _)] at h1;exact h1,hB⟩
theorem square_any (v:Value) (a:Rat) (w:World) (h:IsQ w v a) (sa:BQ a 500):
 Calls Tryz.prog 155 #[v,.int .i64 60] w fun e w'=>∃v',e= .returned v'∧IsN w' v' (rootN (flN a))∧Below w.heap.size w w':=by
 obtain⟨s1,A1,L1,C1,D1,M1,E1,rfl,q1⟩:=h.opn
 have hS:=fun w h=>shl_any (.slice A1 L1 C1) a.num.natAbs 120 (by omega) w h (sa.1.more (by omega))
 rw[show ((120:Nat):Int)=120 from rfl] at hS
 have sx:Sz (a.num.natAbs*2^120) 502:=(sa.1.mul (Sz.two_pow 120)).more (by omega)
 have hD:=fun u w h h'=>divmod_any u (.slice D1 M1 E1) (a.num.natAbs*2^120) a.den w h h' (sx.more (by omega)) (sa.2.more (by omega)) a.den_pos
 have sq:Sz (a.num.natAbs*2^120 / a.den) 600:=(sz_flN sa).more (by omega)
 have hR:=fun v w h=>rroot_fn v (a.num.natAbs*2^120 / a.den) w h sq
 have HF:=Lib.hid (show flN a=a.num.natAbs*2^120 / a.den from rfl)
 obtain⟨P,hP⟩:∃P,P=2^120:=⟨_,rfl⟩
 rw[←hP] at hS hD hR HF
 clear hP sx sq sa h
 generalize hq:a.num.natAbs*P / a.den=q at *
 generalize hm:a.num.natAbs*P=m at *
 generalize hn:a.num.natAbs=n at *
 clear hq hm
 obtain⟨g,hg⟩:∃g,g=w.heap.size:=⟨_,rfl⟩
 obtain⟨Y0,eY0,hA,bY0⟩:=box1 w 32 #[.bool s1,.slice A1 L1 C1,.slice D1 M1 E1]
 have zY0:Y0.heap.size=g+1:=by rw[eY0,World.size_alloc,←hg]
 rw[←hg] at hA
 replace q1:=q1.b bY0
 have hB:=bY0
 have hgw:w.heap.size≤g:=by omega
 have EY:=Lib.hid (And.intro hg eY0)
 clear hg eY0 zY0
 obtain⟨c0,c1,c2⟩:=hA.q3
 go_enter Tryz.func155,Tryz.ntmps155
 have n1:=q1.parts.2.1.parts.2
 have d1:=q1.parts.2.2
 rw[hn] at n1
 go_wp2_with fail
 rw[←EY.out.2,←EY.out.1]
 refine (hS _ n1).mono ?_
 rintro e w2 ⟨v2,rfl,n2,b2⟩
 replace q1:=q1.b b2
 replace hA:=hA.b b2
 replace n1:=n1.b b2
 replace d1:=d1.b b2
 replace hB:=bOn hB b2
 clear c0 c1 c2
 obtain⟨c3,c4,c5⟩:=hA.q3
 go_wp2_with fail
 refine (hD _ _ n2 d1).mono ?_
 rintro e w4 ⟨v3,v4,rfl,n3, -,b4⟩
 replace q1:=q1.b b4
 replace hA:=hA.b b4
 replace n1:=n1.b b4
 replace d1:=d1.b b4
 replace n2:=n2.b b4
 replace hB:=bOn hB b4
 clear c3 c4 c5
 obtain⟨c6,c7,c8⟩:=hA.q3
 go_wp2_with fail
 refine (hR _ _ n3).mono ?_
 rintro e w6 ⟨v5,rfl,n5,b6⟩
 replace q1:=q1.b b6
 replace hA:=hA.b b6
 replace n1:=n1.b b6
 replace d1:=d1.b b6
 replace n2:=n2.b b6
 replace n3:=n3.b b6
 replace hB:=bOn hB b6
 clear c6 c7 c8
 obtain⟨c9,c10,c11⟩:=hA.q3
 go_wp2
 go_ret
 exact⟨_,rfl,by rw[HF.out];exact n5,hB⟩
theorem square_up (b:Rat) (hb:0≤b):(if cmpQ (mkRat (rootN (flN b):Nat) (2^60)*mkRat (rootN (flN b):Nat) (2^60)) b<0 then rootN (flN b)+1 else rootN (flN b))=rtUp (clN b) (rootN (clN b)):=by
 have hd:=b.den_pos
 have hn:0≤b.num:=Rat.num_nonneg.2 hb
 obtain⟨N,hN⟩:∃N:Nat,b.num=N:=⟨b.num.toNat,by omega⟩
 obtain⟨h1,h2⟩:=rootN_is (flN b)
 have h3:=rootN_is (clN b)
 have hcl:clN b=flN b+if N*2^120 % b.den=0 then 0 else 1:=by unfold clN flN;rw[hN];rfl
 have hfl:flN b=N*2^120 / b.den:=by unfold flN;rw[hN];rfl
 generalize rootN (flN b)=n at *
 have key:cmpQ (mkRat (n:Nat) (2^60)*mkRat (n:Nat) (2^60)) b<0↔n*n*b.den<N*2^120:=by
  rw[cmpQ_lt_iff]
  have e1:=mkP_mul (n:Int) 60
  have hP:=powQ_pos 60
  have e2:((2^60:Nat):Rat)*((2^60:Nat):Rat)=((2^120:Nat):Rat):=by decide+kernel
  generalize mkRat (n:Int) (2^60)=x at *
  generalize ((2^60:Nat):Rat)=P at *
  have e3:=mul_den b
  rw[hN] at e3
  have hD:=den_posQ b
  have hPD:0<P*P*(b.den:Rat):=Rat.mul_pos (Rat.mul_pos hP hP) hD
  have e4:x*x*(P*P*(b.den:Rat))=((n*n*b.den:Nat):Rat):=by
   have :x*x*(P*P*(b.den:Rat))=(x*P)*(x*P)*(b.den:Rat):=by grind
   rw[this,e1,show (((n:Nat):Int):Rat)=((n:Nat):Rat) from rfl,Rat.natCast_mul,Rat.natCast_mul]
  have e5:b*(P*P*(b.den:Rat))=((N*2^120:Nat):Rat):=by
   have :b*(P*P*(b.den:Rat))=(b*(b.den:Rat))*(P*P):=by grind
   rw[this,e3,e2,show (((N:Nat):Int):Rat)=((N:Nat):Rat) from rfl,Rat.natCast_mul]
  constructor
  ·intro h
   have:=Rat.mul_lt_mul_of_pos_right h hPD
   rw[e4,e5] at this
   exact Rat.natCast_lt_natCast.1 this
  ·intro h
   refine Rat.lt_of_mul_lt_mul_right (c:=P*P*(b.den:Rat)) ?_ (Rat.le_of_lt hPD)
   rw[e4,e5]
   exact Rat.natCast_lt_natCast.2 h
 generalize N*2^120=X at *
 have hdm:=Nat.div_add_mod X b.den
 have hmod:=Nat.mod_lt X hd
 rw[←hfl] at hdm
 generalize X % b.den=m at *
 generalize flN b=F at *
 obtain⟨k1,k2⟩:=h3
 generalize clN b=c at *
 generalize rootN c=r at *
 have hx:n*n*b.den<X↔n*n<c:=by
  rw[hcl]
  constructor
  ·intro h
   by_cases hm:m=0
   ·rw[if_pos hm]
    rw[hm,Nat.add_zero] at hdm
    rw[←hdm,Nat.mul_comm] at h
    exact Nat.lt_of_mul_lt_mul_left h
   ·rw[if_neg hm];omega
  ·intro h
   by_cases hm:m=0
   ·rw[if_pos hm,Nat.add_zero] at h
    have:=Nat.mul_lt_mul_of_pos_right h hd
    rw[Nat.mul_comm F] at this
    omega
   ·have:=Nat.mul_le_mul_right b.den h1
    rw[Nat.mul_comm F] at this
    omega
 have hrt:∀s,s*s≤c→c<(s+1)*(s+1)→s=r:=fun s a1 a2=>IsRt.uniq ⟨a1,a2⟩ ⟨k1,k2⟩
 unfold rtUp
 by_cases hlt:n*n<c
 ·rw[if_pos (key.2 (hx.2 hlt))]
  by_cases hc2:c<(n+1)*(n+1)
  ·have:=hrt n (by omega) hc2
   subst this
   rw[if_pos hlt]
  ·have e:c=(n+1)*(n+1):=by
    have :c≤F+1:=by rw[hcl];split<;>omega
    omega
   have:=hrt (n+1) (by omega) (by rw[e];exact Nat.mul_lt_mul_of_lt_of_lt (by omega) (by omega))
   subst this
   rw[if_neg (by omega)]
 ·rw[if_neg (fun h=>hlt (hx.1 (key.1 h)))]
  have hF:F≤c:=by rw[hcl];omega
  have e:c=n*n:=by omega
  have:=hrt n (by omega) (by rw[e];exact Nat.mul_lt_mul_of_lt_of_lt (by omega) (by omega))
  subst this
  rw[if_neg (by omega)]
theorem rsqrt_more (v:Value) (a b:Rat) (w:World) (h:IsS w v a b) (sa:BQ a 500) (sb:BQ b 500) (na:¬a.num<0) (nb:0≤b) (hm:cmpQ (mkRat (rootN (flN b):Nat) (2^60)*mkRat (rootN (flN b):Nat) (2^60)) b<0):
 Calls Tryz.prog 92 #[v,.int .i64 60] w fun e w'=>∃v',e= .returned (.tuple #[v',.int .i64 0])∧IsS w' v' (sqLo a) (sqHi b)∧Below w.heap.size w w':=by
 obtain⟨s1,A1,L1,C1,D1,M1,E1,s2,A2,L2,C2,D2,M2,E2,rfl,q1,q2⟩:=h.opn
 obtain rfl:s1=false:=by rw[q1.parts.1];exact decide_eq_false na
 have hup:=square_up b nb
 have hSa:=fun w h=>square_any (.agg #[.bool false,.slice A1 L1 C1,.slice D1 M1 E1]) a w h sa
 have hSb:=fun w h=>square_any (.agg #[.bool s2,.slice A2 L2 C2,.slice D2 M2 E2]) b w h sb
 have sra:Sz (rootN (flN a)) 502:=(sz_flN sa).le (rootN_is _).le
 have srb:Sz (rootN (flN b)) 502:=(sz_flN sb).le (rootN_is _).le
 have hBa:=fun u w h=>back_any u (rootN (flN a):Int) 60 w h (by omega) (by rw[Int.natAbs_natCast];exact sra.more (by omega))
 have hBb:=fun u w h=>back_any u (rootN (flN b):Int) 60 w h (by omega) (by rw[Int.natAbs_natCast];exact srb.more (by omega))
 have hBc:=fun u w h=>back_any u ((rootN (flN b)+1:Nat):Int) 60 w h (by omega) (by rw[Int.natAbs_natCast];exact (srb.add Sz.one).more (by omega))
 rw[show ((60:Nat):Int)=60 from rfl] at hBa hBb hBc
 have szb:=sz60 (k:=600) (srb.more (by omega)) (by omega)
 have hM:=fun u v w h h'=>rqmul_any u v (mkRat (rootN (flN b):Nat) (2^60)) (mkRat (rootN (flN b):Nat) (2^60)) w h h' (szb.more (by omega)) (szb.more (by omega))
 have hC:=fun u v w h h'=>rqcmp_any u v (mkRat (rootN (flN b):Nat) (2^60)*mkRat (rootN (flN b):Nat) (2^60)) b w h h' ((szb.mul szb).more (by omega)) (sb.more (by omega))
 have hO:=fun w=>rof_any 1 (by unfold W64;omega) w
 rw[show ((1:Nat):Int)=1 from rfl] at hO
 have hAd:=fun u v w h h'=>radd_any u v (rootN (flN b)) 1 w h h' (srb.fin (by omega)) (Sz.one.fin (by omega))
 rw[if_pos hm] at hup
 have hH:sqHi b=mkRat ((rootN (flN b)+1:Nat):Int) (2^60):=by unfold sqHi;rw[←hup]
 have hL:sqLo a=mkRat (rootN (flN a):Nat) (2^60):=rfl
 have HZ:=Lib.hid (And.intro hL hH)
 clear hL hH hup sra srb szb sa sb na nb h
 generalize cmpQ (mkRat (rootN (flN b):Nat) (2^60)*mkRat (rootN (flN b):Nat) (2^60)) b=cm at *
 have hd:decide (cm<0)=true:=decide_eq_true hm
 clear hm
 generalize mkRat (rootN (flN b):Nat) (2^60)*mkRat (rootN (flN b):Nat) (2^60)=zz at *
 generalize mkRat ((rootN (flN b)+1:Nat):Int) (2^60)=zc at *
 generalize mkRat (rootN (flN b):Nat) (2^60)=zb at *
 generalize mkRat (rootN (flN a):Nat) (2^60)=za at *
 generalize rootN (flN b)=rb at *
 generalize rootN (flN a)=ra at *
 obtain⟨g,Y1,hA,hR,hB,hgw,EY⟩:=boxes2 w 46 #[.bool false,.slice A1 L1 C1,.slice D1 M1 E1,.bool s2,.slice A2 L2 C2,.slice D2 M2 E2] 46 #[.bool false,.slice none 0 0,.slice none 0 0,.bool false,.slice none 0 0,.slice none 0 0]
 replace q1:=q1.b hB
 replace q2:=q2.b hB
 obtain⟨c0,c1,c2,c3,c4,c5⟩:=hA.q6
 obtain⟨c6,c7,c8,c9,c10,c11⟩:=hR.q6
 go_enter Tryz.func92,Tryz.ntmps92
 go_wp2_with fail
 rw[←EY.out.2,←EY.out.1]
 refine (hSa _ q1).mono ?_
 rintro e w2 ⟨v3,rfl,n3,b2⟩
 replace q1:=q1.b b2
 replace q2:=q2.b b2
 replace hA:=hA.b b2
 replace hR:=hR.b b2
 replace hB:=bOn hB b2
 clear c0 c1 c2 c3 c4 c5 c6 c7 c8 c9 c10 c11
 obtain⟨c12,c13,c14,c15,c16,c17⟩:=hA.q6
 obtain⟨c18,c19,c20,c21,c22,c23⟩:=hR.q6
 obtain⟨A3,L3,C3,rfl,n3⟩:=n3.opn
 go_wp2_with fail
 refine (hBa _ _ (zN n3)).mono ?_
 rintro e w4 ⟨v4,rfl,q4,b4⟩
 replace q1:=q1.b b4
 replace q2:=q2.b b4
 replace hA:=hA.b b4
 replace hR:=hR.b b4
 replace n3:=n3.b b4
 replace hB:=bOn hB b4
 clear c12 c13 c14 c15 c16 c17 c18 c19 c20 c21 c22 c23
 obtain⟨c24,c25,c26,c27,c28,c29⟩:=hA.q6
 obtain⟨c30,c31,c32,c33,c34,c35⟩:=hR.q6
 obtain⟨s4,A4,L4,C4,D4,M4,E4,rfl,q4⟩:=q4.opn
 obtain⟨X6,V6,h6,bV6,lX6,nX6,EV6⟩:=boxL hB 32 #[.bool s4,.slice A4 L4 C4,.slice D4 M4 E4]
 have dX6_hA:=nX6 _ hA.lt
 have dX6_hR:=nX6 _ hR.lt
 clear nX6
 go_upto_region 4 with fail
 rw[←EV6.out.1,←EV6.out.2]
 replace q1:=q1.b bV6
 replace q2:=q2.b bV6
 replace hA:=hA.b bV6
 replace hR:=hR.b bV6
 replace q4:=q4.b bV6
 replace hB:=bOn hB bV6
 clear c24 c25 c26 c27 c28 c29 c30 c31 c32 c33 c34 c35
 obtain⟨c36,c37,c38,c39,c40,c41⟩:=hA.q6
 obtain⟨c42,c43,c44,c45,c46,c47⟩:=hR.q6
 obtain⟨c48,c49,c50⟩:=h6.q3
 go_wp2_with fail
 refine (hSb _ q2).mono ?_
 rintro e w8 ⟨v5,rfl,n5,b8⟩
 replace q1:=q1.b b8
 replace q2:=q2.b b8
 replace hA:=hA.b b8
 replace hR:=hR.b b8
 replace q4:=q4.b b8
 replace h6:=h6.b b8
 replace hB:=bOn hB b8
 clear c36 c37 c38 c39 c40 c41 c42 c43 c44 c45 c46 c47 c48 c49 c50
 obtain⟨c51,c52,c53,c54,c55,c56⟩:=hA.q6
 obtain⟨c57,c58,c59,c60,c61,c62⟩:=hR.q6
 obtain⟨c63,c64,c65⟩:=h6.q3
 obtain⟨A5,L5,C5,rfl,n5⟩:=n5.opn
 go_wp2_with fail
 refine (hBb _ _ (zN n5)).mono ?_
 rintro e w10 ⟨v6,rfl,q6,b10⟩
 replace q1:=q1.b b10
 replace q2:=q2.b b10
 replace hA:=hA.b b10
 replace hR:=hR.b b10
 replace q4:=q4.b b10
 replace h6:=h6.b b10
 replace n5:=n5.b b10
 replace hB:=bOn hB b10
 clear c51 c52 c53 c54 c55 c56 c57 c58 c59 c60 c61 c62 c63 c64 c65
 obtain⟨c66,c67,c68,c69,c70,c71⟩:=hA.q6
 obtain⟨c72,c73,c74,c75,c76,c77⟩:=hR.q6
 obtain⟨c78,c79,c80⟩:=h6.q3
 obtain⟨s6,A6,L6,C6,D6,M6,E6,rfl,q6⟩:=q6.opn
 obtain⟨X12,V12,h9,bV12,lX12,nX12,EV12⟩:=boxL hB 32 #[.bool s6,.slice A6 L6 C6,.slice D6 M6 E6]
 have dX12_hA:=nX12 _ hA.lt
 have dX12_hR:=nX12 _ hR.lt
 have dX12_h6:=nX12 _ h6.lt
 clear nX12
 go_upto_region 6 with fail
 rw[←EV12.out.1,←EV12.out.2]
 replace q1:=q1.b bV12
 replace q2:=q2.b bV12
 replace hA:=hA.b bV12
 replace hR:=hR.b bV12
 replace q4:=q4.b bV12
 replace h6:=h6.b bV12
 replace n5:=n5.b bV12
 replace q6:=q6.b bV12
 replace hB:=bOn hB bV12
 clear c66 c67 c68 c69 c70 c71 c72 c73 c74 c75 c76 c77 c78 c79 c80
 obtain⟨c81,c82,c83,c84,c85,c86⟩:=hA.q6
 obtain⟨c87,c88,c89,c90,c91,c92⟩:=hR.q6
 obtain⟨c93,c94,c95⟩:=h6.q3
 obtain⟨c96,c97,c98⟩:=h9.q3
 replace hB:=hB.drew
 replace q1:=q1.b (bdrew _)
 replace q2:=q2.b (bdrew _)
 replace hA:=hA.drew
 replace hR:=hR.drew
 replace q4:=q4.b (bdrew _)
 replace h6:=h6.drew
 replace n5:=n5.b (bdrew _)
 replace q6:=q6.b (bdrew _)
 replace h9:=h9.drew
 clear c81 c82 c83 c84 c85 c86 c87 c88 c89 c90 c91 c92 c93 c94 c95 c96 c97 c98
 refine wp_region_noPanic ?_
 refine wp_region_held_drew (S:=fun w'=>w'.cell? ⟨X12,0,none⟩=some (.bool s6)∧w'.cell? ⟨X12,1,none⟩=some (.slice A6 L6 C6)∧w'.cell? ⟨X12,2,none⟩=some (.slice D6 M6 E6)∧w'.cell? ⟨g,0,none⟩=some (.bool false)∧w'.cell? ⟨g,1,none⟩=some (.slice A1 L1 C1)∧w'.cell? ⟨g,2,none⟩=some (.slice D1 M1 E1)∧w'.cell? ⟨g,3,none⟩=some (.bool s2)∧w'.cell? ⟨g,4,none⟩=some (.slice A2 L2 C2)∧w'.cell? ⟨g,5,none⟩=some (.slice D2 M2 E2)) (by kernel_rfl) ?_ (fun hHeld=>?_)
 ·exact⟨h9.cell 0,h9.cell 1,h9.cell 2,hA.cell 0,hA.cell 1,hA.cell 2,hA.cell 3,hA.cell 4,hA.cell 5⟩
 obtain⟨wd6_1,hwd⟩:∃q,q=V12.drew:=⟨_,rfl⟩
 rw[←hwd] at hB q1 q2 hA hR q4 h6 n5 q6 h9 hHeld ⊢
 clear hwd
 refine tkA 0 rfl ?_
 refine tkA 1 rfl ?_
 refine tkA 3 rfl ?_
 refine tkA 4 rfl ?_
 try simp only[Act.put,lay]
 refine rd1 2 rfl fun K hK=>?_
 go_simp
 refine (hM _ _ _ q6 q6).mono ?_
 rintro e u6_1 ⟨v7,rfl,q7,b6_1⟩
 replace q1:=q1.b b6_1
 replace q2:=q2.b b6_1
 replace hA:=hA.b b6_1
 replace hR:=hR.b b6_1
 replace q4:=q4.b b6_1
 replace h6:=h6.b b6_1
 replace n5:=n5.b b6_1
 replace q6:=q6.b b6_1
 replace h9:=h9.b b6_1
 replace hB:=bOn hB b6_1
 go_wp2_with fail
 refine hK.out _ _ ?_ fun hHeld=>?_
 ·exact⟨h9.cell 0,h9.cell 1,h9.cell 2,hA.cell 0,hA.cell 1,hA.cell 2,hA.cell 3,hA.cell 4,hA.cell 5⟩
 clear hK K
 try simp only[Act.put,lay]
 refine rd1 5 rfl fun K hK=>?_
 go_simp
 refine (hC _ _ _ q7 q2).mono ?_
 rintro e u6_2 ⟨rfl,b6_2⟩
 replace q1:=q1.b b6_2
 replace q2:=q2.b b6_2
 replace hA:=hA.b b6_2
 replace hR:=hR.b b6_2
 replace q4:=q4.b b6_2
 replace h6:=h6.b b6_2
 replace n5:=n5.b b6_2
 replace q6:=q6.b b6_2
 replace h9:=h9.b b6_2
 replace q7:=q7.b b6_2
 replace hB:=bOn hB b6_2
 go_wp2_with fail
 refine hK.out _ _ ?_ fun hHeld=>?_
 ·exact⟨h9.cell 0,h9.cell 1,h9.cell 2,hA.cell 0,hA.cell 1,hA.cell 2,hA.cell 3,hA.cell 4,hA.cell 5⟩
 clear hK K
 refine tkA 6 rfl ?_
 try simp only[Act.put,lay]
 try dsimp only
 try simp only[Act.put,lay]
 refine wpAnyH_done (by kernel_rfl) ?_ _
 refine NoPanic.normal ?_
 skip
 obtain⟨c99,c100,c101,c102,c103,c104⟩:=hA.q6
 obtain⟨c105,c106,c107,c108,c109,c110⟩:=hR.q6
 obtain⟨c111,c112,c113⟩:=h6.q3
 obtain⟨c114,c115,c116⟩:=h9.q3
 go_wp2_with fail
 refine (hO _).mono ?_
 rintro e w16 ⟨v8,rfl,n8,b16⟩
 replace q1:=q1.b b16
 replace q2:=q2.b b16
 replace hA:=hA.b b16
 replace hR:=hR.b b16
 replace q4:=q4.b b16
 replace h6:=h6.b b16
 replace n5:=n5.b b16
 replace q6:=q6.b b16
 replace h9:=h9.b b16
 replace hB:=bOn hB b16
 clear c99 c100 c101 c102 c103 c104 c105 c106 c107 c108 c109 c110 c111 c112 c113 c114 c115 c116
 obtain⟨c117,c118,c119,c120,c121,c122⟩:=hA.q6
 obtain⟨c123,c124,c125,c126,c127,c128⟩:=hR.q6
 obtain⟨c129,c130,c131⟩:=h6.q3
 obtain⟨c132,c133,c134⟩:=h9.q3
 go_wp2_with fail
 refine (hAd _ _ _ n5 n8).mono ?_
 rintro e w18 ⟨v9,rfl,n9,b18⟩
 replace q1:=q1.b b18
 replace q2:=q2.b b18
 replace hA:=hA.b b18
 replace hR:=hR.b b18
 replace q4:=q4.b b18
 replace h6:=h6.b b18
 replace n5:=n5.b b18
 replace q6:=q6.b b18
 replace h9:=h9.b b18
 replace n8:=n8.b b18
 replace hB:=bOn hB b18
 clear c117 c118 c119 c120 c121 c122 c123 c124 c125 c126 c127 c128 c129 c130 c131 c132 c133 c134
 obtain⟨c135,c136,c137,c138,c139,c140⟩:=hA.q6
 obtain⟨c141,c142,c143,c144,c145,c146⟩:=hR.q6
 obtain⟨c147,c148,c149⟩:=h6.q3
 obtain⟨c150,c151,c152⟩:=h9.q3
 obtain⟨A9,L9,C9,rfl,n9⟩:=n9.opn
 go_wp2_with fail
 refine (hBc _ _ (zN n9)).mono ?_
 rintro e w20 ⟨v10,rfl,q10,b20⟩
 replace q1:=q1.b b20
 replace q2:=q2.b b20
 replace hA:=hA.b b20
 replace hR:=hR.b b20
 replace q4:=q4.b b20
 replace h6:=h6.b b20
 replace n5:=n5.b b20
 replace q6:=q6.b b20
 replace h9:=h9.b b20
 replace n9:=n9.b b20
 replace hB:=bOn hB b20
 clear c135 c136 c137 c138 c139 c140 c141 c142 c143 c144 c145 c146 c147 c148 c149 c150 c151 c152
 obtain⟨c153,c154,c155,c156,c157,c158⟩:=hA.q6
 obtain⟨c159,c160,c161,c162,c163,c164⟩:=hR.q6
 obtain⟨c165,c166,c167⟩:=h6.q3
 obtain⟨c168,c169,c170⟩:=h9.q3
 obtain⟨s10,A10,L10,C10,D10,M10,E10,rfl,q10⟩:=q10.opn
 obtain⟨X22,V22,h11,bV22,lX22,nX22,EV22⟩:=boxL hB 32 #[.bool s10,.slice A10 L10 C10,.slice D10 M10 E10]
 have dX22_hA:=nX22 _ hA.lt
 have dX22_hR:=nX22 _ hR.lt
 have dX22_h6:=nX22 _ h6.lt
 have dX22_h9:=nX22 _ h9.lt
 clear nX22
 go_upto_region 8 with fail
 rw[←EV22.out.1,←EV22.out.2]
 replace q1:=q1.b bV22
 replace q2:=q2.b bV22
 replace hA:=hA.b bV22
 replace hR:=hR.b bV22
 replace q4:=q4.b bV22
 replace h6:=h6.b bV22
 replace h9:=h9.b bV22
 replace q10:=q10.b bV22
 replace hB:=bOn hB bV22
 clear c153 c154 c155 c156 c157 c158 c159 c160 c161 c162 c163 c164 c165 c166 c167 c168 c169 c170
 obtain⟨c171,c172,c173,c174,c175,c176⟩:=hA.q6
 obtain⟨c177,c178,c179,c180,c181,c182⟩:=hR.q6
 obtain⟨c183,c184,c185⟩:=h6.q3
 obtain⟨c186,c187,c188⟩:=h9.q3
 obtain⟨c189,c190,c191⟩:=h11.q3
 obtain⟨W8,eW,f1,f2,f3,f4⟩:=fill3 h9 (.bool s10) (.slice A10 L10 C10) (.slice D10 M10 E10) (by simp[noU])
 have xf:=h9.frozen
 go_upto_region 9 with fail
 rw[←eW]
 replace hR:=f3 _ _ _ hR (by omega)
 replace h6:=f3 _ _ _ h6 (by omega)
 replace q4:=q4.filled f2
 replace q10:=q10.filled f2
 replace hB:=f4 _ _ (by omega) hB
 clear eW f2 f3 f4 xf hA q1 q2 h11
 replace h9:=f1
 clear c171 c172 c173 c174 c175 c176 c177 c178 c179 c180 c181 c182 c183 c184 c185 c186 c187 c188 c189 c190 c191
 obtain⟨c192,c193,c194,c195,c196,c197⟩:=hR.q6
 obtain⟨c198,c199,c200⟩:=h6.q3
 obtain⟨c201,c202,c203⟩:=h9.q3
 obtain⟨p1,p2,p3⟩:=put6 hR (.bool s4) (.slice A4 L4 C4) (.slice D4 M4 E4) (.bool s10) (.slice A10 L10 C10) (.slice D10 M10 E10) (by simp[noU]) hB (by omega)
 have rc0:World.cell? _ ⟨g+1,0,none⟩=some (.bool false):=hR.cell 0
 have rf0:=hR.frozen 0
 have rc1:World.cell? _ ⟨g+1,1,none⟩=some (.slice none 0 0):=hR.cell 1
 have rf1:=hR.frozen 1
 have rc2:World.cell? _ ⟨g+1,2,none⟩=some (.slice none 0 0):=hR.cell 2
 have rf2:=hR.frozen 2
 have rc3:World.cell? _ ⟨g+1,3,none⟩=some (.bool false):=hR.cell 3
 have rf3:=hR.frozen 3
 have rc4:World.cell? _ ⟨g+1,4,none⟩=some (.slice none 0 0):=hR.cell 4
 have rf4:=hR.frozen 4
 have rc5:World.cell? _ ⟨g+1,5,none⟩=some (.slice none 0 0):=hR.cell 5
 have rf5:=hR.frozen 5
 have P:=Lib.hid (And.intro (⟨_,_,_,_,_,_,rfl,q4.kept p2,q10.kept p2⟩:IsS _ _ za zc) (And.intro p3 p1.cells6))
 clear p1 p2 p3
 go_wp2_with fail
 obtain⟨P1,P2,P3,P4,P5,P6,P7,P8⟩:=P.out
 exact bodyPost_ret (v:= .tuple #[.agg #[.bool s4,.slice A4 L4 C4,.slice D4 M4 E4,.bool s10,.slice A10 L10 C10,.slice D10 M10 E10],.int .i64 0]) (by simp[results,Tryz.results92,go_sem,P3,P4,P5,P6,P7,P8]) rfl ⟨_,rfl,by rw[HZ.out.1,HZ.out.2];exact P1,P2⟩
theorem rsqrt_same (v:Value) (a b:Rat) (w:World) (h:IsS w v a b) (sa:BQ a 500) (sb:BQ b 500) (na:¬a.num<0) (nb:0≤b) (hm:¬cmpQ (mkRat (rootN (flN b):Nat) (2^60)*mkRat (rootN (flN b):Nat) (2^60)) b<0):
 Calls Tryz.prog 92 #[v,.int .i64 60] w fun e w'=>∃v',e= .returned (.tuple #[v',.int .i64 0])∧IsS w' v' (sqLo a) (sqHi b)∧Below w.heap.size w w':=by
 obtain⟨s1,A1,L1,C1,D1,M1,E1,s2,A2,L2,C2,D2,M2,E2,rfl,q1,q2⟩:=h.opn
 obtain rfl:s1=false:=by rw[q1.parts.1];exact decide_eq_false na
 have hup:=square_up b nb
 have hSa:=fun w h=>square_any (.agg #[.bool false,.slice A1 L1 C1,.slice D1 M1 E1]) a w h sa
 have hSb:=fun w h=>square_any (.agg #[.bool s2,.slice A2 L2 C2,.slice D2 M2 E2]) b w h sb
 have sra:Sz (rootN (flN a)) 502:=(sz_flN sa).le (rootN_is _).le
 have srb:Sz (rootN (flN b)) 502:=(sz_flN sb).le (rootN_is _).le
 have hBa:=fun u w h=>back_any u (rootN (flN a):Int) 60 w h (by omega) (by rw[Int.natAbs_natCast];exact sra.more (by omega))
 have hBb:=fun u w h=>back_any u (rootN (flN b):Int) 60 w h (by omega) (by rw[Int.natAbs_natCast];exact srb.more (by omega))
 have hBc:=fun u w h=>back_any u ((rootN (flN b)+1:Nat):Int) 60 w h (by omega) (by rw[Int.natAbs_natCast];exact (srb.add Sz.one).more (by omega))
 rw[show ((60:Nat):Int)=60 from rfl] at hBa hBb hBc
 have szb:=sz60 (k:=600) (srb.more (by omega)) (by omega)
 have hM:=fun u v w h h'=>rqmul_any u v (mkRat (rootN (flN b):Nat) (2^60)) (mkRat (rootN (flN b):Nat) (2^60)) w h h' (szb.more (by omega)) (szb.more (by omega))
 have hC:=fun u v w h h'=>rqcmp_any u v (mkRat (rootN (flN b):Nat) (2^60)*mkRat (rootN (flN b):Nat) (2^60)) b w h h' ((szb.mul szb).more (by omega)) (sb.more (by omega))
 have hO:=fun w=>rof_any 1 (by unfold W64;omega) w
 rw[show ((1:Nat):Int)=1 from rfl] at hO
 have hAd:=fun u v w h h'=>radd_any u v (rootN (flN b)) 1 w h h' (srb.fin (by omega)) (Sz.one.fin (by omega))
 rw[if_neg hm] at hup
 have hH:sqHi b=mkRat ((rootN (flN b):Nat):Int) (2^60):=by unfold sqHi;rw[←hup]
 have hL:sqLo a=mkRat (rootN (flN a):Nat) (2^60):=rfl
 have HZ:=Lib.hid (And.intro hL hH)
 clear hL hH hup sra srb szb sa sb na nb h
 generalize cmpQ (mkRat (rootN (flN b):Nat) (2^60)*mkRat (rootN (flN b):Nat) (2^60)) b=cm at *
 have hd:decide (cm<0)=false:=decide_eq_false hm
 clear hm
 generalize mkRat (rootN (flN b):Nat) (2^60)*mkRat (rootN (flN b):Nat) (2^60)=zz at *
 generalize mkRat ((rootN (flN b)+1:Nat):Int) (2^60)=zc at *
 generalize mkRat (rootN (flN b):Nat) (2^60)=zb at *
 generalize mkRat (rootN (flN a):Nat) (2^60)=za at *
 generalize rootN (flN b)=rb at *
 generalize rootN (flN a)=ra at *
 obtain⟨g,Y1,hA,hR,hB,hgw,EY⟩:=boxes2 w 46 #[.bool false,.slice A1 L1 C1,.slice D1 M1 E1,.bool s2,.slice A2 L2 C2,.slice D2 M2 E2] 46 #[.bool false,.slice none 0 0,.slice none 0 0,.bool false,.slice none 0 0,.slice none 0 0]
 replace q1:=q1.b hB
 replace q2:=q2.b hB
 obtain⟨c0,c1,c2,c3,c4,c5⟩:=hA.q6
 obtain⟨c6,c7,c8,c9,c10,c11⟩:=hR.q6
 go_enter Tryz.func92,Tryz.ntmps92
 go_wp2_with fail
 rw[←EY.out.2,←EY.out.1]
 refine (hSa _ q1).mono ?_
 rintro e w2 ⟨v3,rfl,n3,b2⟩
 replace q1:=q1.b b2
 replace q2:=q2.b b2
 replace hA:=hA.b b2
 replace hR:=hR.b b2
 replace hB:=bOn hB b2
 clear c0 c1 c2 c3 c4 c5 c6 c7 c8 c9 c10 c11
 obtain⟨c12,c13,c14,c15,c16,c17⟩:=hA.q6
 obtain⟨c18,c19,c20,c21,c22,c23⟩:=hR.q6
 obtain⟨A3,L3,C3,rfl,n3⟩:=n3.opn
 go_wp2_with fail
 refine (hBa _ _ (zN n3)).mono ?_
 rintro e w4 ⟨v4,rfl,q4,b4⟩
 replace q1:=q1.b b4
 replace q2:=q2.b b4
 replace hA:=hA.b b4
 replace hR:=hR.b b4
 replace n3:=n3.b b4
 replace hB:=bOn hB b4
 clear c12 c13 c14 c15 c16 c17 c18 c19 c20 c21 c22 c23
 obtain⟨c24,c25,c26,c27,c28,c29⟩:=hA.q6
 obtain⟨c30,c31,c32,c33,c34,c35⟩:=hR.q6
 obtain⟨s4,A4,L4,C4,D4,M4,E4,rfl,q4⟩:=q4.opn
 obtain⟨X6,V6,h6,bV6,lX6,nX6,EV6⟩:=boxL hB 32 #[.bool s4,.slice A4 L4 C4,.slice D4 M4 E4]
 have dX6_hA:=nX6 _ hA.lt
 have dX6_hR:=nX6 _ hR.lt
 clear nX6
 go_upto_region 4 with fail
 rw[←EV6.out.1,←EV6.out.2]
 replace q1:=q1.b bV6
 replace q2:=q2.b bV6
 replace hA:=hA.b bV6
 replace hR:=hR.b bV6
 replace q4:=q4.b bV6
 replace hB:=bOn hB bV6
 clear c24 c25 c26 c27 c28 c29 c30 c31 c32 c33 c34 c35
 obtain⟨c36,c37,c38,c39,c40,c41⟩:=hA.q6
 obtain⟨c42,c43,c44,c45,c46,c47⟩:=hR.q6
 obtain⟨c48,c49,c50⟩:=h6.q3
 go_wp2_with fail
 refine (hSb _ q2).mono ?_
 rintro e w8 ⟨v5,rfl,n5,b8⟩
 replace q1:=q1.b b8
 replace q2:=q2.b b8
 replace hA:=hA.b b8
 replace hR:=hR.b b8
 replace q4:=q4.b b8
 replace h6:=h6.b b8
 replace hB:=bOn hB b8
 clear c36 c37 c38 c39 c40 c41 c42 c43 c44 c45 c46 c47 c48 c49 c50
 obtain⟨c51,c52,c53,c54,c55,c56⟩:=hA.q6
 obtain⟨c57,c58,c59,c60,c61,c62⟩:=hR.q6
 obtain⟨c63,c64,c65⟩:=h6.q3
 obtain⟨A5,L5,C5,rfl,n5⟩:=n5.opn
 go_wp2_with fail
 refine (hBb _ _ (zN n5)).mono ?_
 rintro e w10 ⟨v6,rfl,q6,b10⟩
 replace q1:=q1.b b10
 replace q2:=q2.b b10
 replace hA:=hA.b b10
 replace hR:=hR.b b10
 replace q4:=q4.b b10
 replace h6:=h6.b b10
 replace n5:=n5.b b10
 replace hB:=bOn hB b10
 clear c51 c52 c53 c54 c55 c56 c57 c58 c59 c60 c61 c62 c63 c64 c65
 obtain⟨c66,c67,c68,c69,c70,c71⟩:=hA.q6
 obtain⟨c72,c73,c74,c75,c76,c77⟩:=hR.q6
 obtain⟨c78,c79,c80⟩:=h6.q3
 obtain⟨s6,A6,L6,C6,D6,M6,E6,rfl,q6⟩:=q6.opn
 obtain⟨X12,V12,h9,bV12,lX12,nX12,EV12⟩:=boxL hB 32 #[.bool s6,.slice A6 L6 C6,.slice D6 M6 E6]
 have dX12_hA:=nX12 _ hA.lt
 have dX12_hR:=nX12 _ hR.lt
 have dX12_h6:=nX12 _ h6.lt
 clear nX12
 go_upto_region 6 with fail
 rw[←EV12.out.1,←EV12.out.2]
 replace q1:=q1.b bV12
 replace q2:=q2.b bV12
 replace hA:=hA.b bV12
 replace hR:=hR.b bV12
 replace q4:=q4.b bV12
 replace h6:=h6.b bV12
 replace n5:=n5.b bV12
 replace q6:=q6.b bV12
 replace hB:=bOn hB bV12
 clear c66 c67 c68 c69 c70 c71 c72 c73 c74 c75 c76 c77 c78 c79 c80
 obtain⟨c81,c82,c83,c84,c85,c86⟩:=hA.q6
 obtain⟨c87,c88,c89,c90,c91,c92⟩:=hR.q6
 obtain⟨c93,c94,c95⟩:=h6.q3
 obtain⟨c96,c97,c98⟩:=h9.q3
 replace hB:=hB.drew
 replace q1:=q1.b (bdrew _)
 replace q2:=q2.b (bdrew _)
 replace hA:=hA.drew
 replace hR:=hR.drew
 replace q4:=q4.b (bdrew _)
 replace h6:=h6.drew
 replace n5:=n5.b (bdrew _)
 replace q6:=q6.b (bdrew _)
 replace h9:=h9.drew
 clear c81 c82 c83 c84 c85 c86 c87 c88 c89 c90 c91 c92 c93 c94 c95 c96 c97 c98
 refine wp_region_noPanic ?_
 refine wp_region_held_drew (S:=fun w'=>w'.cell? ⟨X12,0,none⟩=some (.bool s6)∧w'.cell? ⟨X12,1,none⟩=some (.slice A6 L6 C6)∧w'.cell? ⟨X12,2,none⟩=some (.slice D6 M6 E6)∧w'.cell? ⟨g,0,none⟩=some (.bool false)∧w'.cell? ⟨g,1,none⟩=some (.slice A1 L1 C1)∧w'.cell? ⟨g,2,none⟩=some (.slice D1 M1 E1)∧w'.cell? ⟨g,3,none⟩=some (.bool s2)∧w'.cell? ⟨g,4,none⟩=some (.slice A2 L2 C2)∧w'.cell? ⟨g,5,none⟩=some (.slice D2 M2 E2)) (by kernel_rfl) ?_ (fun hHeld=>?_)
 ·exact⟨h9.cell 0,h9.cell 1,h9.cell 2,hA.cell 0,hA.cell 1,hA.cell 2,hA.cell 3,hA.cell 4,hA.cell 5⟩
 obtain⟨wd6_1,hwd⟩:∃q,q=V12.drew:=⟨_,rfl⟩
 rw[←hwd] at hB q1 q2 hA hR q4 h6 n5 q6 h9 hHeld ⊢
 clear hwd
 refine tkA 0 rfl ?_
 refine tkA 1 rfl ?_
 refine tkA 3 rfl ?_
 refine tkA 4 rfl ?_
 try simp only[Act.put,lay]
 refine rd1 2 rfl fun K hK=>?_
 go_simp
 refine (hM _ _ _ q6 q6).mono ?_
 rintro e u6_1 ⟨v7,rfl,q7,b6_1⟩
 replace q1:=q1.b b6_1
 replace q2:=q2.b b6_1
 replace hA:=hA.b b6_1
 replace hR:=hR.b b6_1
 replace q4:=q4.b b6_1
 replace h6:=h6.b b6_1
 replace n5:=n5.b b6_1
 replace q6:=q6.b b6_1
 replace h9:=h9.b b6_1
 replace hB:=bOn hB b6_1
 go_wp2_with fail
 refine hK.out _ _ ?_ fun hHeld=>?_
 ·exact⟨h9.cell 0,h9.cell 1,h9.cell 2,hA.cell 0,hA.cell 1,hA.cell 2,hA.cell 3,hA.cell 4,hA.cell 5⟩
 clear hK K
 try simp only[Act.put,lay]
 refine rd1 5 rfl fun K hK=>?_
 go_simp
 refine (hC _ _ _ q7 q2).mono ?_
 rintro e u6_2 ⟨rfl,b6_2⟩
 replace q1:=q1.b b6_2
 replace q2:=q2.b b6_2
 replace hA:=hA.b b6_2
 replace hR:=hR.b b6_2
 replace q4:=q4.b b6_2
 replace h6:=h6.b b6_2
 replace n5:=n5.b b6_2
 replace q6:=q6.b b6_2
 replace h9:=h9.b b6_2
 replace q7:=q7.b b6_2
 replace hB:=bOn hB b6_2
 go_wp2_with fail
 refine hK.out _ _ ?_ fun hHeld=>?_
 ·exact⟨h9.cell 0,h9.cell 1,h9.cell 2,hA.cell 0,hA.cell 1,hA.cell 2,hA.cell 3,hA.cell 4,hA.cell 5⟩
 clear hK K
 refine tkA 6 rfl ?_
 try simp only[Act.put,lay]
 try dsimp only
 try simp only[Act.put,lay]
 refine wpAnyH_done (by kernel_rfl) ?_ _
 refine NoPanic.normal ?_
 skip
 obtain⟨c99,c100,c101,c102,c103,c104⟩:=hA.q6
 obtain⟨c105,c106,c107,c108,c109,c110⟩:=hR.q6
 obtain⟨c111,c112,c113⟩:=h6.q3
 obtain⟨c114,c115,c116⟩:=h9.q3
 obtain⟨p1,p2,p3⟩:=put6 hR (.bool s4) (.slice A4 L4 C4) (.slice D4 M4 E4) (.bool s6) (.slice A6 L6 C6) (.slice D6 M6 E6) (by simp[noU]) hB (by omega)
 have rc0:World.cell? _ ⟨g+1,0,none⟩=some (.bool false):=hR.cell 0
 have rf0:=hR.frozen 0
 have rc1:World.cell? _ ⟨g+1,1,none⟩=some (.slice none 0 0):=hR.cell 1
 have rf1:=hR.frozen 1
 have rc2:World.cell? _ ⟨g+1,2,none⟩=some (.slice none 0 0):=hR.cell 2
 have rf2:=hR.frozen 2
 have rc3:World.cell? _ ⟨g+1,3,none⟩=some (.bool false):=hR.cell 3
 have rf3:=hR.frozen 3
 have rc4:World.cell? _ ⟨g+1,4,none⟩=some (.slice none 0 0):=hR.cell 4
 have rf4:=hR.frozen 4
 have rc5:World.cell? _ ⟨g+1,5,none⟩=some (.slice none 0 0):=hR.cell 5
 have rf5:=hR.frozen 5
 have P:=Lib.hid (And.intro (⟨_,_,_,_,_,_,rfl,q4.kept p2,q6.kept p2⟩:IsS _ _ za zb) (And.intro p3 p1.cells6))
 clear p1 p2 p3
 go_wp2_with fail
 obtain⟨P1,P2,P3,P4,P5,P6,P7,P8⟩:=P.out
 exact bodyPost_ret (v:= .tuple #[.agg #[.bool s4,.slice A4 L4 C4,.slice D4 M4 E4,.bool s6,.slice A6 L6 C6,.slice D6 M6 E6],.int .i64 0]) (by simp[results,Tryz.results92,go_sem,P3,P4,P5,P6,P7,P8]) rfl ⟨_,rfl,by rw[HZ.out.1,HZ.out.2];exact P1,P2⟩
theorem rsqrt_any (v:Value) (a b:Rat) (w:World) (h:IsS w v a b) (sa:BQ a 500) (sb:BQ b 500) (na:¬a.num<0) (nb:0≤b):
 Calls Tryz.prog 92 #[v,.int .i64 60] w fun e w'=>∃v',e= .returned (.tuple #[v',.int .i64 0])∧IsS w' v' (sqLo a) (sqHi b)∧Below w.heap.size w w':=by
 by_cases hm:cmpQ (mkRat (rootN (flN b):Nat) (2^60)*mkRat (rootN (flN b):Nat) (2^60)) b<0
 ·exact rsqrt_more v a b w h sa sb na nb hm
 ·exact rsqrt_same v a b w h sa sb na nb hm
theorem rout_any (v:Value) (a b:Rat) (w:World) (h:IsS w v a b) (sa:BQ a 5000) (sb:BQ b 5000):
 Calls Tryz.prog 95 #[v,.int .i64 60] w fun e w'=>∃v',e= .returned (.tuple #[v',.int .i64 0])∧IsS w' v' (mkRat (flr a 60) (2^60)) (mkRat (cel b 60) (2^60))∧Below w.heap.size w w':=by
 have hF:=fun u w h=>floor_any u a 60 w h (by omega) (sa.more (by omega))
 have hC:=fun u w h=>ceil_any u b 60 w h (by omega) (sb.more (by omega))
 have hB1:=fun u w h=>back_any u (flr a 60) 60 w h (by omega) ((sz_flr (k:=60) sa).more (by omega))
 have hB2:=fun u w h=>back_any u (cel b 60) 60 w h (by omega) ((sz_cel (k:=60) sb).more (by omega))
 rw[show ((60:Nat):Int)=60 from rfl] at hF hC hB1 hB2
 generalize mkRat (flr a 60) (2^60)=r1 at *
 generalize mkRat (cel b 60) (2^60)=r2 at *
 generalize flr a 60=fl at *
 generalize cel b 60=ce at *
 obtain⟨s1,A1,L1,C1,D1,M1,E1,s2,A2,L2,C2,D2,M2,E2,rfl,q1,q2⟩:=h.opn
 clear h sa sb
 obtain⟨g,Y1,hA,hR,hB,hgw,EY⟩:=boxes2 w 46 #[.bool s1,.slice A1 L1 C1,.slice D1 M1 E1,.bool s2,.slice A2 L2 C2,.slice D2 M2 E2] 46 #[.bool false,.slice none 0 0,.slice none 0 0,.bool false,.slice none 0 0,.slice none 0 0]
 replace q1:=q1.b hB
 replace q2:=q2.b hB
 obtain⟨c0,c1,c2,c3,c4,c5⟩:=hA.q6
 obtain⟨c6,c7,c8,c9,c10,c11⟩:=hR.q6
 go_enter Tryz.func95,Tryz.ntmps95
 go_wp2_with fail
 rw[←EY.out.2,←EY.out.1]
 refine (hF _ _ q1).mono ?_
 rintro e w2 ⟨v3,rfl,z3,b2⟩
 replace q1:=q1.b b2
 replace q2:=q2.b b2
 replace hA:=hA.b b2
 replace hR:=hR.b b2
 replace hB:=bOn hB b2
 clear c0 c1 c2 c3 c4 c5 c6 c7 c8 c9 c10 c11
 obtain⟨c12,c13,c14,c15,c16,c17⟩:=hA.q6
 obtain⟨c18,c19,c20,c21,c22,c23⟩:=hR.q6
 obtain⟨s3,A3,L3,C3,rfl,z3⟩:=z3.opn
 obtain⟨X4,V4,h6,bV4,lX4,nX4,EV4⟩:=boxL hB 30 #[.bool s3,.slice A3 L3 C3]
 have dX4_hA:=nX4 _ hA.lt
 have dX4_hR:=nX4 _ hR.lt
 clear nX4
 go_upto_region 4 with fail
 rw[←EV4.out.1,←EV4.out.2]
 replace q1:=q1.b bV4
 replace q2:=q2.b bV4
 replace hA:=hA.b bV4
 replace hR:=hR.b bV4
 replace z3:=z3.b bV4
 replace hB:=bOn hB bV4
 clear c12 c13 c14 c15 c16 c17 c18 c19 c20 c21 c22 c23
 obtain⟨c24,c25,c26,c27,c28,c29⟩:=hA.q6
 obtain⟨c30,c31,c32,c33,c34,c35⟩:=hR.q6
 obtain⟨c36,c37⟩:=h6.q2
 go_wp2_with fail
 refine (hC _ _ q2).mono ?_
 rintro e w6 ⟨v4,rfl,z4,b6⟩
 replace q1:=q1.b b6
 replace q2:=q2.b b6
 replace hA:=hA.b b6
 replace hR:=hR.b b6
 replace z3:=z3.b b6
 replace h6:=h6.b b6
 replace hB:=bOn hB b6
 clear c24 c25 c26 c27 c28 c29 c30 c31 c32 c33 c34 c35 c36 c37
 obtain⟨c38,c39,c40,c41,c42,c43⟩:=hA.q6
 obtain⟨c44,c45,c46,c47,c48,c49⟩:=hR.q6
 obtain⟨c50,c51⟩:=h6.q2
 obtain⟨s4,A4,L4,C4,rfl,z4⟩:=z4.opn
 obtain⟨X8,V8,h8,bV8,lX8,nX8,EV8⟩:=boxL hB 30 #[.bool s4,.slice A4 L4 C4]
 have dX8_hA:=nX8 _ hA.lt
 have dX8_hR:=nX8 _ hR.lt
 have dX8_h6:=nX8 _ h6.lt
 clear nX8
 go_upto_region 5 with fail
 rw[←EV8.out.1,←EV8.out.2]
 replace q1:=q1.b bV8
 replace q2:=q2.b bV8
 replace hA:=hA.b bV8
 replace hR:=hR.b bV8
 replace z3:=z3.b bV8
 replace h6:=h6.b bV8
 replace z4:=z4.b bV8
 replace hB:=bOn hB bV8
 clear c38 c39 c40 c41 c42 c43 c44 c45 c46 c47 c48 c49 c50 c51
 obtain⟨c52,c53,c54,c55,c56,c57⟩:=hA.q6
 obtain⟨c58,c59,c60,c61,c62,c63⟩:=hR.q6
 obtain⟨c64,c65⟩:=h6.q2
 obtain⟨c66,c67⟩:=h8.q2
 go_wp2_with fail
 refine (hB1 _ _ z3).mono ?_
 rintro e w10 ⟨v5,rfl,q5,b10⟩
 replace q1:=q1.b b10
 replace q2:=q2.b b10
 replace hA:=hA.b b10
 replace hR:=hR.b b10
 replace z3:=z3.b b10
 replace h6:=h6.b b10
 replace z4:=z4.b b10
 replace h8:=h8.b b10
 replace hB:=bOn hB b10
 clear c52 c53 c54 c55 c56 c57 c58 c59 c60 c61 c62 c63 c64 c65 c66 c67
 obtain⟨c68,c69,c70,c71,c72,c73⟩:=hA.q6
 obtain⟨c74,c75,c76,c77,c78,c79⟩:=hR.q6
 obtain⟨c80,c81⟩:=h6.q2
 obtain⟨c82,c83⟩:=h8.q2
 obtain⟨s5,A5,L5,C5,D5,M5,E5,rfl,q5⟩:=q5.opn
 obtain⟨X12,V12,h10,bV12,lX12,nX12,EV12⟩:=boxL hB 32 #[.bool s5,.slice A5 L5 C5,.slice D5 M5 E5]
 have dX12_hA:=nX12 _ hA.lt
 have dX12_hR:=nX12 _ hR.lt
 have dX12_h6:=nX12 _ h6.lt
 have dX12_h8:=nX12 _ h8.lt
 clear nX12
 go_upto_region 6 with fail
 rw[←EV12.out.1,←EV12.out.2]
 replace q1:=q1.b bV12
 replace q2:=q2.b bV12
 replace hA:=hA.b bV12
 replace hR:=hR.b bV12
 replace h6:=h6.b bV12
 replace z4:=z4.b bV12
 replace h8:=h8.b bV12
 replace q5:=q5.b bV12
 replace hB:=bOn hB bV12
 clear c68 c69 c70 c71 c72 c73 c74 c75 c76 c77 c78 c79 c80 c81 c82 c83
 obtain⟨c84,c85,c86,c87,c88,c89⟩:=hA.q6
 obtain⟨c90,c91,c92,c93,c94,c95⟩:=hR.q6
 obtain⟨c96,c97⟩:=h6.q2
 obtain⟨c98,c99⟩:=h8.q2
 obtain⟨c100,c101,c102⟩:=h10.q3
 go_wp2_with fail
 refine (hB2 _ _ z4).mono ?_
 rintro e w14 ⟨v6,rfl,q6,b14⟩
 replace q1:=q1.b b14
 replace q2:=q2.b b14
 replace hA:=hA.b b14
 replace hR:=hR.b b14
 replace h6:=h6.b b14
 replace z4:=z4.b b14
 replace h8:=h8.b b14
 replace q5:=q5.b b14
 replace h10:=h10.b b14
 replace hB:=bOn hB b14
 clear c84 c85 c86 c87 c88 c89 c90 c91 c92 c93 c94 c95 c96 c97 c98 c99 c100 c101 c102
 obtain⟨c103,c104,c105,c106,c107,c108⟩:=hA.q6
 obtain⟨c109,c110,c111,c112,c113,c114⟩:=hR.q6
 obtain⟨c115,c116⟩:=h6.q2
 obtain⟨c117,c118⟩:=h8.q2
 obtain⟨c119,c120,c121⟩:=h10.q3
 obtain⟨s6,A6,L6,C6,D6,M6,E6,rfl,q6⟩:=q6.opn
 obtain⟨X16,V16,h12,bV16,lX16,nX16,EV16⟩:=boxL hB 32 #[.bool s6,.slice A6 L6 C6,.slice D6 M6 E6]
 have dX16_hA:=nX16 _ hA.lt
 have dX16_hR:=nX16 _ hR.lt
 have dX16_h6:=nX16 _ h6.lt
 have dX16_h8:=nX16 _ h8.lt
 have dX16_h10:=nX16 _ h10.lt
 clear nX16
 go_upto_region 7 with fail
 rw[←EV16.out.1,←EV16.out.2]
 replace q1:=q1.b bV16
 replace q2:=q2.b bV16
 replace hA:=hA.b bV16
 replace hR:=hR.b bV16
 replace h6:=h6.b bV16
 replace h8:=h8.b bV16
 replace q5:=q5.b bV16
 replace h10:=h10.b bV16
 replace q6:=q6.b bV16
 replace hB:=bOn hB bV16
 clear c103 c104 c105 c106 c107 c108 c109 c110 c111 c112 c113 c114 c115 c116 c117 c118 c119 c120 c121
 obtain⟨c122,c123,c124,c125,c126,c127⟩:=hA.q6
 obtain⟨c128,c129,c130,c131,c132,c133⟩:=hR.q6
 obtain⟨c134,c135⟩:=h6.q2
 obtain⟨c136,c137⟩:=h8.q2
 obtain⟨c138,c139,c140⟩:=h10.q3
 obtain⟨c141,c142,c143⟩:=h12.q3
 obtain⟨p1,p2,p3⟩:=put6 hR (.bool s5) (.slice A5 L5 C5) (.slice D5 M5 E5) (.bool s6) (.slice A6 L6 C6) (.slice D6 M6 E6) (by simp[noU]) hB (by omega)
 have rc0:World.cell? _ ⟨g+1,0,none⟩=some (.bool false):=hR.cell 0
 have rf0:=hR.frozen 0
 have rc1:World.cell? _ ⟨g+1,1,none⟩=some (.slice none 0 0):=hR.cell 1
 have rf1:=hR.frozen 1
 have rc2:World.cell? _ ⟨g+1,2,none⟩=some (.slice none 0 0):=hR.cell 2
 have rf2:=hR.frozen 2
 have rc3:World.cell? _ ⟨g+1,3,none⟩=some (.bool false):=hR.cell 3
 have rf3:=hR.frozen 3
 have rc4:World.cell? _ ⟨g+1,4,none⟩=some (.slice none 0 0):=hR.cell 4
 have rf4:=hR.frozen 4
 have rc5:World.cell? _ ⟨g+1,5,none⟩=some (.slice none 0 0):=hR.cell 5
 have rf5:=hR.frozen 5
 have P:=Lib.hid (And.intro (⟨_,_,_,_,_,_,rfl,q5.kept p2,q6.kept p2⟩:IsS _ _ r1 r2) (And.intro p3 p1.cells6))
 clear p1 p2 p3
 go_wp2_with fail
 obtain⟨P1,P2,P3,P4,P5,P6,P7,P8⟩:=P.out
 exact bodyPost_ret (v:= .tuple #[.agg #[.bool s5,.slice A5 L5 C5,.slice D5 M5 E5,.bool s6,.slice A6 L6 C6,.slice D6 M6 E6],.int .i64 0]) (by simp[results,Tryz.results95,go_sem,P3,P4,P5,P6,P7,P8]) rfl ⟨_,rfl,P1,P2⟩
theorem rnum_any (n:Int) (k:Nat) (w:World) (hk:k≤40) (hn:In64 n):
 Calls Tryz.prog 94 #[.int .i64 n,.int .i64 k] w fun e w'=>∃v',e= .returned v'∧IsS w' v' (mkRat n (2^k)) (mkRat n (2^k))∧Below w.heap.size w w':=by
 have hN:=fun w=>rrat_any n k w hk hn
 have hIv:=fun v r w h=>rivof_any v r w h
 generalize mkRat n (2^k)=x at *
 obtain⟨g,Y0,hR,hB,hgw,EY⟩:=boxes1 w 46 #[.bool false,.slice none 0 0,.slice none 0 0,.bool false,.slice none 0 0,.slice none 0 0]
 obtain⟨c0,c1,c2,c3,c4,c5⟩:=hR.q6
 go_enter Tryz.func94,Tryz.ntmps94
 go_wp2_with fail
 rw[←EY.out.2,←EY.out.1]
 refine (hN _).mono ?_
 rintro e w2 ⟨v7,rfl,q7,b2⟩
 replace hR:=hR.b b2
 replace hB:=bOn hB b2
 clear c0 c1 c2 c3 c4 c5
 obtain⟨c6,c7,c8,c9,c10,c11⟩:=hR.q6
 obtain⟨s7,A7,L7,C7,D7,M7,E7,rfl,q7⟩:=q7.opn
 obtain⟨X4,V4,h7,bV4,lX4,nX4,EV4⟩:=boxL hB 32 #[.bool s7,.slice A7 L7 C7,.slice D7 M7 E7]
 have dX4_hR:=nX4 _ hR.lt
 clear nX4
 go_upto_region 2 with fail
 rw[←EV4.out.1,←EV4.out.2]
 replace hR:=hR.b bV4
 replace q7:=q7.b bV4
 replace hB:=bOn hB bV4
 clear c6 c7 c8 c9 c10 c11
 obtain⟨c12,c13,c14,c15,c16,c17⟩:=hR.q6
 obtain⟨c18,c19,c20⟩:=h7.q3
 go_wp2_with fail
 refine (hIv _ _ _ q7).mono ?_
 rintro e w6 ⟨v9,rfl,h9,b6⟩
 replace hR:=hR.b b6
 replace q7:=q7.b b6
 replace h7:=h7.b b6
 replace hB:=bOn hB b6
 clear c12 c13 c14 c15 c16 c17 c18 c19 c20
 obtain⟨c21,c22,c23,c24,c25,c26⟩:=hR.q6
 obtain⟨c27,c28,c29⟩:=h7.q3
 obtain⟨s9,A9,L9,C9,D9,M9,E9,s10,A10,L10,C10,D10,M10,E10,rfl,q9,q10⟩:=h9.opn
 obtain⟨p1,p2,p3⟩:=put6 hR (.bool s9) (.slice A9 L9 C9) (.slice D9 M9 E9) (.bool s10) (.slice A10 L10 C10) (.slice D10 M10 E10) (by simp[noU]) hB (by omega)
 have rc0:World.cell? _ ⟨g,0,none⟩=some (.bool false):=hR.cell 0
 have rf0:=hR.frozen 0
 have rc1:World.cell? _ ⟨g,1,none⟩=some (.slice none 0 0):=hR.cell 1
 have rf1:=hR.frozen 1
 have rc2:World.cell? _ ⟨g,2,none⟩=some (.slice none 0 0):=hR.cell 2
 have rf2:=hR.frozen 2
 have rc3:World.cell? _ ⟨g,3,none⟩=some (.bool false):=hR.cell 3
 have rf3:=hR.frozen 3
 have rc4:World.cell? _ ⟨g,4,none⟩=some (.slice none 0 0):=hR.cell 4
 have rf4:=hR.frozen 4
 have rc5:World.cell? _ ⟨g,5,none⟩=some (.slice none 0 0):=hR.cell 5
 have rf5:=hR.frozen 5
 have P:=Lib.hid (And.intro (⟨_,_,_,_,_,_,rfl,q9.kept p2,q10.kept p2⟩:IsS _ _ x x) (And.intro p3 p1.cells6))
 clear p1 p2 p3
 go_wp2_with fail
 obtain⟨P1,P2,P3,P4,P5,P6,P7,P8⟩:=P.out
 exact bodyPost_ret (v:= .agg #[.bool s9,.slice A9 L9 C9,.slice D9 M9 E9,.bool s10,.slice A10 L10 C10,.slice D10 M10 E10]) (by simp[results,Tryz.results94,go_sem,P3,P4,P5,P6,P7,P8]) rfl ⟨_,rfl,P1,P2⟩
end Go.Proofs.YtdnjdglekifhpaaGreat
