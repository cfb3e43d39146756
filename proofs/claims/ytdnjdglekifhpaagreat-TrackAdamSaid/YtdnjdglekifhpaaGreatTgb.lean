/- A part of the proof of: ADAM: against the real moments of the same gradients, from noughts on, kept moments are never farther away than their bounds, step by step. No conditions: every input. -/
import Derived.OpenShut
import Derived.Laws.Rows
import Derived.Laws.MakeOwn
import Derived.Deep.Slices
import Derived.BigQuiet
import Derived.Deep.DeepMust
import Derived.Deep.RegionHeld3
import Derived.Outline
import Derived.Deep.DrawnRows
import Derived.Lib.SmallJoins
import Derived.Test.YtdnjdglekifhpaaGreatTga
set_option maxRecDepth 100000
set_option maxHeartbeats 8000000
namespace Go.Proofs.YtdnjdglekifhpaaGreat
theorem lay {α:Type _}:(∀(xs:List α) (i:Nat) (h:i<xs.toArray.size),xs.toArray[i]=xs[i]'h)∧(∀(a:α) (xs:List α) (i:Nat) (h:i+1<(a::xs).length),(a::xs)[i+1]=xs[i]'(Nat.lt_of_succ_lt_succ h))∧(∀(a:α) (xs:List α) (h:0<(a::xs).length),(a::xs)[0]=a)∧(∀(l:List α) (i:Nat) (a:α),l.toArray.setIfInBounds i a=(l.set i a).toArray)∧(∀(x:α) (xs:List α) (a:α),(x::xs).set 0 a=a::xs)∧(∀(x:α) (xs:List α) (i:Nat) (a:α),(x::xs).set (i+1) a=x::xs.set i a):=
  ⟨fun _ _ _=>rfl,fun _ _ _ _=>rfl,fun _ _ _=>rfl,fun l i a=>List.setIfInBounds_toArray l i a,fun _ _ _=>rfl,fun _ _ _ _=>rfl⟩
end Go.Proofs.YtdnjdglekifhpaaGreat
namespace Go.Proofs.YtdnjdglekifhpaaGreat
open Go.RowKit
theorem bkz_nat (k:Nat) (hk:k<4):bkz (k:Nat)=bk k:=by
 obtain rfl | rfl | rfl | rfl:k=0∨k=1∨k=2∨k=3:=by omega
 all_goals rfl
end Go.Proofs.YtdnjdglekifhpaaGreat
namespace Go.Proofs.YtdnjdglekifhpaaGreat
open Go.RowKit
attribute [local go_sem ↓] Go.wp_at_zero Go.wp_at_succ
theorem near_none (k num d:Int) (w:World) (hk:¬(0≤k∧k≤3)):
 Calls Tryz.prog 162 #[.int .i64 k,.int .i64 num,.int .i64 d] w fun e w'=>e= .returned (.tuple #[.int .u8 0,.int .i64 1])∧Below w.heap.size w w':=by
 have hB0:=fun w=>book_any k w
 rw[show bke k=1 from if_neg hk] at hB0
 generalize bkz k=l at *
 clear hk
 have hB:=Below.refl w.heap.size w
 go_enter Tryz.func162,Tryz.ntmps162
 go_wp2_with fail
 refine (hB0 _).mono ?_
 rintro e w1 ⟨v1,rfl,h1,b1⟩
 obtain⟨A1,C1,rfl,_,_⟩:=h1.form
 have HB:=Lib.hid (b1.alloc b1.size (.cells #[.slice A1 l.length C1] 62))
 clear b1 hB h1
 go_wp2
 go_ret2
 exact⟨rfl,HB.out⟩
theorem near_den (n:Nat) (hn:n<4) (num d:Int) (w:World) (h:d<1):
 Calls Tryz.prog 162 #[.int .i64 n,.int .i64 num,.int .i64 d] w fun e w'=>e= .returned (.tuple #[.int .u8 0,.int .i64 1])∧Below w.heap.size w w':=by
 have hB0:=fun w=>book_any n w
 rw[show bke n=0 from if_pos (by omega),bkz_nat n hn] at hB0
 have hS:=fun w=>signed_any n w
 generalize bk n=l at *
 clear hn
 go_enter Tryz.func162,Tryz.ntmps162
 go_wp2_with fail
 refine (hB0 _).mono ?_
 rintro e w1 ⟨v1,rfl,h1,b1⟩
 obtain⟨A1,C1,rfl,_,_⟩:=h1.form
 have HB:=Lib.hid (b1.alloc b1.size (.cells #[.slice A1 l.length C1] 62))
 clear b1 h1
 go_wp2
 go_ret2
 exact⟨rfl,HB.out⟩
theorem near_over (n:Nat) (hn:n<4) (num d:Int) (w:World) (h0:¬d<1) (h:d<num):
 Calls Tryz.prog 162 #[.int .i64 n,.int .i64 num,.int .i64 d] w fun e w'=>e= .returned (.tuple #[.int .u8 0,.int .i64 1])∧Below w.heap.size w w':=by
 have hB0:=fun w=>book_any n w
 rw[show bke n=0 from if_pos (by omega),bkz_nat n hn] at hB0
 have hS:=fun w=>signed_any n w
 generalize bk n=l at *
 clear hn
 go_enter Tryz.func162,Tryz.ntmps162
 go_wp2_with fail
 refine (hB0 _).mono ?_
 rintro e w1 ⟨v1,rfl,h1,b1⟩
 obtain⟨A1,C1,rfl,_,_⟩:=h1.form
 have HB:=Lib.hid (b1.alloc b1.size (.cells #[.slice A1 l.length C1] 62))
 clear b1 h1
 go_wp2
 go_ret2
 exact⟨rfl,HB.out⟩
theorem near_under (n:Nat) (hn:n<4) (num d:Int) (w:World) (h0:¬d<1) (h1:¬d<num) (h2:d≤9223372036854775807) (h:num< -d):
 Calls Tryz.prog 162 #[.int .i64 n,.int .i64 num,.int .i64 d] w fun e w'=>e= .returned (.tuple #[.int .u8 0,.int .i64 1])∧Below w.heap.size w w':=by
 have hB0:=fun w=>book_any n w
 rw[show bke n=0 from if_pos (by omega),bkz_nat n hn] at hB0
 have hS:=fun w=>signed_any n w
 have hw:IntKind.i64.wrap (-d)= -d:=by rw[IntKind.wrap_i64];omega
 generalize bk n=l at *
 clear hn
 go_enter Tryz.func162,Tryz.ntmps162
 go_wp2_with fail
 refine (hB0 _).mono ?_
 rintro e w1 ⟨v1,rfl,h1,b1⟩
 obtain⟨A1,C1,rfl,_,_⟩:=h1.form
 have HB:=Lib.hid (b1.alloc b1.size (.cells #[.slice A1 l.length C1] 62))
 clear b1 h1
 go_wp2
 go_ret2
 exact⟨rfl,HB.out⟩
theorem near_side (n:Nat) (hn:n<4) (num d:Int) (w:World) (h0:¬d<1) (h1:¬d<num) (h2:d≤9223372036854775807) (h3:¬num< -d) (h:num<0) (hs:sgn (n:Nat)=false):
 Calls Tryz.prog 162 #[.int .i64 n,.int .i64 num,.int .i64 d] w fun e w'=>e= .returned (.tuple #[.int .u8 0,.int .i64 1])∧Below w.heap.size w w':=by
 have hB0:=fun w=>book_any n w
 rw[show bke n=0 from if_pos (by omega),bkz_nat n hn] at hB0
 have hS:=fun w=>signed_any n w
 have hw:IntKind.i64.wrap (-d)= -d:=by rw[IntKind.wrap_i64];omega
 rw[hs] at hS
 generalize bk n=l at *
 clear hn
 go_enter Tryz.func162,Tryz.ntmps162
 go_wp2_with fail
 refine (hB0 _).mono ?_
 rintro e w1 ⟨v1,rfl,h1,b1⟩
 obtain⟨A1,C1,rfl,_,_⟩:=h1.form
 have HB:=Lib.hid (b1.alloc b1.size (.cells #[.slice A1 l.length C1] 62))
 clear b1 h1
 go_wp2_with fail
 refine (hS _).mono ?_
 rintro e w2 ⟨rfl,rfl⟩
 go_wp2
 go_ret2
 exact⟨rfl,HB.out⟩
theorem near_pos (n:Nat) (hn:n<4) (num d:Int) (w:World) (h0:¬d<1) (h1:¬d<num) (h2:d≤9223372036854775807) (h3:¬num< -d) (h4:¬num<0):
 Calls Tryz.prog 162 #[.int .i64 n,.int .i64 num,.int .i64 d] w fun e w'=>e= .returned (.tuple #[.int .u8 (lowest (pAt n num d) 255:Nat),.int .i64 0])∧Below w.heap.size w w':=by
 have hB0:=fun w=>book_any n w
 rw[show bke n=0 from if_pos (by omega),bkz_nat n hn] at hB0
 have hS:=fun w=>signed_any n w
 have hDn:=fun w=>den_any n w
 have hlen:=bk_len n hn
 have hden:=dens n hn
 have hin:=bk_in hn
 have hO1:=fun w=>pzof_any num (by omega) (by omega) w
 have hO3:=fun w=>pzof_any d (by omega) (by omega) w
 have hMo:=fun i j (a:i≤j) (b:j<255)=>pAt_mono hn (num:=num) (show 1≤d by omega) a b
 have hw:IntKind.i64.wrap (-d)= -d:=by rw[IntKind.wrap_i64];omega
 obtain⟨D,hD⟩:∃D,D=den (n:Nat):=⟨_,rfl⟩
 rw[←hD] at hDn hden
 have hO2:=fun w=>pzof_any (2*D) (by omega) (by omega) w
 have hw2:IntKind.i64.wrap (2*D)=2*D:=by rw[IntKind.wrap_i64];omega
 have s1:Sz num.natAbs 400000:=(Sz.u64 (by unfold W64;omega)).more (by omega)
 have s2:Sz (2*D).natAbs 400000:=(Sz.u64 (by unfold W64;omega)).more (by omega)
 have hM:=fun u v w a b=>pzmul_any u v num (2*D) w a b s1 s2
 have hd0: -9223372036854775808≤d:=by omega
 have hP:∀i,decide (cmpI (num*(2*D)) ((iat (bk n) i+iat (bk n) (i+1))*d)≤0)=pAt n num d i:=fun i=>by rw[cmpI_le,hD];rfl
 have HP:=Lib.hid (And.intro hP (And.intro hMo (And.intro hlen (And.intro hin (And.intro hd0 h2)))))
 clear hP hMo hin s1 s2 hden hD hd0
 generalize bk n=l at *
 generalize pAt n num d=p at *
 clear hn
 have hB:=Below.refl w.heap.size w
 generalize hx:num*(2*D)=x at *
 clear hx
 go_enter Tryz.func162,Tryz.ntmps162
 go_wp2_with fail
 refine (hB0 _).mono ?_
 rintro e w1 ⟨v1,rfl,hL,b1⟩
 replace hB:=bOn hB b1
 obtain⟨A1,C1,rfl,_,_⟩:=hL.form
 rw[hlen] at hL ⊢
 obtain⟨V1,eV,h8,bV1⟩:=box1 w1 62 #[.slice A1 256 C1]
 obtain⟨X1,eX⟩:∃X,X=w1.heap.size:=⟨_,rfl⟩
 rw[←eX] at h8
 have EV1:=Lib.hid (And.intro eV eX)
 clear eV eX
 go_upto_region 2 with fail
 rw[←EV1.out.1,←EV1.out.2]
 replace hL:=hL.b bV1
 replace hB:=bOn hB bV1
 have c3_h8_0:=h8.cells1
 go_wp2_with fail
 refine (hO1 _).mono ?_
 rintro e w2 ⟨v2,rfl,hz1,b2⟩
 replace hL:=hL.b b2
 replace h8:=h8.b b2
 replace hB:=bOn hB b2
 clear c3_h8_0
 have c4_h8_0:=h8.cells1
 go_wp2_with fail
 refine (hDn _).mono ?_
 rintro e w3 ⟨rfl,rfl⟩
 go_wp2_with fail
 refine (hO2 _).mono ?_
 rintro e w4 ⟨v3,rfl,hz2,b4⟩
 replace hL:=hL.b b4
 replace h8:=h8.b b4
 replace hz1:=hz1.b b4
 replace hB:=bOn hB b4
 clear c4_h8_0
 have c5_h8_0:=h8.cells1
 go_wp2_with fail
 refine (hM _ _ _ hz1 hz2).mono ?_
 rintro e w5 ⟨v4,rfl,hz3,b5⟩
 replace hL:=hL.b b5
 replace h8:=h8.b b5
 replace hz1:=hz1.b b5
 replace hz2:=hz2.b b5
 replace hB:=bOn hB b5
 clear c5_h8_0
 have c6_h8_0:=h8.cells1
 obtain⟨nx,rfl,hX⟩:=(id hz3:IsZ _ _ _)
 obtain⟨Ax,Lx,Cx,rfl⟩:=hX.frm
 obtain⟨V2,eV,h10,bV2⟩:=box1 w5 30 #[.bool (decide (x<0)),.slice Ax Lx Cx]
 obtain⟨X2,eX⟩:∃X,X=w5.heap.size:=⟨_,rfl⟩
 rw[←eX] at h10
 have EV2:=Lib.hid (And.intro eV eX)
 clear eV eX
 go_upto_region 5 with fail
 rw[←EV2.out.1,←EV2.out.2]
 replace hL:=hL.b bV2
 replace h8:=h8.b bV2
 replace hz3:=hz3.b bV2
 replace hX:=hX.b bV2
 replace hB:=bOn hB bV2
 clear c6_h8_0
 have c7_h8_0:=h8.cells1
 clear c7_h8_0
 have c8_h8_0:=h8.cells1
 obtain⟨c8_h10_0,c8_h10_1⟩:=h10.cells2
 go_wp2_with fail
 refine (hO3 _).mono ?_
 rintro e w6 ⟨v5,rfl,hz4,b6⟩
 replace hL:=hL.b b6
 replace h8:=h8.b b6
 replace hz3:=hz3.b b6
 replace hX:=hX.b b6
 replace h10:=h10.b b6
 replace hB:=bOn hB b6
 clear c8_h8_0 c8_h10_0 c8_h10_1
 have c9_h8_0:=h8.cells1
 obtain⟨c9_h10_0,c9_h10_1⟩:=h10.cells2
 obtain⟨nd,rfl,hDD⟩:=(id hz4:IsZ _ _ _)
 obtain⟨Ad,Ld,Cd,rfl⟩:=hDD.frm
 obtain⟨V3,eV,h11,bV3⟩:=box1 w6 30 #[.bool (decide (d<0)),.slice Ad Ld Cd]
 obtain⟨X3,eX⟩:∃X,X=w6.heap.size:=⟨_,rfl⟩
 rw[←eX] at h11
 have EV3:=Lib.hid (And.intro eV eX)
 clear eV eX
 go_upto_region 6 with fail
 rw[←EV3.out.1,←EV3.out.2]
 replace hL:=hL.b bV3
 replace h8:=h8.b bV3
 replace hX:=hX.b bV3
 replace h10:=h10.b bV3
 replace hDD:=hDD.b bV3
 replace hB:=bOn hB bV3
 clear c9_h8_0 c9_h10_0 c9_h10_1
 have c10_h8_0:=h8.cells1
 obtain⟨c10_h10_0,c10_h10_1⟩:=h10.cells2
 clear c10_h8_0 c10_h10_0 c10_h10_1
 have c11_h8_0:=h8.cells1
 obtain⟨c11_h10_0,c11_h10_1⟩:=h10.cells2
 obtain⟨c11_h11_0,c11_h11_1⟩:=h11.cells2
 have hSr:=search_any 255 (by omega) p ⟨X1,0,none⟩ ⟨X3,0,none⟩ ⟨X2,0,none⟩ V3 HP.out.2.1 (fun i w' hi hb=>by
  have:=near1_any l HP.out.2.2.1 HP.out.2.2.2.1 d x HP.out.2.2.2.2.1 HP.out.2.2.2.2.2 X1 X2 X3 A1 C1 Ad Ax Ld Lx Cd Cx i hi w' ⟨Nat.lt_of_lt_of_le h8.lt hb.size,Nat.lt_of_lt_of_le h10.lt hb.size,Nat.lt_of_lt_of_le h11.lt hb.size⟩ (h8.below hb h8.lt) (hL.below hb) (h11.below hb h11.lt) (hDD.below hb) (h10.below hb h10.lt) (hX.below hb)
  rw[HP.out.1 i] at this
  exact this)
 go_wp2_with fail
 refine hSr.mono ?_
 rintro e w6 ⟨c,hc,rfl,hlo,hhi,b6⟩
 have HC:=Lib.hid (lowest_eq hc hlo (fun h=>hhi c (Nat.le_refl _) h))
 have hu:IntKind.u8.wrap (c:Int)=c:=by rw[IntKind.wrap_u8];omega
 replace hB:=bOn hB b6
 clear hlo hhi hSr
 go_wp2
 go_ret2
 exact⟨by rw[HC.out];rfl,hB⟩
theorem near_neg (n:Nat) (hn:n<4) (num d:Int) (w:World) (h0:¬d<1) (h1:¬d<num) (h2:d≤9223372036854775807) (h3:¬num< -d) (h4:num<0) (hs:sgn (n:Nat)=true):
 Calls Tryz.prog 162 #[.int .i64 n,.int .i64 num,.int .i64 d] w fun e w'=>e= .returned (.tuple #[.int .u8 (lowest (pAt n num d) 255:Nat),.int .i64 0])∧Below w.heap.size w w':=by
 have hB0:=fun w=>book_any n w
 rw[show bke n=0 from if_pos (by omega),bkz_nat n hn] at hB0
 have hS:=fun w=>signed_any n w
 have hDn:=fun w=>den_any n w
 have hlen:=bk_len n hn
 have hden:=dens n hn
 have hin:=bk_in hn
 have hO1:=fun w=>pzof_any num (by omega) (by omega) w
 have hO3:=fun w=>pzof_any d (by omega) (by omega) w
 have hMo:=fun i j (a:i≤j) (b:j<255)=>pAt_mono hn (num:=num) (show 1≤d by omega) a b
 have hw:IntKind.i64.wrap (-d)= -d:=by rw[IntKind.wrap_i64];omega
 obtain⟨D,hD⟩:∃D,D=den (n:Nat):=⟨_,rfl⟩
 rw[←hD] at hDn hden
 have hO2:=fun w=>pzof_any (2*D) (by omega) (by omega) w
 have hw2:IntKind.i64.wrap (2*D)=2*D:=by rw[IntKind.wrap_i64];omega
 have s1:Sz num.natAbs 400000:=(Sz.u64 (by unfold W64;omega)).more (by omega)
 have s2:Sz (2*D).natAbs 400000:=(Sz.u64 (by unfold W64;omega)).more (by omega)
 have hM:=fun u v w a b=>pzmul_any u v num (2*D) w a b s1 s2
 have hd0: -9223372036854775808≤d:=by omega
 have hP:∀i,decide (cmpI (num*(2*D)) ((iat (bk n) i+iat (bk n) (i+1))*d)≤0)=pAt n num d i:=fun i=>by rw[cmpI_le,hD];rfl
 have HP:=Lib.hid (And.intro hP (And.intro hMo (And.intro hlen (And.intro hin (And.intro hd0 h2)))))
 clear hP hMo hin s1 s2 hden hD hd0
 generalize bk n=l at *
 generalize pAt n num d=p at *
 clear hn
 have hB:=Below.refl w.heap.size w
 rw[hs] at hS
 generalize hx:num*(2*D)=x at *
 clear hx
 go_enter Tryz.func162,Tryz.ntmps162
 go_wp2_with fail
 refine (hB0 _).mono ?_
 rintro e w1 ⟨v1,rfl,hL,b1⟩
 replace hB:=bOn hB b1
 obtain⟨A1,C1,rfl,_,_⟩:=hL.form
 rw[hlen] at hL ⊢
 obtain⟨V1,eV,h8,bV1⟩:=box1 w1 62 #[.slice A1 256 C1]
 obtain⟨X1,eX⟩:∃X,X=w1.heap.size:=⟨_,rfl⟩
 rw[←eX] at h8
 have EV1:=Lib.hid (And.intro eV eX)
 clear eV eX
 go_upto_region 2 with fail
 rw[←EV1.out.1,←EV1.out.2]
 replace hL:=hL.b bV1
 replace hB:=bOn hB bV1
 have c3_h8_0:=h8.cells1
 go_wp2_with fail
 refine (hS _).mono ?_
 rintro e w2 ⟨rfl,rfl⟩
 go_wp2_with fail
 refine (hO1 _).mono ?_
 rintro e w3 ⟨v2,rfl,hz1,b3⟩
 replace hL:=hL.b b3
 replace h8:=h8.b b3
 replace hB:=bOn hB b3
 clear c3_h8_0
 have c4_h8_0:=h8.cells1
 go_wp2_with fail
 refine (hDn _).mono ?_
 rintro e w4 ⟨rfl,rfl⟩
 go_wp2_with fail
 refine (hO2 _).mono ?_
 rintro e w5 ⟨v3,rfl,hz2,b5⟩
 replace hL:=hL.b b5
 replace h8:=h8.b b5
 replace hz1:=hz1.b b5
 replace hB:=bOn hB b5
 clear c4_h8_0
 have c5_h8_0:=h8.cells1
 go_wp2_with fail
 refine (hM _ _ _ hz1 hz2).mono ?_
 rintro e w6 ⟨v4,rfl,hz3,b6⟩
 replace hL:=hL.b b6
 replace h8:=h8.b b6
 replace hz1:=hz1.b b6
 replace hz2:=hz2.b b6
 replace hB:=bOn hB b6
 clear c5_h8_0
 have c6_h8_0:=h8.cells1
 obtain⟨nx,rfl,hX⟩:=(id hz3:IsZ _ _ _)
 obtain⟨Ax,Lx,Cx,rfl⟩:=hX.frm
 obtain⟨V2,eV,h10,bV2⟩:=box1 w6 30 #[.bool (decide (x<0)),.slice Ax Lx Cx]
 obtain⟨X2,eX⟩:∃X,X=w6.heap.size:=⟨_,rfl⟩
 rw[←eX] at h10
 have EV2:=Lib.hid (And.intro eV eX)
 clear eV eX
 go_upto_region 5 with fail
 rw[←EV2.out.1,←EV2.out.2]
 replace hL:=hL.b bV2
 replace h8:=h8.b bV2
 replace hz3:=hz3.b bV2
 replace hX:=hX.b bV2
 replace hB:=bOn hB bV2
 clear c6_h8_0
 have c7_h8_0:=h8.cells1
 clear c7_h8_0
 have c8_h8_0:=h8.cells1
 obtain⟨c8_h10_0,c8_h10_1⟩:=h10.cells2
 go_wp2_with fail
 refine (hO3 _).mono ?_
 rintro e w7 ⟨v5,rfl,hz4,b7⟩
 replace hL:=hL.b b7
 replace h8:=h8.b b7
 replace hz3:=hz3.b b7
 replace hX:=hX.b b7
 replace h10:=h10.b b7
 replace hB:=bOn hB b7
 clear c8_h8_0 c8_h10_0 c8_h10_1
 have c9_h8_0:=h8.cells1
 obtain⟨c9_h10_0,c9_h10_1⟩:=h10.cells2
 obtain⟨nd,rfl,hDD⟩:=(id hz4:IsZ _ _ _)
 obtain⟨Ad,Ld,Cd,rfl⟩:=hDD.frm
 obtain⟨V3,eV,h11,bV3⟩:=box1 w7 30 #[.bool (decide (d<0)),.slice Ad Ld Cd]
 obtain⟨X3,eX⟩:∃X,X=w7.heap.size:=⟨_,rfl⟩
 rw[←eX] at h11
 have EV3:=Lib.hid (And.intro eV eX)
 clear eV eX
 go_upto_region 6 with fail
 rw[←EV3.out.1,←EV3.out.2]
 replace hL:=hL.b bV3
 replace h8:=h8.b bV3
 replace hX:=hX.b bV3
 replace h10:=h10.b bV3
 replace hDD:=hDD.b bV3
 replace hB:=bOn hB bV3
 clear c9_h8_0 c9_h10_0 c9_h10_1
 have c10_h8_0:=h8.cells1
 obtain⟨c10_h10_0,c10_h10_1⟩:=h10.cells2
 clear c10_h8_0 c10_h10_0 c10_h10_1
 have c11_h8_0:=h8.cells1
 obtain⟨c11_h10_0,c11_h10_1⟩:=h10.cells2
 obtain⟨c11_h11_0,c11_h11_1⟩:=h11.cells2
 have hSr:=search_any 255 (by omega) p ⟨X1,0,none⟩ ⟨X3,0,none⟩ ⟨X2,0,none⟩ V3 HP.out.2.1 (fun i w' hi hb=>by
  have:=near1_any l HP.out.2.2.1 HP.out.2.2.2.1 d x HP.out.2.2.2.2.1 HP.out.2.2.2.2.2 X1 X2 X3 A1 C1 Ad Ax Ld Lx Cd Cx i hi w' ⟨Nat.lt_of_lt_of_le h8.lt hb.size,Nat.lt_of_lt_of_le h10.lt hb.size,Nat.lt_of_lt_of_le h11.lt hb.size⟩ (h8.below hb h8.lt) (hL.below hb) (h11.below hb h11.lt) (hDD.below hb) (h10.below hb h10.lt) (hX.below hb)
  rw[HP.out.1 i] at this
  exact this)
 go_wp2_with fail
 refine hSr.mono ?_
 rintro e w6 ⟨c,hc,rfl,hlo,hhi,b6⟩
 have HC:=Lib.hid (lowest_eq hc hlo (fun h=>hhi c (Nat.le_refl _) h))
 have hu:IntKind.u8.wrap (c:Int)=c:=by rw[IntKind.wrap_u8];omega
 replace hB:=bOn hB b6
 clear hlo hhi hSr
 go_wp2
 go_ret2
 exact⟨by rw[HC.out];rfl,hB⟩
theorem near_any (k num d:Int) (w:World) (_h0:I64 num) (h1:I64 d):
 Calls Tryz.prog 162 #[.int .i64 k,.int .i64 num,.int .i64 d] w fun e w'=>e= .returned (.tuple #[.int .u8 (codeOf k num d:Nat),.int .i64 (codeE k num d)])∧Below w.heap.size w w':=by
 have hb:∀b:Bool,share k num d=b→share k num d=b:=fun _ h=>h
 by_cases hk:0≤k∧k≤3
 ·obtain⟨n,rfl⟩:=Int.eq_ofNat_of_zero_le hk.1
  have hn:n<4:=by omega
  have hsh:share n num d=(decide (1≤d) && (decide (num≤d) && (decide (-d≤num) && (decide (0≤num) || sgn n)))):=by unfold share;rw[decide_eq_true hk,Bool.true_and]
  by_cases a:d<1
  ·have e:share n num d=false:=by rw[hsh,decide_eq_false (by omega)];rfl
   unfold codeOf codeE;rw[e];exact near_den n hn num d w a
  ·by_cases b:d<num
   ·have e:share n num d=false:=by rw[hsh,decide_eq_false (p:=num≤d) (by omega),Bool.false_and,Bool.and_false]
    unfold codeOf codeE;rw[e];exact near_over n hn num d w a b
   ·by_cases c:num< -d
    ·have e:share n num d=false:=by rw[hsh,decide_eq_false (p:= -d≤num) (by omega),Bool.false_and,Bool.and_false,Bool.and_false]
     unfold codeOf codeE;rw[e];exact near_under n hn num d w a b h1.2 c
    ·by_cases f:num<0
     ·cases s:sgn n
      ·have e:share n num d=false:=by rw[hsh,s,decide_eq_false (p:=0≤num) (by omega),Bool.or_false,Bool.and_false,Bool.and_false,Bool.and_false]
       unfold codeOf codeE;rw[e];exact near_side n hn num d w a b h1.2 c f s
      ·have e:share n num d=true:=by rw[hsh,s,Bool.or_true,decide_eq_true (by omega),decide_eq_true (by omega),decide_eq_true (by omega)];rfl
       unfold codeOf codeE;rw[e,if_pos rfl,if_pos rfl,Int.toNat_natCast];exact near_neg n hn num d w a b h1.2 c f s
     ·have e:share n num d=true:=by rw[hsh,decide_eq_true (p:=0≤num) (by omega),Bool.true_or,decide_eq_true (by omega),decide_eq_true (by omega),decide_eq_true (by omega)];rfl
      unfold codeOf codeE;rw[e,if_pos rfl,if_pos rfl,Int.toNat_natCast];exact near_pos n hn num d w a b h1.2 c f
 ·have e:share k num d=false:=by unfold share;rw[decide_eq_false hk,Bool.false_and]
  unfold codeOf codeE;rw[e];exact near_none k num d w hk
end Go.Proofs.YtdnjdglekifhpaaGreat
namespace Go.Proofs.YtdnjdglekifhpaaGreat
open Go.ChangeShapes Go.WideShapes Go.ChangeAt Go.RowKit
theorem wf_I64 {n:Int} (h:(Lit.int .i64 n).wf=true):I64 n:=by
 have h1:IntKind.i64.min= -9223372036854775808:=rfl
 have h2:IntKind.i64.max=9223372036854775807:=rfl
 simp only[Lit.wf,Bool.and_eq_true,decide_eq_true_eq] at h
 unfold I64
 omega
end Go.Proofs.YtdnjdglekifhpaaGreat
namespace Go.Proofs.YtdnjdglekifhpaaGreat
open Go.RowKit
theorem size_any (a:Int) (h0: -9223372036854775808≤a) (h1:a≤9223372036854775807) (w:World):
 Calls Tryz.prog 170 #[.int .i64 a] w fun e w'=>e= .returned (.int .u64 (a.natAbs:Int))∧w=w':=by
 by_cases h:a<0
 ·have hw:IntKind.u64.wrap a=a+18446744073709551616:=by rw[IntKind.wrap_u64];omega
  have hw2:IntKind.u64.wrap (-(a+18446744073709551616))= -a:=by rw[IntKind.wrap_u64];omega
  have hr:(a.natAbs:Int)= -a:=by omega
  rw[hr]
  clear hr
  go_enter Tryz.func170,Tryz.ntmps170
  go_wp2
  go_ret
  exact⟨rfl,rfl⟩
 ·have hw:IntKind.u64.wrap a=a:=by rw[IntKind.wrap_u64];omega
  have hr:(a.natAbs:Int)=a:=by omega
  rw[hr]
  clear hr
  have h':0≤a:=by omega
  go_enter Tryz.func170,Tryz.ntmps170
  go_wp2
  go_ret
  exact⟨rfl,rfl⟩
theorem sided_any (neg:Bool) (n:Nat) (hn:n<W64) (w:World):
 Calls Tryz.prog 216 #[.bool neg,.int .u64 n] w fun e w'=>e= .returned (.tuple #[.int .i64 (fitV (sided neg n)),.int .i64 (fitE (sided neg n))])∧w=w':=by
 unfold W64 at hn
 cases neg
 ·by_cases h:n≤9223372036854775807
  ·obtain⟨e1,e2⟩:=fit_in (z:=sided false n) (by unfold sided;simp;omega)
   rw[e1,e2,show sided false n=(n:Int) from rfl]
   clear e1 e2
   have hd:decide ((n:Int)≤9223372036854775807)=true:=decide_eq_true (by omega)
   have hw:IntKind.i64.wrap (n:Int)=n:=by rw[IntKind.wrap_i64];omega
   clear h
   go_enter Tryz.func216,Tryz.ntmps216
   go_wp2
   go_ret2
   exact⟨rfl,rfl⟩
  ·obtain⟨e1,e2⟩:=fit_out (z:=sided false n) (by unfold sided;simp;omega)
   rw[e1,e2]
   clear e1 e2
   have hd:decide ((n:Int)≤9223372036854775807)=false:=decide_eq_false (by omega)
   clear h
   go_enter Tryz.func216,Tryz.ntmps216
   go_wp2
   go_ret2
   exact⟨rfl,rfl⟩
 ·by_cases h:n≤9223372036854775808
  ·obtain⟨e1,e2⟩:=fit_in (z:=sided true n) (by unfold sided;simp;omega)
   rw[e1,e2,show sided true n= -(n:Int) from rfl]
   clear e1 e2
   have hd:decide ((n:Int)≤9223372036854775808)=true:=decide_eq_true (by omega)
   have hw:IntKind.i64.wrap (IntKind.u64.wrap (-(n:Int)))= -(n:Int):=by rw[IntKind.wrap_i64,IntKind.wrap_u64];omega
   clear h
   go_enter Tryz.func216,Tryz.ntmps216
   go_wp2
   go_ret2
   exact⟨rfl,rfl⟩
  ·obtain⟨e1,e2⟩:=fit_out (z:=sided true n) (by unfold sided;simp;omega)
   rw[e1,e2]
   clear e1 e2
   have hd:decide ((n:Int)≤9223372036854775808)=false:=decide_eq_false (by omega)
   clear h
   go_enter Tryz.func216,Tryz.ntmps216
   go_wp2
   go_ret2
   exact⟨rfl,rfl⟩
theorem by_over (neg:Bool) (l0 l1 d:Nat) (_h0:l0<W64) (_h1:l1<W64) (_hd:d<W64) (_hp:0<d) (h:d≤l0) (w:World):
 Calls Tryz.prog 171 #[.bool neg,.agg #[.int .u64 l0,.int .u64 l1],.int .u64 d] w fun e w'=>e= .returned (.tuple #[.int .i64 0,.int .i64 2])∧Below w.heap.size w w':=by
 unfold W64 at *
 go_enter Tryz.func171,Tryz.ntmps171
 go_wp2
 go_ret2
 exact⟨rfl,(Below.refl _ w).alloc (Nat.le_refl _) _⟩
end Go.Proofs.YtdnjdglekifhpaaGreat
namespace Go.Proofs.YtdnjdglekifhpaaGreat
open Go.RowKit
theorem by_down (neg:Bool) (l0 l1 d q r lo:Nat) (hi m:Int) (b1 b2 b3 b4:Bool) (w:World) (hl:decide (d≤l0)=false)
 (hD:∀w,Calls Tryz.prog 215 #[.int .u64 l0,.int .u64 l1,.int .u64 d] w fun e w'=>e= .returned (.tuple #[.int .u64 (q:Int),.int .u64 (r:Int)])∧∃n,w'=w.drewN n)
 (hA:∀w,(callFunc 179 #[.int .u64 r,.int .u64 r,.int .u64 0]).run Tryz.prog w= .ok (.value (.tuple #[.int .u64 (lo:Int),.int .u64 hi])) w)
 (h1:decide ((0:Int)<hi)=b1) (h2:decide (d<lo)=b2) (heq:∀W,(Op.equalIn 10000 194 (.agg #[.int .u64 hi,.int .u64 (lo:Int)]) (.agg #[.int .u64 0,.int .u64 (d:Int)])).run Tryz.prog W= .ok b3 W)
 (hb:bits .and .u64 (q:Int) 1=m) (h4:(m == 1)=b4)
 (hup:(b1=false∧b2=false∧b3=false)∨(b1=false∧b2=false∧b3=true∧b4=false)) (v e:Int)
 (hS:∀w,Calls Tryz.prog 216 #[.bool neg,.int .u64 q] w fun x w'=>x= .returned (.tuple #[.int .i64 v,.int .i64 e])∧w=w'):
 Calls Tryz.prog 171 #[.bool neg,.agg #[.int .u64 l0,.int .u64 l1],.int .u64 d] w fun x w'=>x= .returned (.tuple #[.int .i64 v,.int .i64 e])∧Below w.heap.size w w':=by
 rcases hup with ⟨rfl,rfl,rfl⟩ | ⟨rfl,rfl,rfl,rfl⟩
 all_goals
  go_enter Tryz.func171,Tryz.ntmps171
  go_wp2_with fail
  refine (hD _).mono ?_
  rintro e w' ⟨rfl,n,rfl⟩
  go_wp2_with fail
  refine (hS _).mono ?_
  rintro e w' ⟨rfl,rfl⟩
  go_wp2
  go_ret2
  exact⟨rfl,((below_drewN ((Below.refl _ w).alloc (Nat.le_refl _) _) n).alloc (by simp) _)⟩
theorem by_max (neg:Bool) (l0 l1 d q r lo:Nat) (hi m:Int) (b1 b2 b3 b4:Bool) (w:World) (hl:decide (d≤l0)=false)
 (hD:∀w,Calls Tryz.prog 215 #[.int .u64 l0,.int .u64 l1,.int .u64 d] w fun e w'=>e= .returned (.tuple #[.int .u64 (q:Int),.int .u64 (r:Int)])∧∃n,w'=w.drewN n)
 (hA:∀w,(callFunc 179 #[.int .u64 r,.int .u64 r,.int .u64 0]).run Tryz.prog w= .ok (.value (.tuple #[.int .u64 (lo:Int),.int .u64 hi])) w)
 (h1:decide ((0:Int)<hi)=b1) (h2:decide (d<lo)=b2) (heq:∀W,(Op.equalIn 10000 194 (.agg #[.int .u64 hi,.int .u64 (lo:Int)]) (.agg #[.int .u64 0,.int .u64 (d:Int)])).run Tryz.prog W= .ok b3 W)
 (hb:bits .and .u64 (q:Int) 1=m) (h4:(m == 1)=b4)
 (hup:b1=true∨(b1=false∧b2=true)∨(b1=false∧b2=false∧b3=true∧b4=true)) (hmx:((q:Int) == 18446744073709551615)=true):
 Calls Tryz.prog 171 #[.bool neg,.agg #[.int .u64 l0,.int .u64 l1],.int .u64 d] w fun x w'=>x= .returned (.tuple #[.int .i64 0,.int .i64 2])∧Below w.heap.size w w':=by
 rcases hup with rfl | ⟨rfl,rfl⟩ | ⟨rfl,rfl,rfl,rfl⟩
 all_goals
  go_enter Tryz.func171,Tryz.ntmps171
  go_wp2_with fail
  refine (hD _).mono ?_
  rintro e w' ⟨rfl,n,rfl⟩
  go_wp2
  go_ret2
  exact⟨rfl,((below_drewN ((Below.refl _ w).alloc (Nat.le_refl _) _) n).alloc (by simp) _)⟩
theorem by_up (neg:Bool) (l0 l1 d q r lo:Nat) (hi m:Int) (b1 b2 b3 b4:Bool) (w:World) (hl:decide (d≤l0)=false)
 (hD:∀w,Calls Tryz.prog 215 #[.int .u64 l0,.int .u64 l1,.int .u64 d] w fun e w'=>e= .returned (.tuple #[.int .u64 (q:Int),.int .u64 (r:Int)])∧∃n,w'=w.drewN n)
 (hA:∀w,(callFunc 179 #[.int .u64 r,.int .u64 r,.int .u64 0]).run Tryz.prog w= .ok (.value (.tuple #[.int .u64 (lo:Int),.int .u64 hi])) w)
 (h1:decide ((0:Int)<hi)=b1) (h2:decide (d<lo)=b2) (heq:∀W,(Op.equalIn 10000 194 (.agg #[.int .u64 hi,.int .u64 (lo:Int)]) (.agg #[.int .u64 0,.int .u64 (d:Int)])).run Tryz.prog W= .ok b3 W)
 (hb:bits .and .u64 (q:Int) 1=m) (h4:(m == 1)=b4)
 (hup:b1=true∨(b1=false∧b2=true)∨(b1=false∧b2=false∧b3=true∧b4=true)) (hmx:((q:Int) == 18446744073709551615)=false) (v e:Int) (q':Nat) (hw:IntKind.u64.wrap ((q:Int)+1)=(q':Int))
 (hS:∀w,Calls Tryz.prog 216 #[.bool neg,.int .u64 (q':Int)] w fun x w'=>x= .returned (.tuple #[.int .i64 v,.int .i64 e])∧w=w'):
 Calls Tryz.prog 171 #[.bool neg,.agg #[.int .u64 l0,.int .u64 l1],.int .u64 d] w fun x w'=>x= .returned (.tuple #[.int .i64 v,.int .i64 e])∧Below w.heap.size w w':=by
 rcases hup with rfl | ⟨rfl,rfl⟩ | ⟨rfl,rfl,rfl,rfl⟩
 all_goals
  go_enter Tryz.func171,Tryz.ntmps171
  go_wp2_with fail
  refine (hD _).mono ?_
  rintro e w' ⟨rfl,n,rfl⟩
  go_wp2_with fail
  refine (hS _).mono ?_
  rintro e w' ⟨rfl,rfl⟩
  go_wp2
  go_ret2
  exact⟨rfl,((below_drewN ((Below.refl _ w).alloc (Nat.le_refl _) _) n).alloc (by simp) _)⟩
theorem by_in (neg:Bool) (l0 l1 d:Nat) (_h0:l0<W64) (h1:l1<W64) (hd:d<W64) (h:l0<d) (w:World):
 Calls Tryz.prog 171 #[.bool neg,.agg #[.int .u64 l0,.int .u64 l1],.int .u64 d] w fun e w'=>e= .returned (.tuple #[.int .i64 (fitV (sided neg (rne (l0*W64+l1) d))),.int .i64 (fitE (sided neg (rne (l0*W64+l1) d)))])∧Below w.heap.size w w':=by
 have hD:=fun w=>div64_any l0 l1 d h1 hd h w
 have hq:(l0*W64+l1) / d<W64:=by
  rw[Nat.div_lt_iff_lt_mul (by omega)]
  have :(l0+1)*W64≤d*W64:=Nat.mul_le_mul_right _ h
  rw[Nat.mul_comm W64 d];unfold W64 at *;omega
 have hr:(l0*W64+l1) % d<d:=Nat.mod_lt _ (by omega)
 rw[rne]
 generalize (l0*W64+l1) / d=q at *
 generalize (l0*W64+l1) % d=r at *
 have hA:=fun w=>run_Add64_ex r r 0 ((r+r) % W64) ((r+r) / W64) 0 (by simp) (Nat.zero_le _) (by rw[Nat.add_zero]) (by rw[Nat.add_zero]) w
 have hsk:2*r=(r+r) / W64*W64+(r+r) % W64:=by unfold W64;omega
 have hlo:(r+r) % W64<W64:=Nat.mod_lt _ W64_pos
 generalize (r+r) % W64=lo at *
 generalize (r+r) / W64=hi at *
 have hl:decide (d≤l0)=false:=decide_eq_false (by omega)
 have hE:=fun W=>eql_pair hi lo 0 d W
 have hb:bits .and .u64 (q:Int) 1=((q % 2:Nat):Int):=by
  have:=u64_and_nat q 1 (by unfold W64 at hq;exact hq) (by omega)
  rw[Nat.and_one_is_mod] at this;exact this
 have key:(d<2*r∨(2*r=d∧q % 2=1))↔(0<hi∨(hi=0∧d<lo)∨(hi=0∧lo=d∧q % 2=1)):=by
  rcases Nat.eq_zero_or_pos hi with h0 | h0
  ·subst h0;omega
  ·have :W64≤hi*W64:=Nat.le_mul_of_pos_left _ h0
   omega
 by_cases hup:0<hi∨(hi=0∧d<lo)∨(hi=0∧lo=d∧q % 2=1)
 ·rw[if_pos (key.2 hup)]
  have hup':decide ((0:Int)<(hi:Int))=true∨(decide ((0:Int)<(hi:Int))=false∧decide (d<lo)=true)∨(decide ((0:Int)<(hi:Int))=false∧decide (d<lo)=false∧(((hi:Int) == 0) && ((lo:Int) == (d:Int)))=true∧(((q % 2:Nat):Int) == 1)=true):=by
   simp only[decide_eq_true_eq,decide_eq_false_iff_not,Bool.and_eq_true,beq_iff_eq];omega
  by_cases hm:q=18446744073709551615
  ·have hbig:=sided_big (neg:=neg) (n:=q+1) (Nat.le_of_eq (by rw[hm]))
   obtain⟨e1,e2⟩:=fit_out hbig
   rw[e1,e2]
   exact by_max neg l0 l1 d q r lo hi _ _ _ _ _ w hl hD hA rfl rfl hE hb rfl hup' (by rw[beq_iff_eq];omega)
  ·have hlt:q+1<W64:=by unfold W64 at *;omega
   exact by_up neg l0 l1 d q r lo hi _ _ _ _ _ w hl hD hA rfl rfl hE hb rfl hup' (by rw[beq_eq_false_iff_ne];omega) _ _ (q+1) (by rw[IntKind.wrap_u64];unfold W64 at hlt;omega) (fun w=>sided_any neg (q+1) hlt w)
 ·rw[if_neg (fun hh=>hup (key.1 hh))]
  have hup':(decide ((0:Int)<(hi:Int))=false∧decide (d<lo)=false∧(((hi:Int) == 0) && ((lo:Int) == (d:Int)))=false)∨(decide ((0:Int)<(hi:Int))=false∧decide (d<lo)=false∧(((hi:Int) == 0) && ((lo:Int) == (d:Int)))=true∧(((q % 2:Nat):Int) == 1)=false):=by
   simp only[decide_eq_false_iff_not,Bool.and_eq_true,Bool.and_eq_false_iff,beq_iff_eq,beq_eq_false_iff_ne];omega
  exact by_down neg l0 l1 d q r lo hi _ _ _ _ _ w hl hD hA rfl rfl hE hb rfl hup' _ _ (fun w=>sided_any neg q hq w)
theorem by_any (neg:Bool) (l0 l1 d:Nat) (h0:l0<W64) (h1:l1<W64) (hd:d<W64) (hp:0<d) (w:World):
 Calls Tryz.prog 171 #[.bool neg,.agg #[.int .u64 l0,.int .u64 l1],.int .u64 d] w fun e w'=>e= .returned (.tuple #[.int .i64 (fitV (sided neg (rne (l0*W64+l1) d))),.int .i64 (fitE (sided neg (rne (l0*W64+l1) d)))])∧Below w.heap.size w w':=by
 by_cases h:l0<d
 ·exact by_in neg l0 l1 d h0 h1 hd h w
 ·have hbig:18446744073709551616≤rne (l0*W64+l1) d:=by
   refine Nat.le_trans ?_ (rne_ge _ _)
   have :d*W64≤l0*W64:=Nat.mul_le_mul_right _ (by omega)
   have h3:W64*d≤l0*W64+l1:=by rw[Nat.mul_comm];exact Nat.le_trans this (Nat.le_add_right _ _)
   exact (Nat.le_div_iff_mul_le hp).2 h3
  obtain⟨e1,e2⟩:=fit_out (sided_big (neg:=neg) hbig)
  rw[e1,e2]
  exact by_over neg l0 l1 d h0 h1 hd hp (by omega) w
end Go.Proofs.YtdnjdglekifhpaaGreat
namespace Go.Proofs.YtdnjdglekifhpaaGreat
open Go.RowKit
theorem fadd_any (a b:Int) (ha0: -9223372036854775808≤a) (ha1:a≤9223372036854775807) (hb0: -9223372036854775808≤b) (hb1:b≤9223372036854775807) (w:World):
 Calls Tryz.prog 239 #[.int .i64 a,.int .i64 b] w fun e w'=>e= .returned (.tuple #[.int .i64 (fitV (a+b)),.int .i64 (fitE (a+b))])∧w=w':=by
 obtain⟨s,hs⟩:∃s,s=IntKind.i64.wrap (a+b):=⟨_,rfl⟩
 have hsv:s=(a+b+9223372036854775808) % 18446744073709551616 - 9223372036854775808:=by rw[hs,IntKind.wrap_i64]
 have hws:=hs.symm
 clear hs
 by_cases hok: -9223372036854775808≤a+b∧a+b≤9223372036854775807
 ·obtain⟨e1,e2⟩:=fit_in hok
  rw[e1,e2]
  have hse:a+b=s:=by omega
  rw[hse]
  have hsg:(decide (a<0)=true∧decide (b<0)=true∧decide (s<0)=true)∨(decide (a<0)=false∧decide (b<0)=false∧decide (s<0)=false)∨(decide (a<0)=true∧decide (b<0)=false)∨(decide (a<0)=false∧decide (b<0)=true):=by
   simp only[decide_eq_true_eq,decide_eq_false_iff_not];omega
  clear hse e1 e2 hok hsv ha0 ha1 hb0 hb1
  rcases hsg with ⟨h1,h2,h3⟩ | ⟨h1,h2,h3⟩ | ⟨h1,h2⟩ | ⟨h1,h2⟩
  all_goals
   go_enter Tryz.func239,Tryz.ntmps239
   go_wp2
   go_ret2
   exact⟨rfl,rfl⟩
 ·obtain⟨e1,e2⟩:=fit_out hok
  rw[e1,e2]
  have hsg:(decide (a<0)=true∧decide (b<0)=true∧decide (s<0)=false)∨(decide (a<0)=false∧decide (b<0)=false∧decide (s<0)=true):=by
   simp only[decide_eq_true_eq,decide_eq_false_iff_not];omega
  clear e1 e2 hok hsv ha0 ha1 hb0 hb1
  rcases hsg with ⟨h1,h2,h3⟩ | ⟨h1,h2,h3⟩
  all_goals
   go_enter Tryz.func239,Tryz.ntmps239
   go_wp2
   go_ret2
   exact⟨rfl,rfl⟩
theorem fsub_any (a b:Int) (ha0: -9223372036854775808≤a) (ha1:a≤9223372036854775807) (hb0: -9223372036854775808≤b) (hb1:b≤9223372036854775807) (w:World):
 Calls Tryz.prog 240 #[.int .i64 a,.int .i64 b] w fun e w'=>e= .returned (.tuple #[.int .i64 (fitV (a - b)),.int .i64 (fitE (a - b))])∧w=w':=by
 obtain⟨s,hs⟩:∃s,s=IntKind.i64.wrap (a - b):=⟨_,rfl⟩
 have hsv:s=(a - b+9223372036854775808) % 18446744073709551616 - 9223372036854775808:=by rw[hs,IntKind.wrap_i64]
 have hws:=hs.symm
 clear hs
 by_cases hok: -9223372036854775808≤a - b∧a - b≤9223372036854775807
 ·obtain⟨e1,e2⟩:=fit_in hok
  rw[e1,e2]
  have hse:a - b=s:=by omega
  rw[hse]
  have hsg:(decide (a<0)=true∧decide (b<0)=false∧decide (s<0)=true)∨(decide (a<0)=false∧decide (b<0)=true∧decide (s<0)=false)∨(decide (a<0)=true∧decide (b<0)=true)∨(decide (a<0)=false∧decide (b<0)=false):=by
   simp only[decide_eq_true_eq,decide_eq_false_iff_not];omega
  clear hse e1 e2 hok hsv ha0 ha1 hb0 hb1
  rcases hsg with ⟨h1,h2,h3⟩ | ⟨h1,h2,h3⟩ | ⟨h1,h2⟩ | ⟨h1,h2⟩
  all_goals
   go_enter Tryz.func240,Tryz.ntmps240
   go_wp2
   go_ret2
   exact⟨rfl,rfl⟩
 ·obtain⟨e1,e2⟩:=fit_out hok
  rw[e1,e2]
  have hsg:(decide (a<0)=true∧decide (b<0)=false∧decide (s<0)=false)∨(decide (a<0)=false∧decide (b<0)=true∧decide (s<0)=true):=by
   simp only[decide_eq_true_eq,decide_eq_false_iff_not];omega
  clear e1 e2 hok hsv ha0 ha1 hb0 hb1
  rcases hsg with ⟨h1,h2,h3⟩ | ⟨h1,h2,h3⟩
  all_goals
   go_enter Tryz.func240,Tryz.ntmps240
   go_wp2
   go_ret2
   exact⟨rfl,rfl⟩
theorem isfrac_any (f:Int) (w:World):Calls Tryz.prog 168 #[.int .i64 f] w fun e w'=>e= .returned (.bool (decide (0≤f∧f≤40)))∧w=w':=by
 by_cases h0:0≤f
 ·by_cases h1:f≤40
  ·rw[decide_eq_true ⟨h0,h1⟩]
   go_enter Tryz.func168,Tryz.ntmps168
   go_wp2
   go_ret
   exact⟨rfl,rfl⟩
  ·rw[decide_eq_false (fun h=>h1 h.2)]
   go_enter Tryz.func168,Tryz.ntmps168
   go_wp2
   go_ret
   exact⟨rfl,rfl⟩
 ·rw[decide_eq_false (fun h=>h0 h.1)]
  go_enter Tryz.func168,Tryz.ntmps168
  go_wp2
  go_ret
  exact⟨rfl,rfl⟩
theorem pow_le40 (f:Nat) (h:f≤40):1≤2^f∧2^f≤1099511627776:=⟨Nat.pow_pos (by omega),Nat.pow_le_pow_right (by omega) h⟩
theorem fmul_any (a b:Int) (f:Nat) (hf:f≤40) (ha0: -9223372036854775808≤a) (ha1:a≤9223372036854775807) (hb0: -9223372036854775808≤b) (hb1:b≤9223372036854775807) (w:World):
 Calls Tryz.prog 107 #[.int .i64 a,.int .i64 b,.int .i64 f] w fun e w'=>e= .returned (.tuple #[.int .i64 (fitV (mulZ a b f)),.int .i64 (fitE (mulZ a b f))])∧Below w.heap.size w w':=by
 have hF:=fun w=>isfrac_any f w
 rw[decide_eq_true (by omega)] at hF
 obtain⟨p1,p2⟩:=pow_le40 f hf
 have hSa:=fun w=>size_any a ha0 ha1 w
 have hSb:=fun w=>size_any b hb0 hb1 w
 have hxa:a.natAbs<W64:=by unfold W64;omega
 have hxb:b.natAbs<W64:=by unfold W64;omega
 have hM:=fun w=>mul64_any a.natAbs b.natAbs hxa hxb w
 have hsum:a.natAbs*b.natAbs / W64*W64+a.natAbs*b.natAbs % W64=a.natAbs*b.natAbs:=by rw[Nat.mul_comm];exact Nat.div_add_mod _ _
 have h0:a.natAbs*b.natAbs / W64<W64:=by
  rw[Nat.div_lt_iff_lt_mul W64_pos]
  exact Nat.mul_lt_mul'' hxa hxb
 have hB:=by_any (decide (a<0) != decide (b<0)) (a.natAbs*b.natAbs / W64) (a.natAbs*b.natAbs % W64) (2^f) h0 (Nat.mod_lt _ W64_pos) (by unfold W64;omega) (by omega)
 rw[hsum] at hB
 have hz:sided (decide (a<0) != decide (b<0)) (rne (a.natAbs*b.natAbs) (2^f))=mulZ a b f:=rfl
 rw[hz] at hB
 clear hz hsum h0 hxa hxb
 generalize mulZ a b f=z at *
 generalize a.natAbs*b.natAbs / W64=hi at *
 generalize a.natAbs*b.natAbs % W64=lo at *
 generalize a.natAbs=x at *
 generalize b.natAbs=y at *
 have hsh:IntKind.u64.wrap (1*2^f)=((2^f:Nat):Int):=by
  rw[IntKind.wrap_u64,Int.one_mul,show (2:Int)^f=((2^f:Nat):Int) from by simp];omega
 have hsh2:IntKind.u64.wrap (2^f)=((2^f:Nat):Int):=by
  rw[IntKind.wrap_u64,show (2:Int)^f=((2^f:Nat):Int) from by simp];omega
 generalize 2^f=d at *
 clear p1 p2 ha0 ha1 hb0 hb1
 have hs4:(decide (a<0)=true∧decide (b<0)=true)∨(decide (a<0)=true∧decide (b<0)=false)∨(decide (a<0)=false∧decide (b<0)=true)∨(decide (a<0)=false∧decide (b<0)=false):=by
  simp only[decide_eq_true_eq,decide_eq_false_iff_not];omega
 rcases hs4 with ⟨h1,h2⟩ | ⟨h1,h2⟩ | ⟨h1,h2⟩ | ⟨h1,h2⟩
 all_goals
  have hB:∀w,Calls Tryz.prog 171 #[.bool (decide (a<0) != decide (b<0)),.agg #[.int .u64 hi,.int .u64 lo],.int .u64 d] w fun e w'=>e= .returned (.tuple #[.int .i64 (fitV z),.int .i64 (fitE z)])∧Below w.heap.size w w':=hB
  rw[h1,h2] at hB
  go_enter Tryz.func107,Tryz.ntmps107
  go_wp2_with fail
  refine (hF _).mono ?_
  rintro e w' ⟨rfl,rfl⟩
  go_wp2_with fail
  refine (hSa _).mono ?_
  rintro e w' ⟨rfl,rfl⟩
  go_wp2_with fail
  refine (hSb _).mono ?_
  rintro e w' ⟨rfl,rfl⟩
  go_wp2_with fail
  refine (hM _).mono ?_
  rintro e w' ⟨rfl,rfl⟩
  go_wp2_with fail
  refine (hB _).mono ?_
  rintro e w' ⟨rfl,hb⟩
  go_wp2
  go_ret2
  exact⟨rfl,hb⟩
end Go.Proofs.YtdnjdglekifhpaaGreat
namespace Go.Proofs.YtdnjdglekifhpaaGreat
open Go.RowKit
def scaleZ (a n d:Int):Int:=sided (decide (a<0) != decide (n<0)) (rne (a.natAbs*n.natAbs) d.toNat)
theorem fscale_any (a b d:Int) (hd:1≤d) (hd1:d≤9223372036854775807) (ha0: -9223372036854775808≤a) (ha1:a≤9223372036854775807) (hb0: -9223372036854775808≤b) (hb1:b≤9223372036854775807) (w:World):
 Calls Tryz.prog 289 #[.int .i64 a,.int .i64 b,.int .i64 d] w fun e w'=>e= .returned (.tuple #[.int .i64 (fitV (scaleZ a b d)),.int .i64 (fitE (scaleZ a b d))])∧Below w.heap.size w w':=by
 have hSa:=fun w=>size_any a ha0 ha1 w
 have hSb:=fun w=>size_any b hb0 hb1 w
 have hxa:a.natAbs<W64:=by unfold W64;omega
 have hxb:b.natAbs<W64:=by unfold W64;omega
 have hM:=fun w=>mul64_any a.natAbs b.natAbs hxa hxb w
 have hsum:a.natAbs*b.natAbs / W64*W64+a.natAbs*b.natAbs % W64=a.natAbs*b.natAbs:=by rw[Nat.mul_comm];exact Nat.div_add_mod _ _
 have h0:a.natAbs*b.natAbs / W64<W64:=by
  rw[Nat.div_lt_iff_lt_mul W64_pos]
  exact Nat.mul_lt_mul'' hxa hxb
 have hB:=by_any (decide (a<0) != decide (b<0)) (a.natAbs*b.natAbs / W64) (a.natAbs*b.natAbs % W64) d.toNat h0 (Nat.mod_lt _ W64_pos) (by unfold W64;omega) (by omega)
 rw[hsum] at hB
 have hz:sided (decide (a<0) != decide (b<0)) (rne (a.natAbs*b.natAbs) d.toNat)=scaleZ a b d:=rfl
 rw[hz] at hB
 clear hz hsum h0 hxa hxb
 generalize scaleZ a b d=z at *
 generalize a.natAbs*b.natAbs / W64=hi at *
 generalize a.natAbs*b.natAbs % W64=lo at *
 generalize a.natAbs=x at *
 generalize b.natAbs=y at *
 obtain⟨k,rfl⟩:=Int.eq_ofNat_of_zero_le (show 0≤d by omega)
 rw[Int.toNat_natCast] at hB
 have hsh:IntKind.u64.wrap (k:Int)=(k:Int):=by rw[IntKind.wrap_u64];omega
 have hd0:decide ((k:Int)<1)=false:=decide_eq_false (by omega)
 clear ha0 ha1 hb0 hb1 hd hd1
 have hs4:(decide (a<0)=true∧decide (b<0)=true)∨(decide (a<0)=true∧decide (b<0)=false)∨(decide (a<0)=false∧decide (b<0)=true)∨(decide (a<0)=false∧decide (b<0)=false):=by
  simp only[decide_eq_true_eq,decide_eq_false_iff_not];omega
 rcases hs4 with ⟨h1,h2⟩ | ⟨h1,h2⟩ | ⟨h1,h2⟩ | ⟨h1,h2⟩
 all_goals
  have hB:∀w,Calls Tryz.prog 171 #[.bool (decide (a<0) != decide (b<0)),.agg #[.int .u64 hi,.int .u64 lo],.int .u64 k] w fun e w'=>e= .returned (.tuple #[.int .i64 (fitV z),.int .i64 (fitE z)])∧Below w.heap.size w w':=hB
  rw[h1,h2] at hB
  go_enter Tryz.func289,Tryz.ntmps289
  go_wp2_with fail
  refine (hSa _).mono ?_
  rintro e w' ⟨rfl,rfl⟩
  go_wp2_with fail
  refine (hSb _).mono ?_
  rintro e w' ⟨rfl,rfl⟩
  go_wp2_with fail
  refine (hM _).mono ?_
  rintro e w' ⟨rfl,rfl⟩
  go_wp2_with fail
  refine (hB _).mono ?_
  rintro e w' ⟨rfl,b1⟩
  go_wp2
  go_ret2
  exact⟨rfl,b1⟩
end Go.Proofs.YtdnjdglekifhpaaGreat
namespace Go.Proofs.YtdnjdglekifhpaaGreat
open Go.RowKit
section
variable {w w':World} {g:Nat} {l:List Int}
theorem IArr.isI (h:IArr w g l) (hl:l.length≤9223372036854775807):IsI w (.slice (some ⟨g,0,none⟩) l.length l.length) l:=
 ⟨_, _, rfl, Nat.le_refl _, hl, by rw [is_len]; omega, fun _ => ⟨_, rfl, h.lt, fun j u hu => by
  have e:Addr.add ⟨g,0,none⟩ j=⟨g,j,none⟩:=by unfold Addr.add;split<;>simp_all
  have hj:j<l.length:=by
   rcases Nat.lt_or_ge j l.length with h' | h'
   ·exact h'
   ·rw[List.getElem?_eq_none (by rw[is_len];exact h')] at hu;cases hu
  rw[e,h.cell hj]
  rw[is_at l j hj] at hu
  exact hu⟩⟩
end
theorem madeCells_is (n:Nat):madeCells (Value.int .i64 0).cells n=(is (List.replicate n 0)).toArray:=by
 have e:∀i:Nat,(Value.int .i64 0).cells[i % (Value.int .i64 0).cells.size]! = .int .i64 0:=fun i=>by simp[Value.cells,Nat.mod_one]
 unfold madeCells
 rw[show (fun x=>(Value.int .i64 0).cells[x % (Value.int .i64 0).cells.size]!)=fun _=>Value.int .i64 0 from funext e]
 apply Array.ext
 ·simp[is]
 ·intro i h1 h2;simp[is]
theorem run_make_i64 (t:TypeId) (ht:Tryz.prog.underlying t=some (.slice 2)) (n:Nat) (k:Int) (hk:k=n) (hn:n≤10000000) (W:World):
 (Instr.makeSlice t (.int .i64 k) (.int .i64 k)).run Tryz.prog W= .ok (.slice (some ⟨W.heap.size,0,none⟩) n n) (W.alloc (.cells (is (List.replicate n 0)).toArray 2)):=by
 obtain⟨i0,hi,hz0,hz1,hz2⟩:=info_parts info_i64
 subst hk
 rw[run_make W t 2 i0 (.int .i64 0) ht hi hz0 .i64 .i64 n n (by omega) (by omega) (by rw[hz2];omega) (by omega)]
 simp only[Int.toNat_natCast,hz1,Nat.mul_one,madeCells_is]
attribute [local go_sem ↓] Go.wp_at_zero Go.wp_at_succ
theorem newI (w:World) (l:List Int):∃V,V=w.alloc (.cells (is l).toArray 2)∧IArr V w.heap.size l∧Below w.heap.size w V:=⟨_,rfl,IArr.new w l,(Below.refl _ w).alloc (Nat.le_refl _) _⟩
theorem scale_load {n:Nat} (hn:n<4) (s:Int) (c:Nat):scaleZ s (iat (bk n) c) (den (n:Nat))=loadZ n s c:=by
 unfold scaleZ loadZ
 rw[←nearZ_sided _ _ _ (den_nat hn).1]
 congr 1
 unfold sided
 rcases Int.lt_or_le s 0 with h | h<;>rcases Int.lt_or_le (iat (bk n) c) 0 with h' | h'
 ·rw[decide_eq_true h,decide_eq_true h']
  have e1:((s.natAbs:Nat):Int)= -s:=by omega
  have e2:(((iat (bk n) c).natAbs:Nat):Int)= -iat (bk n) c:=by omega
  simp[e1,e2,Int.neg_mul,Int.mul_neg]
 ·rw[decide_eq_true h,decide_eq_false (by omega:¬iat (bk n) c<0)]
  have e1:((s.natAbs:Nat):Int)= -s:=by omega
  have e2:(((iat (bk n) c).natAbs:Nat):Int)=iat (bk n) c:=by omega
  simp[e1,e2,Int.neg_mul]
 ·rw[decide_eq_false (by omega:¬s<0),decide_eq_true h']
  have e1:((s.natAbs:Nat):Int)=s:=by omega
  have e2:(((iat (bk n) c).natAbs:Nat):Int)= -iat (bk n) c:=by omega
  simp[e1,e2,Int.mul_neg]
 ·rw[decide_eq_false (by omega:¬s<0),decide_eq_false (by omega:¬iat (bk n) c<0)]
  have e1:((s.natAbs:Nat):Int)=s:=by omega
  have e2:(((iat (bk n) c).natAbs:Nat):Int)=iat (bk n) c:=by omega
  simp[e1,e2]
def upTo (n:Nat) (s:Int) (cs:List Nat) (j:Nat):List Int:=loadC n s (cs.take j)++List.replicate (cs.length - j) 0
theorem upTo_len (n:Nat) (s:Int) (cs:List Nat) (j:Nat) (hj:j≤cs.length):(upTo n s cs j).length=cs.length:=by unfold upTo loadC;simp;omega
theorem upTo_set (n:Nat) (s:Int) (cs:List Nat) (j:Nat) (hj:j<cs.length):(upTo n s cs j).set j (loadZ n s (yat cs j))=upTo n s cs (j+1):=by
 unfold upTo
 have hl:(loadC n s (cs.take j)).length=j:=by unfold loadC;simp;omega
 rw[List.set_append_right _ _ (by omega),hl,Nat.sub_self,yat_snoc_take cs j hj,show cs.length - j=(cs.length - (j+1))+1 by omega,List.replicate_succ,List.set_cons_zero]
 unfold loadC
 simp
theorem upTo_all (n:Nat) (s:Int) (cs:List Nat):upTo n s cs cs.length=loadC n s cs:=by unfold upTo;simp
theorem upTo_none (n:Nat) (s:Int) (cs:List Nat):upTo n s cs 0=List.replicate cs.length 0:=by unfold upTo loadC;simp
theorem cload_any (v:Value) (n:Nat) (s:Int) (cs:List Nat) (wd:List Int) (w:World) (hn:n<4) (hs0:0≤s) (hs1:s≤9223372036854775807) (hcl:cs.length≤1000000) (h:IsBk w v n s cs wd):
 Calls Tryz.prog 287 #[v] w fun e w'=>∃v',e= .returned v'∧IsI w' v' (loadC n s cs)∧Below w.heap.size w w':=by
 obtain⟨a,b,rfl,ha,hb⟩:=h
 obtain⟨Aa,Ca,rfl,_,_⟩:=id ha.form
 have HBy:=Lib.hid ha.by_
 have hB0:=fun w=>book_any n w
 rw[show bke n=0 from if_pos (by omega),bkz_nat n hn] at hB0
 have hD:=fun w=>den_any n w
 have hlen:=bk_len n hn
 have hden:=dens n hn
 have hSc:∀c,c<256→∀w,Calls Tryz.prog 289 #[.int .i64 s,.int .i64 (iat (bk n) c),.int .i64 (den (n:Nat))] w fun e w'=>e= .returned (.tuple #[.int .i64 (loadZ n s c),.int .i64 (fitE (loadZ n s c))])∧Below w.heap.size w w':=by
  intro c hc w
  obtain⟨l1,l2,_⟩:=loadZ_le hn hs0 hc
  have hi:=bk_in hn c
  have:=fscale_any s (iat (bk n) c) (den (n:Nat)) (by omega) (by omega) (by omega) hs1 (by omega) (by omega) w
  rw[scale_load hn,(fit_in (z:=loadZ n s c) (by omega)).1] at this
  exact this
 have hmk:=run_make_i64 62 Tryz.underlying62 cs.length cs.length rfl (by omega)
 generalize den (n:Nat)=D at *
 clear hden hs0 hs1
 obtain⟨W0,hW,hR,hB⟩:=box1 w 223 #[.int .i64 n,.int .i64 s,.slice Aa cs.length Ca,b]
 obtain⟨g,hg⟩:∃g,g=w.heap.size:=⟨_,rfl⟩
 have hW':=Lib.hid (And.intro hW hg)
 rw[←hg] at hR
 have hgw:w.heap.size≤g:=by omega
 clear hW hg
 skip
 replace ha:=ha.b hB
 replace hb:=hb.b hB
 obtain⟨c1_hR_0,c1_hR_1,c1_hR_2,c1_hR_3⟩:=hR.quad
 go_enter Tryz.func287,Tryz.ntmps287
 go_wp2_with fail
 rw[←hW'.out.1,←hW'.out.2]
 refine (hB0 _).mono ?_
 rintro e w1 ⟨v1,rfl,hL,b1⟩
 replace ha:=ha.b b1
 replace hb:=hb.b b1
 replace hR:=hR.b b1
 replace hB:=bOn hB b1
 clear c1_hR_0 c1_hR_1 c1_hR_2 c1_hR_3
 obtain⟨c2_hR_0,c2_hR_1,c2_hR_2,c2_hR_3⟩:=hR.quad
 obtain⟨A1,C1,rfl,_,_⟩:=id hL.form
 rw[hlen] at hL ⊢
 obtain⟨V1,eV,hO,bX⟩:=newI w1 (List.replicate cs.length 0)
 obtain⟨X,eX⟩:∃X,X=w1.heap.size:=⟨_,rfl⟩
 rw[←eX] at hO
 have hgX:g<X:=by rw[eX];exact hR.lt
 have hXs:w1.heap.size≤X:=by omega
 have EV1:=Lib.hid (And.intro eV eX)
 clear eV eX
 go_upto_region 3 with fail
 rw[←EV1.out.1,←EV1.out.2]
 rw[←upTo_none n s cs] at hO
 have hRV:=hR.below bX hR.lt
 clear c2_hR_0 c2_hR_1 c2_hR_2 c2_hR_3
 obtain⟨c3_hR_0,c3_hR_1,c3_hR_2,c3_hR_3⟩:=hRV.quad
 go_wp2
 go_loopw [21] (fun i wr=>∃j:Nat,i= .int .i64 j∧j≤cs.length∧IArr wr X (upTo n s cs j)∧Below w1.heap.size w1 wr) (fun i _=>cs.length - (intOf i).toNat)
 case atStart=>exact⟨0,rfl,by omega,hO,bX⟩
 case round=>
  clear hO bX hRV c3_hR_0 c3_hR_1 c3_hR_2 c3_hR_3
  obtain⟨j,rfl,hj,hO,bX⟩:=hrel
  by_cases hlt:j<cs.length
  ·obtain⟨adc,rfl,hc⟩:=(ha.below bX).at_ hlt
   have hc2:=HBy.out.at_ j
   obtain⟨adl,rfl,hc3⟩:=hL.at_ (k:=yat cs j) (by rw[hlen];exact hc2)
   have HS:=Lib.hid (upTo_set n s cs j hlt)
   have HSc:=hSc _ hc2
   have hol:=upTo_len n s cs j hj
   have hcw:=hO.cell (i:=j) (by rw[hol];exact hlt)
   have hzw:=hO.frozen j
   have i0:(0:Int)≤(j:Int):=by omega
   have i1:(j:Int)<(cs.length:Int):=by omega
   have i2:(0:Int)≤(yat cs j:Int):=by omega
   have i3:(yat cs j:Int)<256:=by omega
   have hH:∀w',Below w1.heap.size w1 w'→w'.cell? ⟨g,0,none⟩=some (.int .i64 n)∧w'.cell? ⟨g,1,none⟩=some (.int .i64 s)∧w'.cell? (adl.add (yat cs j))=some (.int .i64 (iat (bk n) (yat cs j))):=fun w' h=>⟨(hR.below h hR.lt).cell 0,(hR.below h hR.lt).cell 1,cellB h hc3⟩
   have hH2:∀w',Below wr.heap.size wr w'→w'.cell? ⟨X,j,none⟩=some (.int .i64 (iat (upTo n s cs j) j))∧w'.frozen? ⟨X,j,none⟩=false∧IArr w' X (upTo n s cs j):=fun w' h=>⟨(hO.below h hO.lt).cell (by rw[hol];exact hlt),(hO.below h hO.lt).frozen j,hO.below h hO.lt⟩
   clear hcw hzw hol
   have b0:=(Below.refl wr.heap.size wr).drew
   generalize iat (bk n) (yat cs j)=L at *
   generalize loadZ n s (yat cs j)=z at *
   generalize fitE z=ez at *
   generalize yat cs j=c at *
   go_wp2
   go_region_held3 (fun w'=>w'.cell? ⟨g,0,none⟩=some (.int .i64 n)∧w'.cell? ⟨g,1,none⟩=some (.int .i64 s)∧w'.cell? (adl.add c)=some (.int .i64 L))
    (first | exact hH _ bX.drew | exact hH _ (by assumption) | exact hH _ ((by assumption:Below w1.heap.size w1 _).setCell (p:=⟨X,j,none⟩) hXs _))
    (first
     | (go_at_call 59;refine (hD _).mono ?_;rintro x w8 ⟨rfl,rfl⟩)
     | (go_at_call 289;refine (HSc _).mono ?_;rintro x w9 ⟨rfl,b9⟩;have b10:=b0.trans (b9.mono b0.size);obtain⟨q1,q2,q3⟩:=hH2 _ b10;have bY:=bX.trans (b10.mono bX.size)))
   go_wp2
   have q4:=q3.set j z
   rw[HS.out] at q4
   exact⟨⟨j+1,by go_num,by omega,q4,bY.setCell (p:=⟨X,j,none⟩) hXs _⟩,by simp[intOf];omega⟩
  ·obtain rfl:j=cs.length:=by omega
   rw[upTo_all] at hO
   go_wp2
   go_ret
   exact⟨_,rfl,by have:=hO.isI (by unfold loadC;simp;omega);rwa [show (loadC n s cs).length=cs.length by unfold loadC;simp] at this,hB.trans (bX.mono hB.size)⟩
end Go.Proofs.YtdnjdglekifhpaaGreat
namespace Go.Proofs.YtdnjdglekifhpaaGreat
open Go.RowKit
attribute [local go_sem ↓] Go.wp_at_zero Go.wp_at_succ
theorem of_wide (v:Value) (k s:Int) (cs:List Nat) (wd:List Int) (w:World) (h:IsBk w v k s cs wd) (hk:k=4):
 Calls Tryz.prog 163 #[v] w fun e w'=>e= .returned (.iface 222 v)∧Below w.heap.size w w':=by
 obtain⟨a,b,rfl,ha,hb⟩:=h
 obtain⟨Aa,Ca,rfl,_,_⟩:=id ha.form
 obtain⟨Ab,Cb,rfl,_,_⟩:=id hb.form
 have hk1:(k == 4)=true:=by simpa using hk
 have hk2:decide (k=4)=true:=by simpa using hk
 clear hk
 obtain⟨W0,hW,hR,hB⟩:=box1 w 103 #[.int .i64 k,.int .i64 s,.slice Aa cs.length Ca,.slice Ab wd.length Cb]
 obtain⟨g,hg⟩:∃g,g=w.heap.size:=⟨_,rfl⟩
 have hW':=Lib.hid (And.intro hW hg)
 rw[←hg] at hR
 have hgw:w.heap.size≤g:=by omega
 clear hW hg
 skip
 obtain⟨c1_hR_0,c1_hR_1,c1_hR_2,c1_hR_3⟩:=hR.quad
 go_enter Tryz.func163,Tryz.ntmps163
 go_wp2
 rw[←hW'.out.1]
 go_ret
 exact⟨rfl,hB⟩
theorem of_coded (v:Value) (k s:Int) (cs:List Nat) (wd:List Int) (w:World) (h:IsBk w v k s cs wd) (hk:k≠4):
 Calls Tryz.prog 163 #[v] w fun e w'=>e= .returned (.iface 223 v)∧Below w.heap.size w w':=by
 obtain⟨a,b,rfl,ha,hb⟩:=h
 obtain⟨Aa,Ca,rfl,_,_⟩:=id ha.form
 obtain⟨Ab,Cb,rfl,_,_⟩:=id hb.form
 have hk1:(k == 4)=false:=by simpa using hk
 have hk2:decide (k=4)=false:=by simpa using hk
 clear hk
 obtain⟨W0,hW,hR,hB⟩:=box1 w 103 #[.int .i64 k,.int .i64 s,.slice Aa cs.length Ca,.slice Ab wd.length Cb]
 obtain⟨g,hg⟩:∃g,g=w.heap.size:=⟨_,rfl⟩
 have hW':=Lib.hid (And.intro hW hg)
 rw[←hg] at hR
 have hgw:w.heap.size≤g:=by omega
 clear hW hg
 skip
 obtain⟨c1_hR_0,c1_hR_1,c1_hR_2,c1_hR_3⟩:=hR.quad
 go_enter Tryz.func163,Tryz.ntmps163
 go_wp2
 rw[←hW'.out.1]
 go_ret
 exact⟨rfl,hB⟩
theorem load_wide (v:Value) (k s:Int) (cs:List Nat) (wd:List Int) (w:World) (h:IsBk w v k s cs wd) (hk:k=4) (h2:wd.length≤17592186044416):
 Calls Tryz.prog 102 #[v] w fun e w'=>∃v',e= .returned v'∧IsI w' v' wd∧Below w.heap.size w w':=by
 obtain⟨a,b,rfl,ha,hb⟩:=h
 obtain⟨Aa,Ca,rfl,_,_⟩:=id ha.form
 obtain⟨Ab,Cb,rfl,_,_⟩:=id hb.form
 have hOf:=fun w h=>of_wide (.agg #[.int .i64 k,.int .i64 s,.slice Aa cs.length Ca,.slice Ab wd.length Cb]) k s cs wd w h hk
 have hC:=fun w h=>pload_any (.agg #[.int .i64 k,.int .i64 s,.slice Aa cs.length Ca,.slice Ab wd.length Cb]) k s cs wd w h h2
 clear hk
 obtain⟨W0,hW,hR,hB⟩:=box1 w 103 #[.int .i64 k,.int .i64 s,.slice Aa cs.length Ca,.slice Ab wd.length Cb]
 obtain⟨g,hg⟩:∃g,g=w.heap.size:=⟨_,rfl⟩
 have hW':=Lib.hid (And.intro hW hg)
 rw[←hg] at hR
 have hgw:w.heap.size≤g:=by omega
 clear hW hg
 skip
 replace ha:=ha.b hB
 replace hb:=hb.b hB
 obtain⟨c1_hR_0,c1_hR_1,c1_hR_2,c1_hR_3⟩:=hR.quad
 go_enter Tryz.func102,Tryz.ntmps102
 go_wp2_with fail
 rw[←hW'.out.1,←hW'.out.2]
 refine (hOf _ ⟨_,_,rfl,ha,hb⟩).mono ?_
 rintro e w1 ⟨rfl,b1⟩
 replace ha:=ha.b b1
 replace hb:=hb.b b1
 replace hR:=hR.b b1
 replace hB:=bOn hB b1
 clear c1_hR_0 c1_hR_1 c1_hR_2 c1_hR_3
 obtain⟨c2_hR_0,c2_hR_1,c2_hR_2,c2_hR_3⟩:=hR.quad
 go_wp2_with fail
 refine (hC _ ⟨_,_,rfl,ha,hb⟩).mono ?_
 rintro e w2 ⟨v9,rfl,h9,b2⟩
 replace ha:=ha.b b2
 replace hb:=hb.b b2
 replace hR:=hR.b b2
 replace hB:=bOn hB b2
 clear c2_hR_0 c2_hR_1 c2_hR_2 c2_hR_3
 obtain⟨c3_hR_0,c3_hR_1,c3_hR_2,c3_hR_3⟩:=hR.quad
 obtain⟨A9,C9,rfl,_,_⟩:=id h9.form
 go_wp2
 go_ret
 exact⟨_,rfl,h9,hB⟩
theorem load_coded (v:Value) (n:Nat) (s:Int) (cs:List Nat) (wd:List Int) (w:World) (h:IsBk w v n s cs wd) (hn:n<4) (hs0:0≤s) (hs1:s≤9223372036854775807) (hcl:cs.length≤1000000):
 Calls Tryz.prog 102 #[v] w fun e w'=>∃v',e= .returned v'∧IsI w' v' (loadC n s cs)∧Below w.heap.size w w':=by
 obtain⟨a,b,rfl,ha,hb⟩:=h
 obtain⟨Aa,Ca,rfl,_,_⟩:=id ha.form
 obtain⟨Ab,Cb,rfl,_,_⟩:=id hb.form
 have hk:(n:Int)≠4:=by omega
 have hOf:=fun w h=>of_coded (.agg #[.int .i64 n,.int .i64 s,.slice Aa cs.length Ca,.slice Ab wd.length Cb]) n s cs wd w h hk
 have hC:=fun w h=>cload_any (.agg #[.int .i64 n,.int .i64 s,.slice Aa cs.length Ca,.slice Ab wd.length Cb]) n s cs wd w hn hs0 hs1 hcl h
 clear hk
 obtain⟨W0,hW,hR,hB⟩:=box1 w 103 #[.int .i64 n,.int .i64 s,.slice Aa cs.length Ca,.slice Ab wd.length Cb]
 obtain⟨g,hg⟩:∃g,g=w.heap.size:=⟨_,rfl⟩
 have hW':=Lib.hid (And.intro hW hg)
 rw[←hg] at hR
 have hgw:w.heap.size≤g:=by omega
 clear hW hg
 skip
 replace ha:=ha.b hB
 replace hb:=hb.b hB
 obtain⟨c1_hR_0,c1_hR_1,c1_hR_2,c1_hR_3⟩:=hR.quad
 go_enter Tryz.func102,Tryz.ntmps102
 go_wp2_with fail
 rw[←hW'.out.1,←hW'.out.2]
 refine (hOf _ ⟨_,_,rfl,ha,hb⟩).mono ?_
 rintro e w1 ⟨rfl,b1⟩
 replace ha:=ha.b b1
 replace hb:=hb.b b1
 replace hR:=hR.b b1
 replace hB:=bOn hB b1
 clear c1_hR_0 c1_hR_1 c1_hR_2 c1_hR_3
 obtain⟨c2_hR_0,c2_hR_1,c2_hR_2,c2_hR_3⟩:=hR.quad
 go_wp2_with fail
 refine (hC _ ⟨_,_,rfl,ha,hb⟩).mono ?_
 rintro e w2 ⟨v9,rfl,h9,b2⟩
 replace ha:=ha.b b2
 replace hb:=hb.b b2
 replace hR:=hR.b b2
 replace hB:=bOn hB b2
 clear c2_hR_0 c2_hR_1 c2_hR_2 c2_hR_3
 obtain⟨c3_hR_0,c3_hR_1,c3_hR_2,c3_hR_3⟩:=hR.quad
 obtain⟨A9,C9,rfl,_,_⟩:=id h9.form
 go_wp2
 go_ret
 exact⟨_,rfl,h9,hB⟩
end Go.Proofs.YtdnjdglekifhpaaGreat
namespace Go.Proofs.YtdnjdglekifhpaaGreat
open Go.RowKit
attribute [local go_sem ↓] Go.wp_at_zero Go.wp_at_succ
theorem info_u8:(Tryz.prog.info? 5).map (fun i=>(i.zero,i.size,i.bytes))=some (some (.int .u8 0),1,1):=by kernel_rfl
theorem run_max3_int {P:Program} (t:Array TypeId) (y:TypeId) (W:World) (a b c:Int):(Builtin.max_ t y #[.int .i64 a,.int .i64 b,.int .i64 c]).run P W= .ok (.int .i64 (max (max a b) c)) W:=by
 by_cases h:a<b
 ·rw[Int.max_eq_right (show a≤b by omega)]
  by_cases h':b<c
  ·rw[Int.max_eq_right (by omega)];simp[Builtin.max_,Builtin.max2,h,h']
  ·rw[Int.max_eq_left (by omega)];simp[Builtin.max_,Builtin.max2,h,h']
 ·rw[Int.max_eq_left (show b≤a by omega)]
  by_cases h':a<c
  ·rw[Int.max_eq_right (by omega)];simp[Builtin.max_,Builtin.max2,h,h']
  ·rw[Int.max_eq_left (by omega)];simp[Builtin.max_,Builtin.max2,h,h']
section
variable {w w':World} {X B R:Nat} {u v:Value} {l:List Int}
theorem own_typeB {e:TypeId} {n:Nat} {xs:List Value} {t:TypeId} {cs:Array Value} (h:w.ownsRow B e 1 u n xs) (hb:Blk w X t cs) (hne:t≠e):u.ownBlock≠some X:=by
 rcases h.2 with ⟨rfl,_⟩ | ⟨g,cap,cur,rfl,hg,hh,_⟩
 ·simp[Value.ownBlock]
 ·intro e2
  have :g=X:=by simpa [Value.ownBlock] using e2
  subst this
  unfold Blk at hb
  rw[hh] at hb
  injection hb with hb
  injection hb with h1 h2 h3
  exact hne h2.symm
theorem own_setB {e:TypeId} {n:Nat} {xs:List Value} (h:w.ownsRow B e 1 u n xs) {p:Addr} (hp:u.ownBlock≠some p.block) (y:Value):(w.setCell p y).ownsRow B e 1 u n xs:=by
 refine h.kept (row:=some p.block) ⟨rfl,rfl,rfl,by simp[World.setCell],fun k _ hne=>Below.heap_setCell w p y k (fun e=>hne (by rw[e]))⟩ (.inr hp)
theorem own_below {e:TypeId} {n:Nat} {xs:List Value} (h:w.ownsRow B e 1 u n xs) (hb:Below w.heap.size w w'):w'.ownsRow B e 1 u n xs:=
 h.kept (row:=none) ⟨hb.os,hb.tape,hb.output,hb.size,fun k hk _=>hb.block k hk⟩ (by cases u.ownBlock<;>simp)
def FreshB (B:Nat) (b:Value):Prop:=∃x y a c,b= .agg #[x,y,a,c]∧Fresh B a∧Fresh B c
theorem putBlk {t:TypeId} {a b c d:Value} (hR:Blk w R t #[a,b,c,d]) (x y z q:Value) {B0:Nat} {w0:World} (hB:Below B0 w0 w) (hBR:B0≤R):
 Blk ((((w.setCell ⟨R,0,none⟩ x).setCell ⟨R,1,none⟩ y).setCell ⟨R,2,none⟩ z).setCell ⟨R,3,none⟩ q) R t #[x,y,z,q]∧
 (∀v l,v.ownBlock≠some R→IsI w v l→IsI ((((w.setCell ⟨R,0,none⟩ x).setCell ⟨R,1,none⟩ y).setCell ⟨R,2,none⟩ z).setCell ⟨R,3,none⟩ q) v l)∧
 (∀v l,v.ownBlock≠some R→IsY w v l→IsY ((((w.setCell ⟨R,0,none⟩ x).setCell ⟨R,1,none⟩ y).setCell ⟨R,2,none⟩ z).setCell ⟨R,3,none⟩ q) v l)∧
 Below B0 w0 ((((w.setCell ⟨R,0,none⟩ x).setCell ⟨R,1,none⟩ y).setCell ⟨R,2,none⟩ z).setCell ⟨R,3,none⟩ q):=by
 refine ⟨?_,fun v l hv h=>(((h.farB (p:=⟨R,0,none⟩) hv x).farB (p:=⟨R,1,none⟩) hv y).farB (p:=⟨R,2,none⟩) hv z).farB (p:=⟨R,3,none⟩) hv q,
  fun v l hv h=>(((h.farB (p:=⟨R,0,none⟩) hv x).farB (p:=⟨R,1,none⟩) hv y).farB (p:=⟨R,2,none⟩) hv z).farB (p:=⟨R,3,none⟩) hv q,
  (((hB.setCell (p:=⟨R,0,none⟩) hBR x).setCell (p:=⟨R,1,none⟩) hBR y).setCell (p:=⟨R,2,none⟩) hBR z).setCell (p:=⟨R,3,none⟩) hBR q⟩
 have:=(((hR.set_ 0 x).set_ 1 y).set_ 2 z).set_ 3 q
 simpa using this
end
theorem great_take (l:List Int) (j:Nat) (h:j<l.length):great (l.take (j+1))=max (max (great (l.take j)) (iat l j)) (-iat l j):=by rw[iat_snoc_take l j h,great_snoc]
def codeTo (n:Nat) (l:List Int) (d:Int) (j:Nat):List Nat:=(l.take j).map fun x=>codeOf n x d
theorem codeTo_len (n:Nat) (l:List Int) (d:Int) (j:Nat) (h:j≤l.length):(codeTo n l d j).length=j:=by unfold codeTo;simp;omega
theorem codeTo_succ (n:Nat) (l:List Int) (d:Int) (j:Nat) (h:j<l.length):codeTo n l d (j+1)=codeTo n l d j++[codeOf n (iat l j) d]:=by unfold codeTo;rw[iat_snoc_take l j h];simp
theorem codeTo_all (n:Nat) (l:List Int):codeTo n l (max (great l) 1) l.length=packC n l:=by unfold codeTo packC;rw[List.take_length]
theorem pack_odd (k:Int) (v:Value) (l:List Int) (w:World) (h:IsI w v l) (hk:0≤k∧k≤3) (ho:l.any (oddB (sgn k))=true):
 Calls Tryz.prog 101 #[.int .i64 k,v] w fun e w'=>∃b,e= .returned (.tuple #[b,.int .i64 1])∧IsBk w' b 0 0 [] []∧Below w.heap.size w w':=by
 obtain⟨Aa,Ca,rfl,_,_⟩:=id h.form
 have hB0:=fun w=>book_any k w
 have hSg:=fun w=>signed_any k w
 have hk1:(k == 4)=false:=by rw[beq_eq_false_iff_ne];omega
 have hk2:decide (k=4)=false:=decide_eq_false (by omega)
 rw[show bke k=0 from if_pos (by omega)] at hB0
 generalize bkz k=lb at *
 clear hk
 obtain⟨W0,hW,hR,hB⟩:=box1 w 103 #[.int .i64 0,.int .i64 0,.slice none 0 0,.slice none 0 0]
 obtain⟨g,hg⟩:∃g,g=w.heap.size:=⟨_,rfl⟩
 have hW':=Lib.hid (And.intro hW hg)
 rw[←hg] at hR
 have hgw:w.heap.size≤g:=by omega
 clear hW hg
 skip
 replace h:=h.b hB
 obtain⟨c1_hR_0,c1_hR_1,c1_hR_2,c1_hR_3⟩:=hR.quad
 go_enter Tryz.func101,Tryz.ntmps101
 go_wp2_with fail
 rw[←hW'.out.1,←hW'.out.2]
 refine (hB0 _).mono ?_
 rintro e w1 ⟨v1,rfl,h1,b1⟩
 replace h:=h.b b1
 replace hR:=hR.b b1
 replace hB:=bOn hB b1
 clear c1_hR_0 c1_hR_1 c1_hR_2 c1_hR_3
 obtain⟨c2_hR_0,c2_hR_1,c2_hR_2,c2_hR_3⟩:=hR.quad
 obtain⟨A1,C1,rfl,_,_⟩:=h1.form
 clear h1
 go_wp2_with fail
 refine (hSg _).mono ?_
 rintro e w2 ⟨rfl,rfl⟩
 obtain⟨V1,eV,hS,bV1⟩:=box1 w1 4 #[.bool (sgn k)]
 obtain⟨X1,eX⟩:∃X,X=w1.heap.size:=⟨_,rfl⟩
 rw[←eX] at hS
 have EV1:=Lib.hid (And.intro eV eX)
 clear eV eX
 go_upto_region 4 with fail
 rw[←EV1.out.1,←EV1.out.2]
 replace h:=h.b bV1
 replace hR:=hR.b bV1
 replace hB:=bOn hB bV1
 clear c2_hR_0 c2_hR_1 c2_hR_2 c2_hR_3
 obtain⟨c3_hR_0,c3_hR_1,c3_hR_2,c3_hR_3⟩:=hR.quad
 clear c3_hR_0 c3_hR_1 c3_hR_2 c3_hR_3
 obtain⟨c4_hR_0,c4_hR_1,c4_hR_2,c4_hR_3⟩:=hR.quad
 have c4_hS_0:=hS.cells1
 have hO:=fun w h hC=>containsOdd_any (.slice Aa l.length Ca) l X1 (sgn k) w h hC
 rw[ho] at hO
 go_wp2_with fail
 refine (hO _ h hS).mono ?_
 rintro e w3 ⟨rfl,rfl⟩
 obtain⟨p1,p2,p3,p4⟩:=putBlk hR (.int .i64 0) (.int .i64 0) (.slice none 0 0) (.slice none 0 0) hB (by omega)
 have q0:=hR.cell 0
 have z0:=hR.frozen 0
 have q1:=hR.cell 1
 have z1:=hR.frozen 1
 have q2:=hR.cell 2
 have z2:=hR.frozen 2
 have q3:=hR.cell 3
 have z3:=hR.frozen 3
 have P:=Lib.hid (And.intro p4 p1.quad)
 clear p1 p2 p3 p4
 go_wp2_with fail
 obtain⟨P2,P3,P4,P5,P6⟩:=P.out
 exact bodyPost_ret (v:= .tuple #[.agg #[.int .i64 0,.int .i64 0,.slice none 0 0,.slice none 0 0],.int .i64 1]) (by simp[results,Tryz.results101,go_sem,P3,P4,P5,P6]) rfl ⟨_,rfl,IsBk.nil _,P2⟩
theorem pack_oddw (k:Int) (v:Value) (l:List Int) (w:World) (h:IsI w v l) (hk:k=4) (ho:l.any (oddB true)=true):
 Calls Tryz.prog 101 #[.int .i64 k,v] w fun e w'=>∃b,e= .returned (.tuple #[b,.int .i64 1])∧IsBk w' b 0 0 [] []∧Below w.heap.size w w':=by
 obtain⟨Aa,Ca,rfl,_,_⟩:=id h.form
 have hB0:=fun w=>book_any k w
 have hSg:=fun w=>signed_any k w
 subst hk
 rw[show bke 4=1 from if_neg (by omega)] at hB0
 generalize bkz 4=lb at *
 clear hSg
 obtain⟨W0,hW,hR,hB⟩:=box1 w 103 #[.int .i64 0,.int .i64 0,.slice none 0 0,.slice none 0 0]
 obtain⟨g,hg⟩:∃g,g=w.heap.size:=⟨_,rfl⟩
 have hW':=Lib.hid (And.intro hW hg)
 rw[←hg] at hR
 have hgw:w.heap.size≤g:=by omega
 clear hW hg
 skip
 replace h:=h.b hB
 obtain⟨c1_hR_0,c1_hR_1,c1_hR_2,c1_hR_3⟩:=hR.quad
 go_enter Tryz.func101,Tryz.ntmps101
 go_wp2_with fail
 rw[←hW'.out.1,←hW'.out.2]
 refine (hB0 _).mono ?_
 rintro e w1 ⟨v1,rfl,h1,b1⟩
 replace h:=h.b b1
 replace hR:=hR.b b1
 replace hB:=bOn hB b1
 clear c1_hR_0 c1_hR_1 c1_hR_2 c1_hR_3
 obtain⟨c2_hR_0,c2_hR_1,c2_hR_2,c2_hR_3⟩:=hR.quad
 obtain⟨A1,C1,rfl,_,_⟩:=h1.form
 clear h1
 obtain⟨V1,eV,hS,bV1⟩:=box1 w1 4 #[.bool true]
 obtain⟨X1,eX⟩:∃X,X=w1.heap.size:=⟨_,rfl⟩
 rw[←eX] at hS
 have EV1:=Lib.hid (And.intro eV eX)
 clear eV eX
 go_upto_region 4 with fail
 rw[←EV1.out.1,←EV1.out.2]
 replace h:=h.b bV1
 replace hR:=hR.b bV1
 replace hB:=bOn hB bV1
 clear c2_hR_0 c2_hR_1 c2_hR_2 c2_hR_3
 obtain⟨c3_hR_0,c3_hR_1,c3_hR_2,c3_hR_3⟩:=hR.quad
 clear c3_hR_0 c3_hR_1 c3_hR_2 c3_hR_3
 obtain⟨c4_hR_0,c4_hR_1,c4_hR_2,c4_hR_3⟩:=hR.quad
 have c4_hS_0:=hS.cells1
 have hO:=fun w h hC=>containsOdd_any (.slice Aa l.length Ca) l X1 true w h hC
 rw[ho] at hO
 go_wp2_with fail
 refine (hO _ h hS).mono ?_
 rintro e w2 ⟨rfl,rfl⟩
 obtain⟨p1,p2,p3,p4⟩:=putBlk hR (.int .i64 0) (.int .i64 0) (.slice none 0 0) (.slice none 0 0) hB (by omega)
 have q0:=hR.cell 0
 have z0:=hR.frozen 0
 have q1:=hR.cell 1
 have z1:=hR.frozen 1
 have q2:=hR.cell 2
 have z2:=hR.frozen 2
 have q3:=hR.cell 3
 have z3:=hR.frozen 3
 have P:=Lib.hid (And.intro p4 p1.quad)
 clear p1 p2 p3 p4
 go_wp2_with fail
 obtain⟨P2,P3,P4,P5,P6⟩:=P.out
 exact bodyPost_ret (v:= .tuple #[.agg #[.int .i64 0,.int .i64 0,.slice none 0 0,.slice none 0 0],.int .i64 1]) (by simp[results,Tryz.results101,go_sem,P3,P4,P5,P6]) rfl ⟨_,rfl,IsBk.nil _,P2⟩
theorem pack_wideF (k:Int) (v:Value) (l:List Int) (w:World) (h:IsI w v l) (hk:k=4) (hl:l.length≤4096) (ho:l.any (oddB true)=false):
 Calls Tryz.prog 101 #[.int .i64 k,v] w fun e w'=>∃b,e= .returned (.tuple #[b,.int .i64 0])∧IsBk w' b 4 0 [] l∧Below w.heap.size w w'∧FreshB w.heap.size b:=by
 obtain⟨Aa,Ca,rfl,_,_⟩:=id h.form
 have hB0:=fun w=>book_any k w
 have hSg:=fun w=>signed_any k w
 subst hk
 rw[show bke 4=1 from if_neg (by omega)] at hB0
 generalize bkz 4=lb at *
 clear hSg
 have hCl:=fun w h=>clone_i64 (.slice Aa l.length Ca) l w h (by omega)
 have hl1:decide ((4096:Int)<(l.length:Int))=false:=decide_eq_false (by omega)
 have hl2:decide (4096<l.length)=false:=decide_eq_false (by omega)
 have hl3:¬4096<l.length:=by omega
 obtain⟨W0,hW,hR,hB⟩:=box1 w 103 #[.int .i64 0,.int .i64 0,.slice none 0 0,.slice none 0 0]
 obtain⟨g,hg⟩:∃g,g=w.heap.size:=⟨_,rfl⟩
 have hW':=Lib.hid (And.intro hW hg)
 rw[←hg] at hR
 have hgw:w.heap.size≤g:=by omega
 clear hW hg
 skip
 replace h:=h.b hB
 obtain⟨c1_hR_0,c1_hR_1,c1_hR_2,c1_hR_3⟩:=hR.quad
 go_enter Tryz.func101,Tryz.ntmps101
 go_wp2_with fail
 rw[←hW'.out.1,←hW'.out.2]
 refine (hB0 _).mono ?_
 rintro e w1 ⟨v1,rfl,h1,b1⟩
 replace h:=h.b b1
 replace hR:=hR.b b1
 replace hB:=bOn hB b1
 clear c1_hR_0 c1_hR_1 c1_hR_2 c1_hR_3
 obtain⟨c2_hR_0,c2_hR_1,c2_hR_2,c2_hR_3⟩:=hR.quad
 obtain⟨A1,C1,rfl,_,_⟩:=h1.form
 clear h1
 obtain⟨V1,eV,hS,bV1⟩:=box1 w1 4 #[.bool true]
 obtain⟨X1,eX⟩:∃X,X=w1.heap.size:=⟨_,rfl⟩
 rw[←eX] at hS
 have EV1:=Lib.hid (And.intro eV eX)
 clear eV eX
 go_upto_region 4 with fail
 rw[←EV1.out.1,←EV1.out.2]
 replace h:=h.b bV1
 replace hR:=hR.b bV1
 replace hB:=bOn hB bV1
 clear c2_hR_0 c2_hR_1 c2_hR_2 c2_hR_3
 obtain⟨c3_hR_0,c3_hR_1,c3_hR_2,c3_hR_3⟩:=hR.quad
 clear c3_hR_0 c3_hR_1 c3_hR_2 c3_hR_3
 obtain⟨c4_hR_0,c4_hR_1,c4_hR_2,c4_hR_3⟩:=hR.quad
 have c4_hS_0:=hS.cells1
 have hO:=fun w h hC=>containsOdd_any (.slice Aa l.length Ca) l X1 true w h hC
 rw[ho] at hO
 go_wp2_with fail
 refine (hO _ h hS).mono ?_
 rintro e w2 ⟨rfl,rfl⟩
 have hR0:=hR.lt
 have hFs:=hB.size
 go_wp2_with fail
 refine (hCl _ h).mono ?_
 rintro e w3 ⟨v2,rfl,h2,h3,b3⟩
 replace h:=h.b b3
 replace hR:=hR.b b3
 replace hS:=hS.b b3
 replace hB:=bOn hB b3
 clear c4_hR_0 c4_hR_1 c4_hR_2 c4_hR_3 c4_hS_0
 obtain⟨c5_hR_0,c5_hR_1,c5_hR_2,c5_hR_3⟩:=hR.quad
 have c5_hS_0:=hS.cells1
 obtain⟨A2,C2,rfl,_,_⟩:=id h2.form
 obtain⟨p1,p2,p3,p4⟩:=putBlk hR (.int .i64 4) (.int .i64 0) (.slice none 0 0) (.slice A2 l.length C2) hB (by omega)
 have q0:=hR.cell 0
 have z0:=hR.frozen 0
 have q1:=hR.cell 1
 have z1:=hR.frozen 1
 have q2:=hR.cell 2
 have z2:=hR.frozen 2
 have q3:=hR.cell 3
 have z3:=hR.frozen 3
 have P:=Lib.hid (And.intro ((⟨_,_,rfl,IsY.nil _,p2 _ _ (h3.ne hR0) h2⟩:IsBk _ (.agg #[.int .i64 4,.int .i64 0,.slice none 0 0,.slice A2 l.length C2]) 4 0 [] l)) (And.intro p4 p1.quad))
 have F9:=Lib.hid (⟨_,_,_,_,rfl,Fresh.nil _,h3.more hFs⟩:FreshB w.heap.size (.agg #[.int .i64 4,.int .i64 0,.slice none 0 0,.slice A2 l.length C2]))
 clear p1 p2 p3 p4
 go_wp2_with fail
 obtain⟨P1,P2,P3,P4,P5,P6⟩:=P.out
 exact bodyPost_ret (v:= .tuple #[.agg #[.int .i64 4,.int .i64 0,.slice none 0 0,.slice A2 l.length C2],.int .i64 0]) (by simp[results,Tryz.results101,go_sem,P3,P4,P5,P6]) rfl ⟨_,rfl,P1,P2,F9.out⟩
theorem pack_codedF (k:Int) (v:Value) (l:List Int) (w:World) (h:IsI w v l) (n:Nat) (hn:n<4) (hkn:k=n) (hl:l.length≤4096) (hi:∀x∈l,I64 x) (ho:l.any (oddB (sgn (n:Nat)))=false):
 Calls Tryz.prog 101 #[.int .i64 k,v] w fun e w'=>∃b,e= .returned (.tuple #[b,.int .i64 0])∧IsBk w' b n (great l) (packC n l) []∧Below w.heap.size w w'∧FreshB w.heap.size b:=by
 obtain⟨Aa,Ca,rfl,_,_⟩:=id h.form
 have hB0:=fun w=>book_any k w
 have hSg:=fun w=>signed_any k w
 subst hkn
 have hk1:((n:Int) == 4)=false:=by rw[beq_eq_false_iff_ne];omega
 have hk2:decide ((n:Int)=4)=false:=decide_eq_false (by omega)
 rw[show bke n=0 from if_pos (by omega)] at hB0
 generalize bkz n=lb at *
 have hl1:decide ((4096:Int)<(l.length:Int))=false:=decide_eq_false (by omega)
 have hl2:decide (4096<l.length)=false:=decide_eq_false (by omega)
 have hl3:¬4096<l.length:=by omega
 have hmin:∀x∈l,x≠ -9223372036854775808:=fun x hx e=>by
  have :l.any (oddB (sgn (n:Nat)))=true:=List.any_eq_true.2 ⟨x,hx,by unfold oddB;simp[e]⟩
  rw[ho] at this;cases this
 have HW:Hid (∀j,j<l.length→IntKind.i64.wrap (-(iat l j))= -(iat l j)):=Lib.hid (fun j hj=>by
  have h1:=hi _ (iat_mem hj)
  have h2:=hmin _ (iat_mem hj)
  unfold I64 at h1
  rw[IntKind.wrap_i64];omega)
 have hg1:=great_in hi hmin
 have hg0:=great_nonneg l
 have hNr:∀j,j<l.length→∀w,Calls Tryz.prog 162 #[.int .i64 n,.int .i64 (iat l j),.int .i64 (max (great l) 1)] w fun e w'=>e= .returned (.tuple #[.int .u8 (codeOf n (iat l j) (max (great l) 1):Nat),.int .i64 (codeE n (iat l j) (max (great l) 1))])∧Below w.heap.size w w':=fun j hj w=>near_any n _ _ w (hi _ (iat_mem hj)) (by unfold I64;omega)
 have hM3:= @run_max3_int Tryz.prog
 have hM2:= @run_max_int Tryz.prog
 clear hmin hi
 generalize sgn (n:Nat)=sg at *
 obtain⟨W0,hW,hR,hB⟩:=box1 w 103 #[.int .i64 0,.int .i64 0,.slice none 0 0,.slice none 0 0]
 obtain⟨g,hg⟩:∃g,g=w.heap.size:=⟨_,rfl⟩
 have hW':=Lib.hid (And.intro hW hg)
 rw[←hg] at hR
 have hgw:w.heap.size≤g:=by omega
 clear hW hg
 skip
 replace h:=h.b hB
 obtain⟨c1_hR_0,c1_hR_1,c1_hR_2,c1_hR_3⟩:=hR.quad
 go_enter Tryz.func101,Tryz.ntmps101
 go_wp2_with fail
 rw[←hW'.out.1,←hW'.out.2]
 refine (hB0 _).mono ?_
 rintro e w1 ⟨v1,rfl,h1,b1⟩
 replace h:=h.b b1
 replace hR:=hR.b b1
 replace hB:=bOn hB b1
 clear c1_hR_0 c1_hR_1 c1_hR_2 c1_hR_3
 obtain⟨c2_hR_0,c2_hR_1,c2_hR_2,c2_hR_3⟩:=hR.quad
 obtain⟨A1,C1,rfl,_,_⟩:=h1.form
 clear h1
 go_wp2_with fail
 refine (hSg _).mono ?_
 rintro e w2 ⟨rfl,rfl⟩
 obtain⟨V1,eV,hS,bV1⟩:=box1 w1 4 #[.bool sg]
 obtain⟨X1,eX⟩:∃X,X=w1.heap.size:=⟨_,rfl⟩
 rw[←eX] at hS
 have EV1:=Lib.hid (And.intro eV eX)
 clear eV eX
 go_upto_region 4 with fail
 rw[←EV1.out.1,←EV1.out.2]
 replace h:=h.b bV1
 replace hR:=hR.b bV1
 replace hB:=bOn hB bV1
 clear c2_hR_0 c2_hR_1 c2_hR_2 c2_hR_3
 obtain⟨c3_hR_0,c3_hR_1,c3_hR_2,c3_hR_3⟩:=hR.quad
 clear c3_hR_0 c3_hR_1 c3_hR_2 c3_hR_3
 obtain⟨c4_hR_0,c4_hR_1,c4_hR_2,c4_hR_3⟩:=hR.quad
 have c4_hS_0:=hS.cells1
 have hO:=fun w h hC=>containsOdd_any (.slice Aa l.length Ca) l X1 sg w h hC
 rw[ho] at hO
 go_wp2_with fail
 refine (hO _ h hS).mono ?_
 rintro e w3 ⟨rfl,rfl⟩
 have h9:=h
 have hR9:=hR
 have hw9:=hB
 obtain⟨V2,eV,hX,bV2⟩:=box1 V1 103 #[.int .i64 n,.int .i64 0,.slice none 0 0,.slice none 0 0]
 obtain⟨X2,eX⟩:∃X,X=V1.heap.size:=⟨_,rfl⟩
 rw[←eX] at hX
 have EV2:=Lib.hid (And.intro eV eX)
 clear eV eX
 go_upto_region 13 with fail
 rw[←EV2.out.1,←EV2.out.2]
 replace h:=h.b bV2
 replace hR:=hR.b bV2
 replace hS:=hS.b bV2
 replace hB:=bOn hB bV2
 clear c4_hR_0 c4_hR_1 c4_hR_2 c4_hR_3 c4_hS_0
 obtain⟨c5_hR_0,c5_hR_1,c5_hR_2,c5_hR_3⟩:=hR.quad
 have c5_hS_0:=hS.cells1
 clear c5_hR_0 c5_hR_1 c5_hR_2 c5_hR_3 c5_hS_0
 obtain⟨c6_hR_0,c6_hR_1,c6_hR_2,c6_hR_3⟩:=hR.quad
 have c6_hS_0:=hS.cells1
 obtain⟨c6_hX_0,c6_hX_1,c6_hX_2,c6_hX_3⟩:=hX.quad
 have hXs:V1.heap.size≤X2:=by rw[EV2.out.2];exact Nat.le_refl _
 have hgV:=hR9.lt
 have h0:=Lib.hid h9
 clear h hR hS
 go_wp2
 go_loopw [57] (fun i wr=>∃j:Nat,i= .int .i64 j∧j≤l.length∧Blk wr X2 103 #[.int .i64 n,.int .i64 (great (l.take j)),.slice none 0 0,.slice none 0 0]∧Below V1.heap.size V1 wr) (fun i _=>l.length - (intOf i).toNat)
 case atStart=>exact⟨0,rfl,by omega,by rw[List.take_zero];exact hX,bV2⟩
 case round=>
  clear hX
  obtain⟨j,rfl,hj,hX,bl⟩:=hrel
  obtain⟨x0,x1,x2,x3⟩:=hX.quad
  have z1:=hX.frozen 1
  have z2:=hX.frozen 2
  have h:=h0.out.below bl
  by_cases hlt:j<l.length
  ·obtain⟨ad,rfl,hc⟩:=h.at_ hlt
   have HS:=Lib.hid (great_take l j hlt)
   have i0:(0:Int)≤(j:Int):=by omega
   have i1:(j:Int)<(l.length:Int):=by omega
   have hw:=HW.out j hlt
   generalize iat l j=x at *
   generalize great (l.take j)=s0 at *
   go_wp2
   have q:=hX.set_ 1 (.int .i64 (max (max s0 x) (-x)))
   refine ⟨⟨j+1,by go_num,by omega,?_,bl.setCell (p:=⟨X2,1,none⟩) hXs _⟩,by simp[intOf];omega⟩
   rw[HS.out]
   simpa using q
  ·obtain rfl:j=l.length:=by omega
   rw[List.take_length] at hX x1
   go_wp2
   go_loopw [71] (fun i wr=>∃(j:Nat) (a:Value),i= .int .i64 j∧j≤l.length∧Blk wr X2 103 #[.int .i64 n,.int .i64 (great l),a,.slice none 0 0]∧wr.ownsRow V1.heap.size 5 1 a j (ys (codeTo n l (max (great l) 1) j))∧Below V1.heap.size V1 wr) (fun i _=>l.length - (intOf i).toNat)
   case atStart=>exact⟨0,_,rfl,by omega,hX,⟨by simp[codeTo,ys],.inl ⟨rfl,rfl⟩⟩,bl⟩
   case round=>
    clear hX x0 x1 x2 x3 z1 z2 bl h
    obtain⟨j,a,rfl,hj,hX,hown,bl⟩:=hrel
    obtain⟨x0,x1,x2,x3⟩:=hX.quad
    have z2:=hX.frozen 2
    have h:=h0.out.below bl
    by_cases hlt:j<l.length
    ·obtain⟨ad,rfl,hc⟩:=h.at_ hlt
     have HS:=Lib.hid (codeTo_succ n l (max (great l) 1) j hlt)
     have hol:=Lib.hid (codeTo_len n l (max (great l) 1) j hj)
     have i0:(0:Int)≤(j:Int):=by omega
     have i1:(j:Int)<(l.length:Int):=by omega
     have hN:=hNr j hlt
     have hcl:=codeOf_le n (iat l j) (max (great l) 1)
     generalize hcd:codeOf n (iat l j) (max (great l) 1)=cd at *
     have hu:IntKind.u8.wrap (cd:Int)=cd:=by rw[IntKind.wrap_u8];omega
     generalize codeE n (iat l j) (max (great l) 1)=ce at *
     generalize iat l j=x at *
     clear hcd
     go_wp2_with fail
     refine (hN _).mono ?_
     rintro e w9 ⟨rfl,b9⟩
     have hX9:=hX.below b9 hX.lt
     have own9:=own_below hown b9
     have bl9:=bl.trans (b9.mono bl.size)
     clear x0 x1 x2 x3 z2 hX hown bl b9 h hc
     obtain⟨x0,x1,x2,x3⟩:=hX9.quad
     have hXa:=hX9.alloc (.cells #[.int .u8 (cd:Int)] 5)
     have hbs:V1.heap.size≤w9.heap.size+1:=Nat.le_succ_of_le bl9.size
     have hne:(103:TypeId)≠5:=by decide
     go_wp2_with (at_builtin;go_must (refine wpList_app1 _ rfl _ _ 101 5 (.int .u8 0) 1 rfl Tryz.underlying101 info_u8 rfl V1.heap.size (.int .u8 (cd:Int)) rfl a j _ rfl (own9.alloc _) ⟨w9.heap.size,0,none⟩ rfl (by simp) (by omega) (by omega) (by simp;exact hbs) ?_;intro v' w1 hown' hgrow;obtain⟨g',cap',rfl⟩:=ownsRow_succ hown';have hX1:=hXa.grown hgrow (fun e=>own_typeB (own9.alloc _) hXa hne e.symm);obtain⟨y0,y1,y2,y3⟩:=hX1.quad;have yz:=hX1.frozen 2))
     have hX2:=hX1.set_ 2 (.slice (some ⟨g',0,none⟩) (j+1) cap')
     have own2:=own_setB hown' (p:=⟨X2,2,none⟩) (own_typeB hown' hX1 hne) (.slice (some ⟨g',0,none⟩) (j+1) cap')
     have bl2:=((bl9.alloc bl9.size (.cells #[.int .u8 (cd:Int)] 5)).grown hgrow (by simp;exact hbs) (fun j e=>(own9.lt j e).1)).setCell (p:=⟨X2,2,none⟩) hXs (.slice (some ⟨g',0,none⟩) (j+1) cap')
     refine ⟨⟨j+1,_,by go_num,by omega,by simpa using hX2,?_,bl2⟩,by simp[intOf];omega⟩
     rw[HS.out,ys_snoc]
     exact own2
    ·obtain rfl:j=l.length:=by omega
     rw[codeTo_all] at hown
     have hR:=hR9.below bl hR9.lt
     have hB:=hw9.trans (bl.mono hw9.size)
     have hpl:(packC n l).length=l.length:=packC_len _ _
     have hab:a.ownBlock≠some g:=fun e=>by have:=(hown.lt g e).1;omega
     have hy:IsY wr a (packC n l):=IsY.of_own (by rw[hpl];exact hown) packC_lt
     obtain⟨A5,C5,rfl,_,_⟩:=id hy.form
     rw[hpl] at *
     obtain⟨p1,p2,p3,p4⟩:=putBlk hR (.int .i64 n) (.int .i64 (great l)) (.slice A5 l.length C5) (.slice none 0 0) hB (by omega)
     have q0:=hR.cell 0
     have z0:=hR.frozen 0
     have q1:=hR.cell 1
     have z1:=hR.frozen 1
     have q2:=hR.cell 2
     have z2:=hR.frozen 2
     have q3:=hR.cell 3
     have z3:=hR.frozen 3
     have P:=Lib.hid (And.intro ((⟨_,_,rfl,p3 _ _ hab hy,IsI.nil _⟩:IsBk _ (.agg #[.int .i64 n,.int .i64 (great l),.slice A5 l.length C5,.slice none 0 0]) n (great l) (packC n l) [])) (And.intro p4 p1.quad))
     have F9:=Lib.hid (⟨_,_,_,_,rfl,(Fresh.of_own hown).more hw9.size,Fresh.nil _⟩:FreshB w.heap.size (.agg #[.int .i64 n,.int .i64 (great l),.slice A5 l.length C5,.slice none 0 0]))
     clear p1 p2 p3 p4 h hab hy hown
     go_wp2_with fail
     obtain⟨P1,P2,P3,P4,P5,P6⟩:=P.out
     exact bodyPost_ret (v:= .tuple #[.agg #[.int .i64 n,.int .i64 (great l),.slice A5 l.length C5,.slice none 0 0],.int .i64 0]) (by simp[results,Tryz.results101,go_sem,P3,P4,P5,P6]) rfl ⟨_,rfl,P1,P2,F9.out⟩
end Go.Proofs.YtdnjdglekifhpaaGreat
namespace Go.Proofs.YtdnjdglekifhpaaGreat
def mayB (k z m o:Int):Bool:=decide (0≤k∧k≤3∧1≤z∧z≤4096∧0≤m∧0≤o)
def staysB (m o long g:Int):Bool:=decide (long<m) || (decide (0<o) && decide (o<g))
def greatW:List Int→Int
 | []=>0
 | x::r=>max (max (greatW r) x) (IntKind.i64.wrap (-x))
theorem greatW_snoc (l:List Int) (x:Int):greatW (l++[x])=max (max (greatW l) x) (IntKind.i64.wrap (-x)):=by
 induction l with
 | nil=>rfl
 | cons y r ih=>simp only[List.cons_append,greatW,ih];omega
theorem greatW_eq {l:List Int} (h:∀x∈l,I64 x) (hm:∀x∈l,x≠ -9223372036854775808):greatW l=great l:=by
 induction l with
 | nil=>rfl
 | cons y r ih =>
   have h1:=h y (by simp)
   have h2:=hm y (by simp)
   have e:IntKind.i64.wrap (-y)= -y:=by unfold I64 at h1;rw[IntKind.wrap_i64];omega
   simp only[greatW,great,e,ih (fun x hx=>h x (by simp[hx])) (fun x hx=>hm x (by simp[hx]))]
theorem great_sub {l m:List Int} (h:∀x∈m,x∈l):great m≤great l:=great_le (great_nonneg l) fun x hx=>great_mem (h x hx)
def partZ (z:Nat) (l:List Int) (i:Nat):List Int:=(l.drop (i*z)).take z
theorem partZ_mem {z:Nat} {l:List Int} {i:Nat} {x:Int} (h:x∈partZ z l i):x∈l:=List.mem_of_mem_drop (List.mem_of_mem_take h)
theorem partZ_len (z:Nat) (l:List Int) (i:Nat):(partZ z l i).length=min z (l.length - i*z):=by unfold partZ;simp
def partN (z n:Nat):Nat:=(n+z - 1) / z
theorem partN_lt {z n i:Nat} (hz:1≤z):i<partN z n↔i*z<n:=by
 unfold partN
 rw[Nat.lt_div_iff_mul_lt (by omega)]
 constructor<;>intro h<;>omega
theorem partN_le {z n:Nat} (hz:1≤z):partN z n≤n:=by
 rcases Nat.lt_or_ge n (partN z n) with h | h
 ·have:=(partN_lt hz).1 h
  have h2:n*1≤n*z:=Nat.mul_le_mul_left n hz
  omega
 ·exact h
def kindOf (k m o:Int) (n:Nat) (p:List Int):Int:=if staysB m o n (greatW p)=true then 4 else k
def oddP (kk:Int) (p:List Int):Bool:=p.any (oddB (kk == 4 || sgn kk))
def bkOf (kk:Int) (p:List Int):Bk:=if kk=4 then (4,0,[],p) else (kk,great p,packC kk p,[])
def oddTo (k z m o:Int) (l:List Int) (j:Nat):Bool:=(List.range j).any fun i=>oddP (kindOf k m o l.length (partZ z.toNat l i)) (partZ z.toNat l i)
def bksTo (k z m o:Int) (l:List Int) (j:Nat):List Bk:=(List.range j).map fun i=>bkOf (kindOf k m o l.length (partZ z.toNat l i)) (partZ z.toNat l i)
theorem bksTo_succ (k z m o:Int) (l:List Int) (j:Nat):bksTo k z m o l (j+1)=bksTo k z m o l j++[bkOf (kindOf k m o l.length (partZ z.toNat l j)) (partZ z.toNat l j)]:=by
 unfold bksTo;rw[List.range_succ,List.map_append];rfl
theorem bksTo_len (k z m o:Int) (l:List Int) (j:Nat):(bksTo k z m o l j).length=j:=by simp[bksTo]
def ofE (k z m o:Int) (l:List Int):Int:=if mayB k z m o=true then (if l.length≤4096 then (if oddTo k z m o l (partN z.toNat l.length)=true then 1 else 0) else 6) else 1
def ofS (k z m o:Int) (l:List Int):St:=if ofE k z m o l=0 then (k,z,m,o,(l.length:Int),bksTo k z m o l (partN z.toNat l.length)) else (0,0,0,0,0,[])
def bkR (b:Bk):Bool:=blkR b.1 b.2.1 b.2.2.1 b.2.2.2
def bkNums (b:Bk):List Int:=if b.1=4 then b.2.2.2 else loadC b.1.toNat b.2.1 b.2.2.1
def loadS (bs:List Bk):List Int:=bs.flatMap bkNums
open Go.RowKit
section
variable {w w':World} {es:List Eb} {bs:List Bk} {v:Value}
theorem flatB_one (es:List Eb) (h:OkB w es):∀u∈flatB es,u.oneCell'=true:=by
 intro u hu
 obtain⟨e,he,hu⟩:=List.mem_flatMap.1 hu
 obtain⟨⟨A,c,e1,_⟩,⟨B,d,e2,_⟩⟩:=h e he
 simp only[cellsE,e1,e2,List.mem_cons,List.not_mem_nil,or_false] at hu
 rcases hu with rfl | rfl | rfl | rfl<;>rfl
end
theorem own4_typed {w:World} {base n:Nat} {v:Value} {xs:List Value} (h:w.ownsRow base 103 4 v n xs) {X:Nat} {t:TypeId} {cs:Array Value} (hb:Blk w X t cs) (hne:t≠103):v.ownBlock≠some X:=by
 rcases h.2 with ⟨rfl,_⟩ | ⟨g,cap,cur,rfl,hg,hh,_⟩
 ·simp[Value.ownBlock]
 ·intro e2
  have :g=X:=by simpa [Value.ownBlock] using e2
  subst this
  unfold Blk at hb
  rw[hh] at hb
  injection hb with hb
  injection hb with h1 h2 h3
  exact hne h2.symm
theorem below_grown4 {W w1:World} {b₁ n:Nat} {e:TypeId} {v:Value} {xs:List Value} {tmp:Obj} (hrow:W.ownsRow b₁ e 4 v n xs) (hb₁:b₁≤W.heap.size) (hgrow:(W.alloc tmp).grownBy w1 v.ownBlock):
 Below b₁ W w1∧∀(k:Nat) (o:Obj),W.heap[k]?=some o→o.isCells=false→w1.heap[k]?=some o:=by
 refine ⟨((Below.refl b₁ W).alloc hb₁ tmp).grown hgrow (by simp;omega) fun j ej=>(hrow.lt j ej).1,fun k o hk ho=>?_⟩
 have hlt:k<W.heap.size:=(Array.getElem?_eq_some_iff.1 hk).1
 refine (hgrow.block k (by simp;omega) fun ek=>?_).trans ((Below.heap_alloc W tmp k hlt).trans hk)
 rcases hrow.2 with ⟨rfl,_⟩ | ⟨g,cap,cur,rfl,_,hgb,_⟩
 ·simp[Value.ownBlock] at ek
 ·obtain rfl:k=g:=by simpa [Value.ownBlock] using ek
  rw[hgb] at hk;cases hk;cases ho
theorem lit4_cells (w:World) (t:TypeId) (a b c d:Value):∀j u,[a,b,c,d][j]?=some u→(w.alloc (.cells #[a,b,c,d] t)).cell? ((⟨w.heap.size,0,none⟩:Addr).add j)=some u:=by
 intro j u hu
 have hj:(⟨w.heap.size,0,none⟩:Addr).add j=⟨w.heap.size,j,none⟩:=by
  unfold Addr.add
  by_cases h:j=0
  ·subst h;rfl
  ·rw[if_neg h,Nat.zero_add]
 rw[hj,(Blk.new w t #[a,b,c,d]).cell j,←hu]
 simp
theorem info_blk:(Tryz.prog.info? 103).map (fun i=>(i.zero,i.size,i.bytes))=some (some (.agg #[.int .i64 0,.int .i64 0,.slice none 0 0,.slice none 0 0]),4,64):=by kernel_rfl
end Go.Proofs.YtdnjdglekifhpaaGreat
namespace Go.Proofs.YtdnjdglekifhpaaGreat
open Go.ChangeShapes Go.WideShapes Go.ChangeAt Go.RowKit Go.Joins Go.Deep
theorem list_of {α:Type} {P:Nat→α→Prop}:∀n,(∀i,i<n→∃e,P i e)→∃es:List α,es.length=n∧∀i e,es[i]?=some e→P i e
 | 0,_=>⟨[],rfl,fun i e h=>by simp at h⟩
 | n + 1, h => by
   obtain⟨es,hl,hp⟩:=list_of n fun i hi=>h i (by omega)
   obtain⟨e,he⟩:=h n (by omega)
   refine ⟨es++[e],by simp[hl],fun i x hx=>?_⟩
   rcases Nat.lt_or_ge i n with h' | h'
   ·rw[List.getElem?_append_left (by omega)] at hx
    exact hp i x hx
   ·have hin:i=n:=by
     rcases Nat.eq_or_lt_of_le h' with h2 | h2
     ·exact h2.symm
     ·rw[List.getElem?_eq_none (by simp[hl];omega)] at hx;cases hx
    subst hin
    rw[List.getElem?_append_right (by omega),hl,Nat.sub_self] at hx
    obtain rfl:e=x:=by simpa using hx
    exact he
section
variable {H:Type} {enc:TypeId×Value→H} {W:World}
theorem cells_intk:Tryz.prog.cellsOf 3=1:=by kernel_rfl
theorem cells_i64k:Tryz.prog.cellsOf 2=1:=by kernel_rfl
theorem cells_keep:Tryz.prog.cellsOf 23=4:=by kernel_rfl
end
end Go.Proofs.YtdnjdglekifhpaaGreat
namespace Go.Proofs.YtdnjdglekifhpaaGreat
open Go.RowKit
attribute [local go_sem ↓] Go.wp_at_zero Go.wp_at_succ
theorem tmay_any (k z m o:Int) (w:World):Calls Tryz.prog 97 #[.agg #[.int .i64 k,.int .i64 z,.int .i64 m,.int .i64 o]] w fun e w'=>e= .returned (.bool (mayB k z m o))∧Below w.heap.size w w':=by
 have HB:=Lib.hid ((Below.refl w.heap.size w).alloc (Nat.le_refl _) (.cells #[.int .i64 k,.int .i64 z,.int .i64 m,.int .i64 o] 23))
 have hd:mayB k z m o=(decide (0≤k) && (decide (k≤3) && (decide (1≤z) && (decide (z≤4096) && (decide (0≤m) && decide (0≤o)))))):=by
  rw[Bool.eq_iff_iff];simp[mayB]
 rw[hd]
 clear hd
 by_cases h1:0≤k<;>by_cases h2:k≤3<;>by_cases h3:1≤z<;>by_cases h4:z≤4096<;>by_cases h5:0≤m
 all_goals try (exfalso;omega)
 all_goals
  first
   | rw[decide_eq_true h1]
   | rw[decide_eq_false h1]
  first
   | rw[decide_eq_true h2]
   | rw[decide_eq_false h2]
  first
   | rw[decide_eq_true h3]
   | rw[decide_eq_false h3]
  first
   | rw[decide_eq_true h4]
   | rw[decide_eq_false h4]
  first
   | rw[decide_eq_true h5]
   | rw[decide_eq_false h5]
  go_enter Tryz.func97,Tryz.ntmps97
  go_wp2
  go_ret
  exact⟨rfl,HB.out⟩
theorem tstays_any (k z m o n g:Int) (w:World):Calls Tryz.prog 99 #[.agg #[.int .i64 k,.int .i64 z,.int .i64 m,.int .i64 o],.int .i64 n,.int .i64 g] w fun e w'=>e= .returned (.bool (staysB m o n g))∧Below w.heap.size w w':=by
 have HB:=Lib.hid ((Below.refl w.heap.size w).alloc (Nat.le_refl _) (.cells #[.int .i64 k,.int .i64 z,.int .i64 m,.int .i64 o] 23))
 unfold staysB
 by_cases h1:n<m<;>by_cases h2:0<o
 all_goals
  first
   | rw[decide_eq_true h1]
   | rw[decide_eq_false h1]
  first
   | rw[decide_eq_true h2]
   | rw[decide_eq_false h2]
  go_enter Tryz.func99,Tryz.ntmps99
  go_wp2
  go_ret
  exact⟨rfl,HB.out⟩
theorem greatW_take (l:List Int) (j:Nat) (h:j<l.length):greatW (l.take (j+1))=max (max (greatW (l.take j)) (iat l j)) (IntKind.i64.wrap (-iat l j)):=by rw[iat_snoc_take l j h,greatW_snoc]
theorem tgreat_any (v:Value) (l:List Int) (w:World) (h:IsI w v l):
 Calls Tryz.prog 100 #[v] w fun e w'=>e= .returned (.int .i64 (greatW l))∧w=w':=by
 obtain⟨A,c,rfl,hc1,hc2,hr⟩:=h
 have hM3:= @run_max3_int Tryz.prog
 go_enter Tryz.func100,Tryz.ntmps100
 go_wp2
 go_loop [8,3] (fun i n=>∃k:Nat,k≤l.length∧i= .int .i64 k∧n= .int .i64 (greatW (l.take k))) (fun i _=>l.length - (intOf i).toNat)
 case atStart=>exact⟨0,by omega,rfl,rfl⟩
 case round=>
  obtain⟨k,hk,rfl,rfl⟩:=hrel
  by_cases hlt:k<l.length
  ·obtain⟨ad,rfl,_,hx⟩:=is_cell hr hlt
   have HS:=Lib.hid (greatW_take l k hlt)
   have i0:(0:Int)≤(k:Int):=by omega
   have i1:(k:Int)<(l.length:Int):=by omega
   generalize iat l k=x at *
   generalize greatW (l.take k)=s0 at *
   obtain⟨nx,hnx⟩:∃y,y=IntKind.i64.wrap (-x):=⟨_,rfl⟩
   have HN:=Lib.hid hnx
   have hnx2:=hnx.symm
   clear hnx
   go_wp2
   go_round
   case rel=>exact⟨k+1,by omega,by go_num,by rw[HS.out,←HN.out];congr 1;omega⟩
   case measure=>simp[intOf];omega
  ·obtain rfl:k=l.length:=by omega
   rw[List.take_length]
   go_wp2
   go_ret
   exact⟨rfl,rfl⟩
theorem bkNums_le (b:Bk):(bkNums b).length≤bkLen b:=by
 unfold bkNums bkLen;split
 ·omega
 ·unfold loadC;rw[List.length_map];omega
theorem bload_any (v:Value) (b:Bk) (w:World) (h:IsBk w v b.1 b.2.1 b.2.2.1 b.2.2.2) (hl:LoadB b) (hf:bkLen b≤5000):
 Calls Tryz.prog 102 #[v] w fun e w'=>∃v',e= .returned v'∧IsI w' v' (bkNums b)∧Below w.heap.size w w':=by
 obtain⟨k,s,cs,wd⟩:=b
 simp only[bkLen] at *
 unfold bkNums
 by_cases hk:k=4
 ·simp only;rw[if_pos hk]
  exact load_wide v k s cs wd w h hk (by omega)
 ·simp only;rw[if_neg hk]
  obtain⟨h0,h1,h2,h3⟩:=hl.resolve_left hk
  obtain⟨n,rfl⟩:=Int.eq_ofNat_of_zero_le h0
  rw[Int.toNat_natCast]
  simp only at h1 h2 h3
  exact load_coded v n s cs wd w h (by omega) h2 h3 (by omega)
theorem loadS_snoc (l:List Bk) (b:Bk):loadS (l++[b])=loadS l++bkNums b:=by simp[loadS]
theorem loadS_le:∀{bs:List Bk},(∀b∈bs,bkLen b≤5000)→(loadS bs).length≤5000*bs.length
 | [],_=>by simp[loadS]
 | b :: r, h => by
   have h1:=h b (by simp)
   have h2:=loadS_le (bs:=r) fun x hx=>h x (by simp[hx])
   have h3:=bkNums_le b
   unfold loadS at *
   rw[List.flatMap_cons,List.length_append,List.length_cons]
   omega
theorem tload_own (v:Value) (s:St) (w:World) (h:IsSt w v s) (hf:FewB s.2.2.2.2.2) (hld:∀b∈s.2.2.2.2.2,LoadB b):
 Calls Tryz.prog 38 #[v] w fun e w'=>∃v',e= .returned v'∧w'.ownsRow w.heap.size 2 1 v' (loadS s.2.2.2.2.2).length (is (loadS s.2.2.2.2.2))∧Below w.heap.size w w':=by
 obtain⟨i0,hi,hz0,hz1,hz2⟩:=info_parts info_i64
 obtain⟨k,z,m,o,n,bs⟩:=s
 obtain⟨x,rfl,hb⟩:=h
 simp only at *
 obtain⟨A,c,rfl,hc1,hc2⟩:=hb.len
 obtain⟨W0,hW,hR,hB⟩:=box1 w 26 #[.int .i64 k,.int .i64 z,.int .i64 m,.int .i64 o,.int .i64 n,.slice A bs.length c]
 obtain⟨g,hg⟩:∃g,g=w.heap.size:=⟨_,rfl⟩
 have hW':=Lib.hid (And.intro hW hg)
 rw[←hg] at hR
 clear hW hg
 replace hb:=hb.b hB
 have c5:=hR.cell 5
 go_enter Tryz.func38,Tryz.ntmps38
 go_upto_block 0 with fail
 rw[←hW'.out.1,←hW'.out.2]
 go_wp2_with fail
 clear c5
 go_loopw [9,3] (fun i t wr=>∃j:Nat,i= .int .i64 j∧j≤bs.length∧wr.ownsRow W0.heap.size 2 1 t (loadS (bs.take j)).length (is (loadS (bs.take j)))∧Below W0.heap.size W0 wr) (fun i _ _=>bs.length - (intOf i).toNat)
 case atStart=>exact⟨0,rfl,by omega,World.ownsRow_nil _ _ _ _,Below.refl _ _⟩
 case round=>
  rename_i t0 _
  obtain⟨j,rfl,hj,hown,bl⟩:=hrel
  by_cases hlt:j<bs.length
  ·obtain⟨ad,c',k1,s1,cs,wd,a1,b1,e1,_,hat,x0,x1,x2,x3,hy,hi1⟩:=(hb.below bl).at_ hlt
   obtain⟨rfl,_,rfl⟩:=Value.slice.inj e1
   obtain⟨A2,C2,rfl,_,_⟩:=id hy.form
   obtain⟨A3,C3,rfl,_,_⟩:=id hi1.form
   have HS:=Lib.hid (show loadS (bs.take (j+1))=loadS (bs.take j)++bkNums (k1,s1,cs,wd) by rw[take_bk hat,loadS_snoc])
   have hl:=hf.2 _ (mem_at hat)
   have hq:=loadS_le (hf.take j)
   have hn0:=hf.1
   rw[List.length_take,Nat.min_eq_left hj] at hq
   have hlb:=bkNums_le (k1,s1,cs,wd)
   have hL:=fun w h=>bload_any (.agg #[.int .i64 k1,.int .i64 s1,.slice A2 cs.length C2,.slice A3 wd.length C3]) (k1,s1,cs,wd) w h (hld _ (mem_at hat)) hl
   have i0':(0:Int)≤(j:Int):=by omega
   have i1:(j:Int)<(bs.length:Int):=by omega
   have hlen:(loadS (bs.take j)).length≤25000000:=by omega
   have hlen2:(bkNums (k1,s1,cs,wd)).length≤5000:=by omega
   have hbk:IsBk wr (.agg #[.int .i64 k1,.int .i64 s1,.slice A2 cs.length C2,.slice A3 wd.length C3]) k1 s1 cs wd:=⟨_,_,rfl,hy,hi1⟩
   generalize loadS (bs.take j)=t0 at *
   generalize bkNums (k1,s1,cs,wd)=tb at *
   clear hq hl hat hn0 hlb
   go_wp2_with fail
   refine (hL _ (hbk.below (balloc (Below.refl _ _) _))).mono ?_
   rintro e w1 ⟨v1,rfl,h1,b1⟩
   have B1:Below wr.heap.size wr w1:=bstep (balloc (Below.refl _ _) _) b1
   have own1:=own_below hown B1
   have bl1:=bstep bl B1
   obtain⟨A4,C4,rfl,q1,q2,hr4⟩:=h1
   go_wp2_with (at_builtin;go_must (refine wpList_append_any _ rfl (.tmp 13) (.tmp 15) _ rfl W0.heap.size 2 i0 _ 1 8 Tryz.underlying62 hi hz0 hz1 hz2 rfl (by omega) _ _ _ rfl own1 w1.heap.size A4 tb.length C4 (is tb) rfl hr4 (is_one _) (by unfold maxLen;omega) (by omega) bl1.size ?_;intro v' w' hown' hgrow hat))
   rw[←is_append] at hown'
   refine ⟨⟨j+1,by go_num,by omega,by rw[HS.out,List.length_append];exact hown',bl1.grown hgrow bl1.size (fun g e=>(own1.lt g e).1)⟩,by simp[intOf];omega⟩
  ·obtain rfl:j=bs.length:=by omega
   rw[List.take_length] at hown
   go_wp2
   go_ret
   exact⟨_,rfl,own_lower hown hB.size,hB.trans (bl.mono hB.size)⟩
def divQ (a b:Rat):Rat:=mkRat (a.num*sided (decide (b.num<0)) b.den) (a.den*b.num.natAbs)
theorem rqdiv_any (va vb:Value) (a b:Rat) (w:World) (ha:IsQ w va a) (hb:IsQ w vb b) (sa:BQ a 10000) (sb:BQ b 10000) (h0:b.num≠0):
 Calls Tryz.prog 80 #[va,vb] w fun e w'=>∃v',e= .returned (.tuple #[v',.int .i64 0])∧IsQ w' v' (divQ a b)∧Below w.heap.size w w':=by
 have hda:0<a.den:=Rat.den_pos a
 have hdb:0<b.den:=Rat.den_pos b
 have hnb:0<b.num.natAbs:=by omega
 obtain⟨pa,qa,rfl,hpa,hqa⟩:=ha
 have hza:IsZ w (.agg #[.bool (decide (a.num<0)),pa]) a.num:=⟨_,rfl,hpa⟩
 obtain⟨pb,qb,rfl,hpb,hqb⟩:=hb
 have hzb:IsZ w (.agg #[.bool (decide (b.num<0)),pb]) b.num:=⟨_,rfl,hpb⟩
 obtain⟨Ap,Lp,Cp,rfl,hLp⟩:=hpb.pos hnb
 obtain⟨Aq,Lq,Cq,rfl⟩:=hqb.frm
 obtain⟨c2,hc2⟩:∃c2,c2=sided (decide (b.num<0)) b.den:=⟨_,rfl⟩
 have hc3:decide (c2<0)=decide (b.num<0)∧c2.natAbs=b.den:=by
  rw[hc2];unfold sided
  cases h:decide (b.num<0)
  ·simp
  ·simp;omega
 have hzc:IsZ w (.agg #[.bool (decide (b.num<0)),.slice Aq Lq Cq]) c2:=⟨_,by rw[hc3.1],by rw[hc3.2];exact hqb⟩
 have hA:=fun w hu hv=>rzmul_any (.agg #[.bool (decide (a.num<0)),pa]) (.agg #[.bool (decide (b.num<0)),.slice Aq Lq Cq]) a.num c2 w hu hv (sa.1.more (by omega)) (by rw[hc3.2];exact sb.2.more (by omega))
 have hM:=fun w hu hv=>rmul_any qa (.slice Ap Lp Cp) a.den b.num.natAbs w hu hv (sa.2.fin (by omega)) (sb.1.fin (by omega))
 have s2:Sz c2.natAbs 10000:=by rw[hc3.2];exact sb.2
 have hK:=fun u v w hu hv=>rqmake_any u v (a.num*c2) (a.den*b.num.natAbs) w hu hv ((sa.1.imul s2).more (by omega)) ((sa.2.mul sb.1).more (by omega)) (Nat.mul_pos hda hnb)
 have hr:divQ a b=mkRat (a.num*c2) (a.den*b.num.natAbs):=by unfold divQ;rw[hc2]
 rw[←hr] at hK
 clear hr hc2 hc3 s2 hzb
 generalize divQ a b=r at *
 generalize a.num*c2=m3 at *
 generalize a.den*b.num.natAbs=d at *
 generalize a.num=na at *
 generalize b.num=nb at *
 generalize a.den=da at *
 generalize b.den=db at *
 clear hpa hqb sa sb hda hdb h0 hnb
 generalize decide (na<0)=sa at *
 generalize decide (nb<0)=sb at *
 have hL1:((Lp:Int) == 0)=false:=by rw[beq_eq_false_iff_ne];omega
 have hL2:decide (Lp=0)=false:=decide_eq_false (by omega)
 obtain⟨W0,hW,hT,hR,hB⟩:=box3 w 32 32 32 #[.bool sa,pa,qa] #[.bool sb,.slice Ap Lp Cp,.slice Aq Lq Cq] #[.bool false,.slice none 0 0,.slice none 0 0]
 obtain⟨g,hg⟩:∃g,g=w.heap.size:=⟨_,rfl⟩
 have hW':=Lib.hid (And.intro hW hg)
 rw[←hg] at hT hR
 clear hW hg
 have hza:=hza.below hB
 have hzc:=hzc.below hB
 have hqa:=hqa.below hB
 have hpb:=hpb.below hB
 have hgw:w.heap.size≤g:=by rw[hW'.out.2];omega
 obtain⟨k0,k1,k2,k3,k4,k5⟩:=hT.cells33
 go_enter Tryz.func80,Tryz.ntmps80
 go_upto_region 3 with fail
 rw[←hW'.out.1,←hW'.out.2]
 clear k0 k1 k2 k3 k4 k5
 go_region_held3 (fun w'=>w'.cell? ⟨g,0,none⟩=some (.bool sa)∧w'.cell? ⟨g,1,none⟩=some pa∧w'.cell? ⟨g,2,none⟩=some qa∧w'.cell? ⟨g+1,0,none⟩=some (.bool sb)∧w'.cell? ⟨g+1,1,none⟩=some (.slice Ap Lp Cp)∧w'.cell? ⟨g+1,2,none⟩=some (.slice Aq Lq Cq)) (first | exact Two.cells33 (hT.below (by first | assumption | exact balloc (by assumption) _ | exact bdrew _ | exact balloc (bdrew _) _) hT.lt) | exact Two.cells33 (Two.far3 (hT.below (by first | assumption | exact balloc (by assumption) _ | exact bdrew _ | exact balloc (bdrew _) _) hT.lt) _ _ _))
  (first
   | (go_at_call 77;(with_reducible refine (hA _ ?_ ?_).mono ?_);exact hza.below (by first | assumption | exact balloc (by assumption) _ | exact bdrew _ | exact balloc (bdrew _) _);exact hzc.below (by first | assumption | exact balloc (by assumption) _ | exact bdrew _ | exact balloc (bdrew _) _);rintro x w3 ⟨v3,rfl,h3,b3⟩;have B3:=bstep (a:=W0) (by first | assumption | exact balloc (by assumption) _ | exact bdrew _ | exact balloc (bdrew _) _) b3)
   | (go_at_call 73;(with_reducible refine (hM _ ?_ ?_).mono ?_);exact hqa.below (by first | assumption | exact balloc (by assumption) _ | exact bdrew _ | exact balloc (bdrew _) _);exact hpb.below (by first | assumption | exact balloc (by assumption) _ | exact bdrew _ | exact balloc (bdrew _) _);rintro x w4 ⟨v4,rfl,h4,b4⟩;have B4:=bstep (a:=W0) (by first | assumption | exact balloc (by assumption) _ | exact bdrew _ | exact balloc (bdrew _) _) b4;have h3:=h3.below (by first | exact b4 | exact bstep (balloc (Below.refl _ _) _) b4))
   | (go_at_call 70;(with_reducible refine (hK _ _ _ ?_ ?_).mono ?_);exact h3.below (by first | exact Below.refl _ _ | exact balloc (Below.refl _ _) _);exact h4.below (by first | exact Below.refl _ _ | exact balloc (Below.refl _ _) _);rintro x w5 ⟨v5,rfl,⟨n5,d5,rfl,h5,k5⟩,b5⟩;have B5:=bstep (a:=W0) (by first | assumption | exact balloc (by assumption) _ | exact bdrew _ | exact balloc (bdrew _) _) b5;obtain⟨A1,L1,C1,rfl⟩:=h5.frm;obtain⟨A2,L2,C2,rfl⟩:=k5.frm;have hR1:=hR.below B5 hR.lt;have q0:=hR1.cell 0;have q1:=hR1.cell 1;have q2:=hR1.cell 2;have z0:=hR1.frozen 0;have z1:=hR1.frozen 1;have z2:=hR1.frozen 2))
 obtain⟨p1,p2,p3⟩:=put3 hR1 (.bool (decide (r.num<0))) (.slice A1 L1 C1) (.slice A2 L2 C2) (by simp[noU]) (hB.trans (B5.mono hB.size)) (by rw[hW'.out.2];omega)
 have q0:=hR1.cell 0
 have z0:=hR1.frozen 0
 have q1:=hR1.cell 1
 have z1:=hR1.frozen 1
 have q2:=hR1.cell 2
 have z2:=hR1.frozen 2
 have P:=Lib.hid (And.intro (⟨_,_,rfl,p2 _ _ h5,p2 _ _ k5⟩:IsQ _ (.agg #[.bool (decide (r.num<0)),.slice A1 L1 C1,.slice A2 L2 C2]) r) (And.intro p3 p1.cells3))
 clear p1 p2 p3
 go_wp2
 obtain⟨P1,P2,P3,P4,P5⟩:=P.out
 exact bodyPost_ret (v:= .tuple #[.agg #[.bool (decide (r.num<0)),.slice A1 L1 C1,.slice A2 L2 C2],.int .i64 0]) (by simp[results,Tryz.results80,go_sem,P3,P4,P5]) rfl ⟨_,rfl,P1,P2⟩
end Go.Proofs.YtdnjdglekifhpaaGreat
namespace Go.Proofs.YtdnjdglekifhpaaGreat
open Go.RowKit
theorem cellGrown {w w':World} {ad:Addr} {v:Value} {row:Option Nat} (h:World.cell? w ad=some v) (hg:w.grownBy w' row) (hne:some ad.block≠row):World.cell? w' ad=some v:=(World.cell?_of_block (hg.block _ (World.block_lt_of_cell? w ad h) hne)).trans h
attribute [local go_sem ↓] Go.wp_at_zero Go.wp_at_succ
theorem rhalf_any (n:Int) (w:World) (hn:In64 n):
 Calls Tryz.prog 105 #[.int .i64 n] w fun e w'=>∃v',e= .returned v'∧IsQ w' v' (mkRat n 2)∧Below w.heap.size w w':=by
 have hF:=fun w=>rfrac5_any n 2 w hn ⟨by omega,by omega⟩ (by omega)
 rw[show (2:Int).natAbs=2 from rfl] at hF
 generalize mkRat n 2=r at *
 clear hn
 obtain⟨g,Y0,hR,hB,hgw,EY⟩:=boxes1 w 32 #[.bool false,.slice none 0 0,.slice none 0 0]
 obtain⟨c0,c1,c2⟩:=hR.q3
 go_enter Tryz.func105,Tryz.ntmps105
 go_wp2_with fail
 rw[←EY.out.2,←EY.out.1]
 refine (hF _).mono ?_
 rintro e w2 ⟨v3,rfl,q3,b2⟩
 replace hR:=hR.b b2
 replace hB:=bOn hB b2
 clear c0 c1 c2
 obtain⟨c3,c4,c5⟩:=hR.q3
 obtain⟨s3,A3,L3,C3,D3,M3,E3,rfl,q3⟩:=q3.opn
 obtain⟨p1,p2,p3⟩:=put3 hR (.bool s3) (.slice A3 L3 C3) (.slice D3 M3 E3) (by simp[noU]) hB (by omega)
 have rc0:World.cell? _ ⟨g,0,none⟩=some (.bool false):=hR.cell 0
 have rf0:=hR.frozen 0
 have rc1:World.cell? _ ⟨g,1,none⟩=some (.slice none 0 0):=hR.cell 1
 have rf1:=hR.frozen 1
 have rc2:World.cell? _ ⟨g,2,none⟩=some (.slice none 0 0):=hR.cell 2
 have rf2:=hR.frozen 2
 have P:=Lib.hid (And.intro (q3.kept p2) (And.intro p3 p1.cells3))
 clear p1 p2 p3
 go_wp2_with fail
 obtain⟨P1,P2,P3,P4,P5⟩:=P.out
 exact bodyPost_ret (v:= .agg #[.bool s3,.slice A3 L3 C3,.slice D3 M3 E3]) (by simp[results,Tryz.results105,go_sem,P3,P4,P5]) rfl ⟨_,rfl,P1,P2⟩
theorem sz_man {n:Int} {k:Nat} (hn:In64 n) (hk:k≤40):BQ (mkRat n (2^k)) 41:=BQ.mk ((Sz.u64 (by have:=hn.1;have:=hn.2;unfold W64;omega)).more (by omega)) ((Sz.two_pow k).more (by omega)) (by omega)
def stepsQ (n:Int) (k:Nat) (r:Rat):Rat:=divQ (absQ (mkRat n (2^k) - r)) (mkRat 1 (2^k))
theorem one_num (k:Nat):(mkRat 1 (2^k)).num≠0:=by
 intro h
 have:=Rat.num_eq_zero.1 h
 rw[Rat.mkRat_eq_zero (Nat.ne_of_gt (Nat.pow_pos (by omega)))] at this
 omega
theorem rsteps_any (n:Int) (k:Nat) (va:Value) (a:Rat) (w:World) (hk:k≤40) (hb:In64 n) (ha:IsQ w va a) (sa:BQ a 2000):
 Calls Tryz.prog 29 #[.int .i64 n,.int .i64 k,va] w fun e w'=>∃v',e= .returned v'∧IsQ w' v' (stepsQ n k a)∧Below w.heap.size w w':=by
 have hN:=fun w=>rrat_any n k w hk hb
 have sx:=sz_man hb hk
 have h1:In64 1:=⟨by omega,by omega⟩
 have hO:=fun w=>rrat_any 1 k w hk h1
 have s1':=sz_man h1 hk
 have hSu:=fun u v w hu hv=>rqsub_any u v (mkRat n (2^k)) a w hu hv (sx.more (by omega)) (sa.more (by omega))
 have sm:BQ (mkRat n (2^k) - a) 5000:=by rw[Rat.sub_eq_add_neg];exact (sx.add sa.neg).more (by omega)
 have hAb:=fun u w hu=>rqabs_any u (mkRat n (2^k) - a) w hu
 have hDi:=fun u v w hu hv=>rqdiv_any u v (absQ (mkRat n (2^k) - a)) (mkRat 1 (2^k)) w hu hv (sm.abs.more (by omega)) (s1'.more (by omega)) (one_num k)
 rw[show divQ (absQ (mkRat n (2^k) - a)) (mkRat 1 (2^k))=stepsQ n k a from rfl] at hDi
 generalize stepsQ n k a=rs at *
 generalize absQ (mkRat n (2^k) - a)=ra at *
 generalize mkRat n (2^k) - a=rd at *
 generalize mkRat 1 (2^k)=st at *
 generalize mkRat n (2^k)=x at *
 obtain⟨s1,A1,L1,C1,D1,M1,E1,rfl,q1⟩:=ha.opn
 clear sx s1' sm sa ha h1 hb
 obtain⟨g,Y1,hA,hR,hB,hgw,EY⟩:=boxes2 w 32 #[.bool s1,.slice A1 L1 C1,.slice D1 M1 E1] 32 #[.bool false,.slice none 0 0,.slice none 0 0]
 replace q1:=q1.b hB
 obtain⟨c0,c1,c2⟩:=hA.q3
 obtain⟨c3,c4,c5⟩:=hR.q3
 go_enter Tryz.func29,Tryz.ntmps29
 go_wp2_with fail
 rw[←EY.out.2,←EY.out.1]
 refine (hN _).mono ?_
 rintro e w2 ⟨v3,rfl,q3,b2⟩
 replace q1:=q1.b b2
 replace hA:=hA.b b2
 replace hR:=hR.b b2
 replace hB:=bOn hB b2
 clear c0 c1 c2 c3 c4 c5
 obtain⟨c6,c7,c8⟩:=hA.q3
 obtain⟨c9,c10,c11⟩:=hR.q3
 obtain⟨s3,A3,L3,C3,D3,M3,E3,rfl,q3⟩:=q3.opn
 obtain⟨X4,V4,hV,bV4,lX4,nX4,EV4⟩:=boxL hB 32 #[.bool s3,.slice A3 L3 C3,.slice D3 M3 E3]
 have dX4_hA:=nX4 _ hA.lt
 have dX4_hR:=nX4 _ hR.lt
 clear nX4
 go_upto_region 2 with fail
 rw[←EV4.out.1,←EV4.out.2]
 replace q1:=q1.b bV4
 replace hA:=hA.b bV4
 replace hR:=hR.b bV4
 replace q3:=q3.b bV4
 replace hB:=bOn hB bV4
 clear c6 c7 c8 c9 c10 c11
 obtain⟨c12,c13,c14⟩:=hA.q3
 obtain⟨c15,c16,c17⟩:=hR.q3
 obtain⟨c18,c19,c20⟩:=hV.q3
 go_wp2_with fail
 refine (hO _).mono ?_
 rintro e w6 ⟨v4,rfl,q4,b6⟩
 replace q1:=q1.b b6
 replace hA:=hA.b b6
 replace hR:=hR.b b6
 replace q3:=q3.b b6
 replace hV:=hV.b b6
 replace hB:=bOn hB b6
 clear c12 c13 c14 c15 c16 c17 c18 c19 c20
 obtain⟨c21,c22,c23⟩:=hA.q3
 obtain⟨c24,c25,c26⟩:=hR.q3
 obtain⟨c27,c28,c29⟩:=hV.q3
 obtain⟨s4,A4,L4,C4,D4,M4,E4,rfl,q4⟩:=q4.opn
 obtain⟨X8,V8,hX,bV8,lX8,nX8,EV8⟩:=boxL hB 32 #[.bool s4,.slice A4 L4 C4,.slice D4 M4 E4]
 have dX8_hA:=nX8 _ hA.lt
 have dX8_hR:=nX8 _ hR.lt
 have dX8_hV:=nX8 _ hV.lt
 clear nX8
 go_upto_region 3 with fail
 rw[←EV8.out.1,←EV8.out.2]
 replace q1:=q1.b bV8
 replace hA:=hA.b bV8
 replace hR:=hR.b bV8
 replace q3:=q3.b bV8
 replace hV:=hV.b bV8
 replace q4:=q4.b bV8
 replace hB:=bOn hB bV8
 clear c21 c22 c23 c24 c25 c26 c27 c28 c29
 obtain⟨c30,c31,c32⟩:=hA.q3
 obtain⟨c33,c34,c35⟩:=hR.q3
 obtain⟨c36,c37,c38⟩:=hV.q3
 obtain⟨c39,c40,c41⟩:=hX.q3
 clear c30 c31 c32 c33 c34 c35 c36 c37 c38 c39 c40 c41
 replace hB:=hB.drew
 replace q1:=q1.b (bdrew _)
 replace hA:=hA.drew
 replace hR:=hR.drew
 replace q3:=q3.b (bdrew _)
 replace hV:=hV.drew
 replace q4:=q4.b (bdrew _)
 replace hX:=hX.drew
 refine wp_region_noPanic ?_
 refine wp_region_held_drew (S:=fun w'=>World.grownBy V8.drew w' (some (V8.drew.heap.size))) (by kernel_rfl) (grown_of (Below.refl _ _) _) (fun hHeld=>?_)
 obtain⟨wd3_1,hwd⟩:∃q,q=V8.drew:=⟨_,rfl⟩
 rw[←hwd] at hB q1 hA hR q3 hV q4 hX hHeld ⊢
 clear hwd
 refine tkH 0 rfl (v:=?v16) ?h16 ?r16
 case h16=>
  intro w hSw
  (try dsimp only at hSw)
  obtain⟨yhV_0,yhV_1,yhV_2⟩:=(Blk.grownT hV hSw (fun e=>absurd (Option.some.inj e) (Nat.ne_of_lt hV.lt))).q3
  obtain⟨yhA_0,yhA_1,yhA_2⟩:=(Blk.grownT hA hSw (fun e=>absurd (Option.some.inj e) (Nat.ne_of_lt hA.lt))).q3
  obtain⟨yhX_0,yhX_1,yhX_2⟩:=(Blk.grownT hX hSw (fun e=>absurd (Option.some.inj e) (Nat.ne_of_lt hX.lt))).q3
  go_simp
  try (with_reducible rfl)
 refine tkH 1 rfl (v:=?v17) ?h17 ?r17
 case h17=>
  intro w hSw
  (try dsimp only at hSw)
  obtain⟨yhV_0,yhV_1,yhV_2⟩:=(Blk.grownT hV hSw (fun e=>absurd (Option.some.inj e) (Nat.ne_of_lt hV.lt))).q3
  obtain⟨yhA_0,yhA_1,yhA_2⟩:=(Blk.grownT hA hSw (fun e=>absurd (Option.some.inj e) (Nat.ne_of_lt hA.lt))).q3
  obtain⟨yhX_0,yhX_1,yhX_2⟩:=(Blk.grownT hX hSw (fun e=>absurd (Option.some.inj e) (Nat.ne_of_lt hX.lt))).q3
  go_simp
  try (with_reducible rfl)
 refine tkH 4 rfl (v:=?v18) ?h18 ?r18
 case h18=>
  intro w hSw
  (try dsimp only at hSw)
  obtain⟨yhV_0,yhV_1,yhV_2⟩:=(Blk.grownT hV hSw (fun e=>absurd (Option.some.inj e) (Nat.ne_of_lt hV.lt))).q3
  obtain⟨yhA_0,yhA_1,yhA_2⟩:=(Blk.grownT hA hSw (fun e=>absurd (Option.some.inj e) (Nat.ne_of_lt hA.lt))).q3
  obtain⟨yhX_0,yhX_1,yhX_2⟩:=(Blk.grownT hX hSw (fun e=>absurd (Option.some.inj e) (Nat.ne_of_lt hX.lt))).q3
  go_simp
  try (with_reducible rfl)
 try simp only[Act.put,lay]
 refine wpAnyH_facts [(2,27),(3,28),(5,30),(9,11)] [(6,24),(7,31),(8,32)] [8] (pick [(2,fun (v:Value) (w:World)=>∃v5,v5=v∧IsQ w v5 rd),(3,fun (v:Value) (w:World)=>∃v6,v6=v∧IsQ w v6 ra),(5,fun (v:Value) (w:World)=>∃v7,.tuple #[v7,.int .i64 0]=v∧IsQ w v7 rs),(6,fun (v:Value) (w:World)=>∃v7,.tuple #[v7,.int .i64 0]=v∧IsQ w v7 rs),(7,fun (v:Value) (w:World)=>∃v7,v7=v∧IsQ w v7 rs),(8,fun (v:Value) (w:World)=>.int .i64 0=v),(9,fun (v:Value) (w:World)=>∃X9,.pointer (some ⟨X9,0,none⟩)=v∧wd3_1.heap.size≤X9∧Blk w X9 32 #[.bool false,.slice none 0 0,.slice none 0 0])]) #[true,true,true,true,true,true,true,true,true,true,false,false] (fun _ h=>grown_of h _) (pick_pers (show PersAll _ from ⟨fun _ _ _ b ⟨v5,e,q5⟩=>⟨v5,e,q5.below b⟩,fun _ _ _ b ⟨v6,e,q6⟩=>⟨v6,e,q6.below b⟩,fun _ _ _ b ⟨v7,e,q7⟩=>⟨v7,e,q7.below b⟩,fun _ _ _ b ⟨v7,e,q7⟩=>⟨v7,e,q7.below b⟩,fun _ _ _ b ⟨v7,e,q7⟩=>⟨v7,e,q7.below b⟩,fun _ _ _ _ e=>e,fun _ _ _ b ⟨X,e,l,h⟩=>⟨X,e,l,h.below b h.lt⟩,trivial⟩)) (hord_of (by kernel_rfl)) (by kernel_rfl) (by kernel_rfl) (by kernel_rfl) (by kernel_rfl) (fun _ _ _ _ _ h=>h) ?ops1 ?pur1 ?done1 (Below.refl _ _) (Nat.le_of_ble_eq_true (by kernel_rfl))
 case ops1=>
  refine .cons rfl (fun a w zS K hK=>?_) ?_
  ·have q1:=q1.below zS.1
   have q3:=q3.below zS.1
   have e25:=zS.2.1 25 _ (by kernel_rfl) rfl
   have e26:=zS.2.1 26 _ (by kernel_rfl) rfl
   go_simp
   refine (hSu _ _ _ q3 q1).mono ?_
   rintro e w' ⟨v5,rfl,q5,b⟩
   exact hK _ _ ⟨v5,rfl,q5⟩ b
  refine .cons rfl (fun a w zS K hK=>?_) ?_
  ·obtain⟨v27,e27,v5,rfl,q5⟩:=zS.2.2 2 27 (by kernel_rfl)
   go_simp
   refine (hAb _ _ q5).mono ?_
   rintro e w' ⟨v6,rfl,q6,b⟩
   exact hK _ _ ⟨v6,rfl,q6⟩ b
  refine .cons rfl (fun a w zS K hK=>?_) ?_
  ·have q4:=q4.below zS.1
   obtain⟨v28,e28,v6,rfl,q6⟩:=zS.2.2 3 28 (by kernel_rfl)
   have e29:=zS.2.1 29 _ (by kernel_rfl) rfl
   go_simp
   refine (hDi _ _ _ q6 q4).mono ?_
   rintro e w' ⟨v7,rfl,q7,b⟩
   exact hK _ _ ⟨v7,rfl,q7⟩ b
  refine .cons rfl (fun a w zS K hK=>?_) ?_
  ·go_simp
   exact hK _ _ ⟨_,rfl,zS.1.size,Blk.new w _ _⟩ ((Below.refl _ w).alloc (Nat.le_refl _) _)
  exact .nil
 case pur1=>
  refine .cons rfl (fun a w zS=>?_) ?_
  ·obtain⟨v30,e30,v7,rfl,q7⟩:=zS.2.2 5 30 (by kernel_rfl)
   exact⟨_,fun w'=>by go_simp<;>rfl,⟨v7,rfl,q7⟩⟩
  refine .cons rfl (fun a w zS=>?_) ?_
  ·obtain⟨v24,e24,v7,rfl,q7⟩:=zS.2.2 6 24 (by kernel_rfl)
   exact⟨_,fun w'=>by go_simp<;>rfl,⟨v7,rfl,q7⟩⟩
  refine .cons rfl (fun a w zS=>?_) ?_
  ·obtain⟨v24,e24,v7,rfl,q7⟩:=zS.2.2 6 24 (by kernel_rfl)
   exact⟨_,fun w'=>by go_simp<;>rfl,rfl⟩
  exact .nil
 case done1=>
  intro fuel a wr3_1 zf zS zdf zsz zs zd
  obtain⟨fuel,rfl⟩:∃n,fuel=n+2:=⟨fuel - 2,by have h:2≤fuel:=Nat.le_trans (Nat.le_of_ble_eq_true (by kernel_rfl)) zf;omega⟩
  clear zf
  replace q1:=q1.b zS
  have nhA:=hA.lt
  replace hA:=hA.below zS nhA
  have nhR:=hR.lt
  replace hR:=hR.below zS nhR
  replace q3:=q3.b zS
  have nhV:=hV.lt
  replace hV:=hV.below zS nhV
  replace q4:=q4.b zS
  have nhX:=hX.lt
  replace hX:=hX.below zS nhX
  obtain⟨v27_,e27_,v5,rfl,q5⟩:=zd 2 27 (by kernel_rfl)
  obtain⟨v28_,e28_,v6,rfl,q6⟩:=zd 3 28 (by kernel_rfl)
  obtain⟨v30_,e30_,v7_5,rfl, -⟩:=zd 5 30 (by kernel_rfl)
  obtain⟨v24_,e24_,v7_6,rfl, -⟩:=zd 6 24 (by kernel_rfl)
  obtain⟨v31_,e31_,v7,rfl,q7⟩:=zd 7 31 (by kernel_rfl)
  obtain⟨v32_,e32_,rfl⟩:=zd 8 32 (by kernel_rfl)
  obtain⟨v11_,e11_,X9,rfl,lX9,hU⟩:=zd 9 11 (by kernel_rfl)
  obtain rfl:=act_of [(27,v5),(28,v6),(30,.tuple #[v7_5,.int .i64 0]),(11,.pointer (some ⟨X9,0,none⟩)),(24,.tuple #[v7_6,.int .i64 0]),(31,v7),(32,.int .i64 0)] ⟨e27_,e28_,e30_,e11_,e24_,e31_,e32_,trivial⟩ zdf zsz (fun s h=>zs s h)
  simp only[putAll,List.set_cons_zero,List.set_cons_succ]
  clear zdf zsz zs zd e27_ e28_ e30_ e11_ e24_ e31_ e32_
  have kX9:w.heap.size≤X9:=Nat.le_trans hB.size lX9
  have dX9_hA:g≠X9:=Nat.ne_of_lt (Nat.lt_of_lt_of_le nhA lX9)
  have dX9_hR:g+1≠X9:=Nat.ne_of_lt (Nat.lt_of_lt_of_le nhR lX9)
  have dX9_hV:X4≠X9:=Nat.ne_of_lt (Nat.lt_of_lt_of_le nhV lX9)
  have dX9_hX:X8≠X9:=Nat.ne_of_lt (Nat.lt_of_lt_of_le nhX lX9)
  replace hB:=bOn hB zS
  clear nhA nhR nhV nhX
  obtain⟨s5,A5,L5,C5,D5,M5,E5,rfl,q5⟩:=q5.opn
  obtain⟨s6,A6,L6,C6,D6,M6,E6,rfl,q6⟩:=q6.opn
  obtain⟨s7,A7,L7,C7,D7,M7,E7,rfl,q7⟩:=q7.opn
  have zG:=grown_of zS (some (wd3_1.heap.size))
  refine rd1 10 rfl fun K hK=>?_
  obtain⟨ws3_10,eu,hU',kz,kb,kB⟩:=fill3 hU (.bool s7) (.slice A7 L7 C7) (.slice D7 M7 E7) (by simp[noU])
  obtain⟨x0,x1,x2⟩:=hU.q3
  have xf:=hU.frozen
  replace zG:=(grown_set (grown_set (grown_set zG (p:=⟨X9,0,none⟩) (.inr (by assumption)) (.bool s7)) (p:=⟨X9,1,none⟩) (.inr (by assumption)) (.slice A7 L7 C7)) (p:=⟨X9,2,none⟩) (.inr (by assumption)) (.slice D7 M7 E7))
  rw[←eu] at zG
  go_simp
  rw[←eu]
  replace q1:=q1.filled kz
  replace hA:=kb _ _ _ hA (by first | assumption | exact Ne.symm (by assumption) | omega)
  replace hR:=kb _ _ _ hR (by first | assumption | exact Ne.symm (by assumption) | omega)
  replace q3:=q3.filled kz
  replace hV:=kb _ _ _ hV (by first | assumption | exact Ne.symm (by assumption) | omega)
  replace q4:=q4.filled kz
  replace hX:=kb _ _ _ hX (by first | assumption | exact Ne.symm (by assumption) | omega)
  replace q5:=q5.filled kz
  replace q6:=q6.filled kz
  replace q7:=q7.filled kz
  replace hB:=kB _ _ (by omega) hB
  replace hU:=hU'
  clear hU' kz kb kB eu xf x0 x1 x2
  refine hK.out _ _ zG (fun hHeld=>?_)
  clear hK K
  refine tkH 11 rfl (v:=?v19) ?h19 ?r19 (hS:=zG)
  case h19=>intro w s;go_simp;try (with_reducible rfl)
  try simp only[Act.put,lay]
  try dsimp only
  try simp only[Act.put,lay]
  refine wpAnyH_done (by kernel_rfl) ?_ _
  refine NoPanic.normal ?_
  clear zG
  obtain⟨c42,c43,c44⟩:=hA.q3
  obtain⟨c45,c46,c47⟩:=hR.q3
  obtain⟨c48,c49,c50⟩:=hV.q3
  obtain⟨c51,c52,c53⟩:=hX.q3
  obtain⟨c54,c55,c56⟩:=hU.q3
  clear c42 c43 c44
  clear c48 c49 c50
  clear c51 c52 c53
  obtain⟨p1,p2,p3⟩:=put3 hR (.bool s7) (.slice A7 L7 C7) (.slice D7 M7 E7) (by simp[noU]) hB (by omega)
  have rc0:World.cell? _ ⟨g+1,0,none⟩=some (.bool false):=hR.cell 0
  have rf0:=hR.frozen 0
  have rc1:World.cell? _ ⟨g+1,1,none⟩=some (.slice none 0 0):=hR.cell 1
  have rf1:=hR.frozen 1
  have rc2:World.cell? _ ⟨g+1,2,none⟩=some (.slice none 0 0):=hR.cell 2
  have rf2:=hR.frozen 2
  have P:=Lib.hid (And.intro (q7.kept p2) (And.intro p3 p1.cells3))
  clear p1 p2 p3
  go_wp2_with fail
  obtain⟨P1,P2,P3,P4,P5⟩:=P.out
  exact bodyPost_ret (v:= .agg #[.bool s7,.slice A7 L7 C7,.slice D7 M7 E7]) (by simp[results,Tryz.results29,go_sem,P3,P4,P5]) rfl ⟨_,rfl,P1,P2⟩
def realQ (beta:Int) (k:Nat) (old g:Rat):Rat:=mkRat beta (2^k)*old+(1 - mkRat beta (2^k))*g
theorem rreal_any (n:Int) (k:Nat) (va vg:Value) (a g0:Rat) (w:World) (hk:k≤40) (hb:In64 n) (ha:IsQ w va a) (hg0:IsQ w vg g0) (sa:BQ a 2000) (sg:BQ g0 2000):
 Calls Tryz.prog 113 #[.int .i64 n,.int .i64 k,va,vg] w fun e w'=>∃v',e= .returned v'∧IsQ w' v' (realQ n k a g0)∧Below w.heap.size w w':=by
 have hN:=fun w=>rrat_any n k w hk hb
 have sx:=sz_man hb hk
 have hO:=fun w=>rqof_any 1 (by omega) (by omega) w
 have e1:(((1:Int):Rat))=1:=rfl
 rw[e1] at hO
 have s1':BQ (1:Rat) 1:=BQ.int (n:=1) (by unfold W64;omega)
 have hMu:=fun u v w hu hv=>rqmul_any u v (mkRat n (2^k)) a w hu hv (sx.more (by omega)) (sa.more (by omega))
 have hSu:=fun u v w hu hv=>rqsub_any u v 1 (mkRat n (2^k)) w hu hv (s1'.more (by omega)) (sx.more (by omega))
 have ss:BQ (1 - mkRat n (2^k)) 500:=by rw[Rat.sub_eq_add_neg];exact (s1'.add sx.neg).more (by omega)
 have hM2:=fun u v w hu hv=>rqmul_any u v (1 - mkRat n (2^k)) g0 w hu hv (ss.more (by omega)) (sg.more (by omega))
 have sp:=sx.mul sa
 have sq:=ss.mul sg
 have hAd:=fun u v w hu hv=>rqadd_any u v (mkRat n (2^k)*a) ((1 - mkRat n (2^k))*g0) w hu hv (sp.more (by omega)) (sq.more (by omega))
 rw[show mkRat n (2^k)*a+(1 - mkRat n (2^k))*g0=realQ n k a g0 from rfl] at hAd
 generalize realQ n k a g0=rs at *
 generalize (1 - mkRat n (2^k))*g0=r3 at *
 generalize 1 - mkRat n (2^k)=r2 at *
 generalize mkRat n (2^k)*a=r1 at *
 generalize mkRat n (2^k)=x at *
 obtain⟨s1,A1,L1,C1,D1,M1,E1,rfl,q1⟩:=ha.opn
 obtain⟨s2,A2,L2,C2,D2,M2,E2,rfl,q2⟩:=hg0.opn
 clear sx s1' ss sp sq sa sg ha hg0 hb e1
 obtain⟨g,Y2,hA,hG,hR,hB,hgw,EY⟩:=boxes3 w 32 #[.bool s1,.slice A1 L1 C1,.slice D1 M1 E1] 32 #[.bool s2,.slice A2 L2 C2,.slice D2 M2 E2] 32 #[.bool false,.slice none 0 0,.slice none 0 0]
 replace q1:=q1.b hB
 replace q2:=q2.b hB
 obtain⟨c0,c1,c2⟩:=hA.q3
 obtain⟨c3,c4,c5⟩:=hG.q3
 obtain⟨c6,c7,c8⟩:=hR.q3
 go_enter Tryz.func113,Tryz.ntmps113
 go_wp2_with fail
 rw[←EY.out.2,←EY.out.1]
 refine (hN _).mono ?_
 rintro e w2 ⟨v3,rfl,q3,b2⟩
 replace q1:=q1.b b2
 replace q2:=q2.b b2
 replace hA:=hA.b b2
 replace hG:=hG.b b2
 replace hR:=hR.b b2
 replace hB:=bOn hB b2
 clear c0 c1 c2 c3 c4 c5 c6 c7 c8
 obtain⟨c9,c10,c11⟩:=hA.q3
 obtain⟨c12,c13,c14⟩:=hG.q3
 obtain⟨c15,c16,c17⟩:=hR.q3
 obtain⟨s3,A3,L3,C3,D3,M3,E3,rfl,q3⟩:=q3.opn
 obtain⟨X4,V4,hV,bV4,lX4,nX4,EV4⟩:=boxL hB 32 #[.bool s3,.slice A3 L3 C3,.slice D3 M3 E3]
 have dX4_hA:=nX4 _ hA.lt
 have dX4_hG:=nX4 _ hG.lt
 have dX4_hR:=nX4 _ hR.lt
 clear nX4
 go_upto_region 2 with fail
 rw[←EV4.out.1,←EV4.out.2]
 replace q1:=q1.b bV4
 replace q2:=q2.b bV4
 replace hA:=hA.b bV4
 replace hG:=hG.b bV4
 replace hR:=hR.b bV4
 replace q3:=q3.b bV4
 replace hB:=bOn hB bV4
 clear c9 c10 c11 c12 c13 c14 c15 c16 c17
 obtain⟨c18,c19,c20⟩:=hA.q3
 obtain⟨c21,c22,c23⟩:=hG.q3
 obtain⟨c24,c25,c26⟩:=hR.q3
 obtain⟨c27,c28,c29⟩:=hV.q3
 clear c18 c19 c20 c21 c22 c23 c24 c25 c26 c27 c28 c29
 replace hB:=hB.drew
 replace q1:=q1.b (bdrew _)
 replace q2:=q2.b (bdrew _)
 replace hA:=hA.drew
 replace hG:=hG.drew
 replace hR:=hR.drew
 replace q3:=q3.b (bdrew _)
 replace hV:=hV.drew
 refine wp_region_noPanic ?_
 refine wp_region_held_drew (S:=fun w'=>World.grownBy V4.drew w' (some (g+1+1))) (by kernel_rfl) (grown_of (Below.refl _ _) _) (fun hHeld=>?_)
 obtain⟨wd2_1,hwd⟩:∃q,q=V4.drew:=⟨_,rfl⟩
 rw[←hwd] at hB q1 q2 hA hG hR q3 hV hHeld ⊢
 clear hwd
 refine tkH 0 rfl (v:=?v20) ?h20 ?r20
 case h20=>
  intro w hSw
  (try dsimp only at hSw)
  obtain⟨yhV_0,yhV_1,yhV_2⟩:=(Blk.grownT hV hSw (fun e=>absurd (Option.some.inj e) (by first | assumption | exact Ne.symm (by assumption) | omega))).q3
  obtain⟨yhA_0,yhA_1,yhA_2⟩:=(Blk.grownT hA hSw (fun e=>absurd (Option.some.inj e) (by first | assumption | exact Ne.symm (by assumption) | omega))).q3
  obtain⟨yhG_0,yhG_1,yhG_2⟩:=(Blk.grownT hG hSw (fun e=>absurd (Option.some.inj e) (by first | assumption | exact Ne.symm (by assumption) | omega))).q3
  go_simp
  try (with_reducible rfl)
 refine tkH 1 rfl (v:=?v21) ?h21 ?r21
 case h21=>
  intro w hSw
  (try dsimp only at hSw)
  obtain⟨yhV_0,yhV_1,yhV_2⟩:=(Blk.grownT hV hSw (fun e=>absurd (Option.some.inj e) (by first | assumption | exact Ne.symm (by assumption) | omega))).q3
  obtain⟨yhA_0,yhA_1,yhA_2⟩:=(Blk.grownT hA hSw (fun e=>absurd (Option.some.inj e) (by first | assumption | exact Ne.symm (by assumption) | omega))).q3
  obtain⟨yhG_0,yhG_1,yhG_2⟩:=(Blk.grownT hG hSw (fun e=>absurd (Option.some.inj e) (by first | assumption | exact Ne.symm (by assumption) | omega))).q3
  go_simp
  try (with_reducible rfl)
 refine tkH 4 rfl (v:=?v22) ?h22 ?r22
 case h22=>
  intro w hSw
  (try dsimp only at hSw)
  obtain⟨yhV_0,yhV_1,yhV_2⟩:=(Blk.grownT hV hSw (fun e=>absurd (Option.some.inj e) (by first | assumption | exact Ne.symm (by assumption) | omega))).q3
  obtain⟨yhA_0,yhA_1,yhA_2⟩:=(Blk.grownT hA hSw (fun e=>absurd (Option.some.inj e) (by first | assumption | exact Ne.symm (by assumption) | omega))).q3
  obtain⟨yhG_0,yhG_1,yhG_2⟩:=(Blk.grownT hG hSw (fun e=>absurd (Option.some.inj e) (by first | assumption | exact Ne.symm (by assumption) | omega))).q3
  go_simp
  try (with_reducible rfl)
 refine tkH 6 rfl (v:=?v23) ?h23 ?r23
 case h23=>
  intro w hSw
  (try dsimp only at hSw)
  obtain⟨yhV_0,yhV_1,yhV_2⟩:=(Blk.grownT hV hSw (fun e=>absurd (Option.some.inj e) (by first | assumption | exact Ne.symm (by assumption) | omega))).q3
  obtain⟨yhA_0,yhA_1,yhA_2⟩:=(Blk.grownT hA hSw (fun e=>absurd (Option.some.inj e) (by first | assumption | exact Ne.symm (by assumption) | omega))).q3
  obtain⟨yhG_0,yhG_1,yhG_2⟩:=(Blk.grownT hG hSw (fun e=>absurd (Option.some.inj e) (by first | assumption | exact Ne.symm (by assumption) | omega))).q3
  go_simp
  try (with_reducible rfl)
 try simp only[Act.put,lay]
 refine wpAnyH_facts [(2,19),(3,20),(5,22),(7,24),(8,25)] [] [] (pick [(2,fun (v:Value) (w:World)=>∃v5,v5=v∧IsQ w v5 r1),(3,fun (v:Value) (w:World)=>∃v6,v6=v∧IsQ w v6 1),(5,fun (v:Value) (w:World)=>∃v7,v7=v∧IsQ w v7 r2),(7,fun (v:Value) (w:World)=>∃v8,v8=v∧IsQ w v8 r3),(8,fun (v:Value) (w:World)=>∃v9,v9=v∧IsQ w v9 rs)]) #[true,true,true,true,true,true,true,true,true,false] (fun _ h=>grown_of h _) (pick_pers (show PersAll _ from ⟨fun _ _ _ b ⟨v5,e,q5⟩=>⟨v5,e,q5.below b⟩,fun _ _ _ b ⟨v6,e,q6⟩=>⟨v6,e,q6.below b⟩,fun _ _ _ b ⟨v7,e,q7⟩=>⟨v7,e,q7.below b⟩,fun _ _ _ b ⟨v8,e,q8⟩=>⟨v8,e,q8.below b⟩,fun _ _ _ b ⟨v9,e,q9⟩=>⟨v9,e,q9.below b⟩,trivial⟩)) (hord_of (by kernel_rfl)) (by kernel_rfl) (by kernel_rfl) (by kernel_rfl) (by kernel_rfl) (fun _ _ _ _ _ h=>h) ?ops1 ?pur1 ?done1 (Below.refl _ _) (Nat.le_of_ble_eq_true (by kernel_rfl))
 case ops1=>
  refine .cons rfl (fun a w zS K hK=>?_) ?_
  ·have q1:=q1.below zS.1
   have q3:=q3.below zS.1
   have e17:=zS.2.1 17 _ (by kernel_rfl) rfl
   have e18:=zS.2.1 18 _ (by kernel_rfl) rfl
   go_simp
   refine (hMu _ _ _ q3 q1).mono ?_
   rintro e w' ⟨v5,rfl,q5,b⟩
   exact hK _ _ ⟨v5,rfl,q5⟩ b
  refine .cons rfl (fun a w zS K hK=>?_) ?_
  ·go_simp
   refine (hO _).mono ?_
   rintro e w' ⟨v6,rfl,q6,b⟩
   exact hK _ _ ⟨v6,rfl,q6⟩ b
  refine .cons rfl (fun a w zS K hK=>?_) ?_
  ·have q3:=q3.below zS.1
   obtain⟨v20,e20,v6,rfl,q6⟩:=zS.2.2 3 20 (by kernel_rfl)
   have e21:=zS.2.1 21 _ (by kernel_rfl) rfl
   go_simp
   refine (hSu _ _ _ q6 q3).mono ?_
   rintro e w' ⟨v7,rfl,q7,b⟩
   exact hK _ _ ⟨v7,rfl,q7⟩ b
  refine .cons rfl (fun a w zS K hK=>?_) ?_
  ·have q2:=q2.below zS.1
   obtain⟨v22,e22,v7,rfl,q7⟩:=zS.2.2 5 22 (by kernel_rfl)
   have e23:=zS.2.1 23 _ (by kernel_rfl) rfl
   go_simp
   refine (hM2 _ _ _ q7 q2).mono ?_
   rintro e w' ⟨v8,rfl,q8,b⟩
   exact hK _ _ ⟨v8,rfl,q8⟩ b
  refine .cons rfl (fun a w zS K hK=>?_) ?_
  ·obtain⟨v19,e19,v5,rfl,q5⟩:=zS.2.2 2 19 (by kernel_rfl)
   obtain⟨v24,e24,v8,rfl,q8⟩:=zS.2.2 7 24 (by kernel_rfl)
   go_simp
   refine (hAd _ _ _ q5 q8).mono ?_
   rintro e w' ⟨v9,rfl,q9,b⟩
   exact hK _ _ ⟨v9,rfl,q9⟩ b
  exact .nil
 case pur1=>
  exact .nil
 case done1=>
  intro fuel a wr2_1 zf zS zdf zsz zs zd
  obtain⟨fuel,rfl⟩:∃n,fuel=n+1:=⟨fuel - 1,by have h:1≤fuel:=Nat.le_trans (Nat.le_of_ble_eq_true (by kernel_rfl)) zf;omega⟩
  clear zf
  replace q1:=q1.b zS
  replace q2:=q2.b zS
  have nhA:=hA.lt
  replace hA:=hA.below zS nhA
  have nhG:=hG.lt
  replace hG:=hG.below zS nhG
  have nhR:=hR.lt
  replace hR:=hR.below zS nhR
  replace q3:=q3.b zS
  have nhV:=hV.lt
  replace hV:=hV.below zS nhV
  obtain⟨v19_,e19_,v5,rfl,q5⟩:=zd 2 19 (by kernel_rfl)
  obtain⟨v20_,e20_,v6,rfl,q6⟩:=zd 3 20 (by kernel_rfl)
  obtain⟨v22_,e22_,v7,rfl,q7⟩:=zd 5 22 (by kernel_rfl)
  obtain⟨v24_,e24_,v8,rfl,q8⟩:=zd 7 24 (by kernel_rfl)
  obtain⟨v25_,e25_,v9,rfl,q9⟩:=zd 8 25 (by kernel_rfl)
  obtain rfl:=act_of [(19,v5),(20,v6),(22,v7),(24,v8),(25,v9)] ⟨e19_,e20_,e22_,e24_,e25_,trivial⟩ zdf zsz (fun s h=>zs s h)
  simp only[putAll,List.set_cons_zero,List.set_cons_succ]
  clear zdf zsz zs zd e19_ e20_ e22_ e24_ e25_
  replace hB:=bOn hB zS
  clear nhA nhG nhR nhV
  obtain⟨s5,A5,L5,C5,D5,M5,E5,rfl,q5⟩:=q5.opn
  obtain⟨s6,A6,L6,C6,D6,M6,E6,rfl,q6⟩:=q6.opn
  obtain⟨s7,A7,L7,C7,D7,M7,E7,rfl,q7⟩:=q7.opn
  obtain⟨s8,A8,L8,C8,D8,M8,E8,rfl,q8⟩:=q8.opn
  obtain⟨s9,A9,L9,C9,D9,M9,E9,rfl,q9⟩:=q9.opn
  have zG:=grown_of zS (some (g+1+1))
  refine rd1 9 rfl fun K hK=>?_
  obtain⟨ws2_9,eu,hR',kz,kb,kB⟩:=fill3 hR (.bool s9) (.slice A9 L9 C9) (.slice D9 M9 E9) (by simp[noU])
  obtain⟨x0,x1,x2⟩:=hR.q3
  have xf:=hR.frozen
  replace zG:=(grown_set (grown_set (grown_set zG (p:=⟨g+1+1,0,none⟩) (.inl rfl) (.bool s9)) (p:=⟨g+1+1,1,none⟩) (.inl rfl) (.slice A9 L9 C9)) (p:=⟨g+1+1,2,none⟩) (.inl rfl) (.slice D9 M9 E9))
  rw[←eu] at zG
  go_simp
  rw[←eu]
  replace q1:=q1.filled kz
  replace q2:=q2.filled kz
  replace hA:=kb _ _ _ hA (by first | assumption | exact Ne.symm (by assumption) | omega)
  replace hG:=kb _ _ _ hG (by first | assumption | exact Ne.symm (by assumption) | omega)
  replace q3:=q3.filled kz
  replace hV:=kb _ _ _ hV (by first | assumption | exact Ne.symm (by assumption) | omega)
  replace q5:=q5.filled kz
  replace q6:=q6.filled kz
  replace q7:=q7.filled kz
  replace q8:=q8.filled kz
  replace q9:=q9.filled kz
  replace hB:=kB _ _ (by omega) hB
  replace hR:=hR'
  clear hR' kz kb kB eu xf x0 x1 x2
  refine hK.out _ _ zG (fun hHeld=>?_)
  clear hK K
  try simp only[lay]
  try dsimp only
  try simp only[Act.put,lay]
  refine wpAnyH_done (by kernel_rfl) ?_ _
  refine NoPanic.normal ?_
  clear zG
  obtain⟨c30,c31,c32⟩:=hA.q3
  obtain⟨c33,c34,c35⟩:=hG.q3
  obtain⟨c36,c37,c38⟩:=hR.q3
  obtain⟨c39,c40,c41⟩:=hV.q3
  go_wp2_with fail
  exact bodyPost_ret (v:= .agg #[.bool s9,.slice A9 L9 C9,.slice D9 M9 E9]) (by simp[results,Tryz.results113,go_sem,c36,c37,c38]) rfl ⟨_,rfl,q9,hB⟩
end Go.Proofs.YtdnjdglekifhpaaGreat
namespace Go.Proofs.YtdnjdglekifhpaaGreat
open Go.RowKit
def ResQ (bad:Bool) (r:Rat) (w:World) (v:Value):Prop:=if bad=true then v= .agg #[.bool false,.slice none 0 0,.slice none 0 0] else IsQ w v r
def ResS (bad:Bool) (a b:Rat) (w:World) (v:Value):Prop:=if bad=true then v= .agg #[.bool false,.slice none 0 0,.slice none 0 0,.bool false,.slice none 0 0,.slice none 0 0] else IsS w v a b
section
variable {bad:Bool} {r a b:Rat} {w w':World} {v:Value}
theorem ResQ.opn (h:ResQ bad r w v):∃s A L C D M E,v= .agg #[.bool s,.slice A L C,.slice D M E]∧ResQ bad r w (.agg #[.bool s,.slice A L C,.slice D M E]):=by
 unfold ResQ at *
 split
 ·rename_i e;rw[if_pos e] at h;exact⟨_,_,_,_,_,_,_,h,rfl⟩
 ·rename_i e;rw[if_neg e] at h;exact h.opn
theorem ResS.opn (h:ResS bad a b w v):∃s A L C D M E t A' L' C' D' M' E',v= .agg #[.bool s,.slice A L C,.slice D M E,.bool t,.slice A' L' C',.slice D' M' E']∧ResS bad a b w (.agg #[.bool s,.slice A L C,.slice D M E,.bool t,.slice A' L' C',.slice D' M' E']):=by
 unfold ResS at *
 split
 ·rename_i e;rw[if_pos e] at h;exact⟨_,_,_,_,_,_,_,_,_,_,_,_,_,_,h,rfl⟩
 ·rename_i e;rw[if_neg e] at h
  obtain⟨s,A,L,C,D,M,E,t,A',L',C',D',M',E',e1,h1,h2⟩:=h.opn
  exact⟨s,A,L,C,D,M,E,t,A',L',C',D',M',E',e1,_,_,_,_,_,_,rfl,h1,h2⟩
end
end Go.Proofs.YtdnjdglekifhpaaGreat
namespace Go.Proofs.YtdnjdglekifhpaaGreat
theorem cmpQ_le_iff (a b:Rat):cmpQ a b≤0↔a≤b:=by
 rw[Rat.le_iff];unfold cmpQ cmpI;(repeat' split)<;>omega
theorem cmpQ_lt_iff (a b:Rat):cmpQ a b<0↔a<b:=by
 rw[Rat.lt_iff];unfold cmpQ cmpI;(repeat' split)<;>omega
theorem num_neg_iff (a:Rat):a.num<0↔a<0:=by
 rw[←Rat.not_le,←Rat.num_nonneg];omega
theorem mul_den (a:Rat):a*(a.den:Rat)=(a.num:Rat):=by
 have h:=Rat.mkRat_eq_div a.num a.den
 rw[Rat.mkRat_self] at h
 have hd:(a.den:Rat)≠0:=by
  have:=a.den_nz
  intro e
  have e2:((a.den:Int):Rat)=((0:Int):Rat):=e
  rw[Rat.intCast_inj] at e2
  omega
 have :a*(a.den:Rat)=(a.num:Rat) / (a.den:Rat)*(a.den:Rat):=by rw[←h]
 rw[this,Rat.div_mul_cancel hd]
theorem den_posQ (a:Rat):(0:Rat)<(a.den:Rat):=by
 have:=a.den_pos
 have h:((0:Int):Rat)<((a.den:Int):Rat):=by rw[Rat.intCast_lt_intCast];omega
 exact h
theorem flr_floor (a:Rat) (k:Nat):flr a k=(a*((2^k:Nat):Rat)).floor:=by
 have key:∀x:Int,x≤flr a k↔x≤(a*((2^k:Nat):Rat)).floor:=by
  intro x
  rw[Rat.le_floor_iff]
  unfold flr
  have hd:=a.den_pos
  rw[Int.le_ediv_iff_mul_le (by omega)]
  have e1:(x:Rat)≤a*((2^k:Nat):Rat)↔(x:Rat)*(a.den:Rat)≤a*((2^k:Nat):Rat)*(a.den:Rat):=
   ⟨fun h=>Rat.mul_le_mul_of_nonneg_right h (Rat.le_of_lt (den_posQ a)),fun h=>Rat.le_of_mul_le_mul_right h (den_posQ a)⟩
  have e2:a*((2^k:Nat):Rat)*(a.den:Rat)=(((a.num*((2^k:Nat):Int)):Int):Rat):=by
   rw[Rat.intCast_mul,←mul_den a]
   have :(((2^k:Nat):Int):Rat)=((2^k:Nat):Rat):=rfl
   rw[this];grind
  have e3:(x:Rat)*(a.den:Rat)=((x*(a.den:Int):Int):Rat):=by rw[Rat.intCast_mul];rfl
  rw[e1,e2,e3,Rat.intCast_le_intCast]
  have e4:((2^k:Nat):Int)=(2:Int)^k:=by simp
  rw[e4]
 have h1:=(key (flr a k)).1 (Int.le_refl _)
 have h2:=(key _).2 (Int.le_refl ((a*((2^k:Nat):Rat)).floor))
 omega
theorem cel_bounds (r:Rat) (k:Nat):r*((2^k:Nat):Rat)≤((cel r k:Int):Rat)∧((cel r k:Int):Rat)<r*((2^k:Nat):Rat)+1:=by
 have e:cel r k= -((-r)*((2^k:Nat):Rat)).floor:=by unfold cel;rw[flr_floor]
 have h1:=Rat.floor_le ((-r)*((2^k:Nat):Rat))
 have h2:=Rat.lt_floor_add_one ((-r)*((2^k:Nat):Rat))
 generalize ((-r)*((2^k:Nat):Rat)).floor=f at *
 rw[e,Rat.intCast_neg]
 rw[Rat.intCast_add] at h2
 have h3:((1:Int):Rat)=1:=rfl
 rw[h3] at h2
 generalize ((2^k:Nat):Rat)=P at *
 generalize (f:Rat)=F at *
 constructor<;>grind
theorem powQ_pos (k:Nat):(0:Rat)<((2^k:Nat):Rat):=by
 have h:((0:Int):Rat)<(((2^k:Nat):Int):Rat):=by rw[Rat.intCast_lt_intCast];have:=Nat.pow_pos (n:=k) (show 0<2 by omega);omega
 exact h
theorem mkP_mul (z:Int) (k:Nat):mkRat z (2^k)*((2^k:Nat):Rat)=(z:Rat):=by
 rw[Rat.mkRat_eq_div,Rat.div_mul_cancel]
 have:=powQ_pos k
 intro e;rw[e] at this;exact absurd this (by decide)
theorem stepP (k:Nat):0<mkRat 1 (2^k)∧mkRat 1 (2^k)*((2^k:Nat):Rat)=1:=by
 have h1:=mkP_mul 1 k
 have h2:((1:Int):Rat)=1:=rfl
 rw[h2] at h1
 refine ⟨?_,h1⟩
 have hP:=powQ_pos k
 have :(0:Rat)*((2^k:Nat):Rat)<mkRat 1 (2^k)*((2^k:Nat):Rat):=by rw[h1,Rat.zero_mul];decide
 exact Rat.lt_of_mul_lt_mul_right this (Rat.le_of_lt hP)
theorem man_nonneg {beta:Int} (k:Nat) (h:0≤beta):0≤mkRat beta (2^k):=by
 rw[←Rat.divInt_ofNat]
 exact Rat.divInt_nonneg h (Int.natCast_nonneg _)
theorem divQ_eq (a b:Rat) (hb:0<b):divQ a b=a / b:=by
 have hn:0<b.num:=by
  have h1:¬b.num<0:=by rw[num_neg_iff,Rat.not_lt];exact Rat.le_of_lt hb
  have h2:b.num≠0:=fun e=>by
   rw[Rat.num_eq_zero] at e;rw[e] at hb;exact absurd hb (by decide)
  omega
 unfold divQ
 rw[decide_eq_false (by omega)]
 have hs:sided false b.den=(b.den:Int):=by simp[sided]
 rw[hs,Rat.div_def]
 have e1:b⁻¹=mkRat b.den b.num.natAbs:=by
  rw[Rat.inv_def,←Rat.divInt_ofNat]
  congr 1
  omega
 rw[e1]
 have e2:a=mkRat a.num a.den:=(Rat.mkRat_self a).symm
 conv=>rhs;rw[e2]
 rw[Rat.mkRat_mul_mkRat]
theorem absQ_abs (a:Rat):absQ a=if a<0 then -a else a:=by
 unfold absQ
 by_cases h:a.num<0
 ·rw[if_pos h,if_pos ((num_neg_iff a).1 h)]
 ·rw[if_neg h,if_neg (fun e=>h ((num_neg_iff a).2 e))]
theorem steps_le (n:Int) (k:Nat) (r a:Rat):stepsQ n k r≤a↔mkRat n (2^k) - r≤a*mkRat 1 (2^k)∧r - mkRat n (2^k)≤a*mkRat 1 (2^k):=by
 obtain⟨h1,_⟩:=stepP k
 unfold stepsQ
 rw[divQ_eq _ _ h1,absQ_abs]
 generalize mkRat 1 (2^k)=st at *
 generalize mkRat n (2^k)=x at *
 have e:∀u:Rat,u / st≤a↔u≤a*st:=fun u=>by
  have hs:st≠0:=fun e=>by rw[e] at h1;exact absurd h1 (by decide)
  constructor
  ·intro h
   have:=Rat.mul_le_mul_of_nonneg_right h (Rat.le_of_lt h1)
   rwa [Rat.div_mul_cancel hs] at this
  ·intro h
   refine Rat.le_of_mul_le_mul_right (c:=st) ?_ h1
   rwa [Rat.div_mul_cancel hs]
 rw[e]
 split
 ·constructor
  ·intro h;constructor<;>grind
  ·intro ⟨h,h'⟩;grind
 ·constructor
  ·intro h;constructor<;>grind
  ·intro ⟨h,h'⟩;grind
theorem next_up (beta:Int) (k:Nat) (a m:Rat):¬(nextQ beta k a m - (mkRat beta (2^k)*a+m)).num<0∧cmpQ (nextQ beta k a m - (mkRat beta (2^k)*a+m)) (mkRat 1 1048576)<0:=by
 rw[num_neg_iff,Rat.not_lt,cmpQ_lt_iff]
 unfold nextQ
 generalize mkRat beta (2^k)*a+m=r
 obtain⟨h1,h2⟩:=cel_bounds r 20
 have e1:=mkP_mul (cel r 20) 20
 rw[←e1] at h1 h2
 have hs:=stepP 20
 have e3:(2^20:Nat)=1048576:=by decide
 rw[show mkRat 1 1048576=mkRat 1 (2^20) by rw[e3]]
 generalize mkRat (cel r 20) (2^20)=x at *
 obtain⟨hs1,hs2⟩:=hs
 have hP:=powQ_pos 20
 generalize mkRat 1 (2^20)=st at *
 generalize ((2^20:Nat):Rat)=P at *
 have h3:r≤x:=Rat.le_of_mul_le_mul_right h1 hP
 have h4:x<r+st:=by
  refine Rat.lt_of_mul_lt_mul_right (c:=P) ?_ (Rat.le_of_lt hP)
  rw[Rat.add_mul,hs2];exact h2
 constructor<;>grind
open Go.RowKit
def Rk (w:World) (r:Nat) (f e:Int):Prop:=w.heap[r]?=some (.cells #[.int .i64 f,.int .i64 e] 185 (0,0))
section
variable {w w':World} {r:Nat} {f e:Int}
theorem Rk.lt (h:Rk w r f e):r<w.heap.size:=by
 rcases Nat.lt_or_ge r w.heap.size with hlt | hge
 ·exact hlt
 ·unfold Rk at h;rw[Array.getElem?_eq_none hge] at h;cases h
end
attribute [local go_sem ↓] Go.wp_at_zero Go.wp_at_succ
def Wk (w:World) (G r:Nat) (lr mu wd:Int) (nest:Bool):Prop:=w.heap[G]?=some (.cells #[.pointer (some ⟨r,0,none⟩),.int .i64 lr,.int .i64 mu,.int .i64 wd,.bool nest] 187 (0,0))
section
variable {w w':World} {G r:Nat} {lr mu wd:Int} {nest:Bool}
theorem Wk.lt (h:Wk w G r lr mu wd nest):G<w.heap.size:=by
 rcases Nat.lt_or_ge G w.heap.size with hlt | hge
 ·exact hlt
 ·unfold Wk at h;rw[Array.getElem?_eq_none hge] at h;cases h
theorem Wk.cells (h:Wk w G r lr mu wd nest):w.cell? ⟨G,0,none⟩=some (.pointer (some ⟨r,0,none⟩))∧w.cell? ⟨G,1,none⟩=some (.int .i64 lr)∧w.cell? ⟨G,2,none⟩=some (.int .i64 mu)∧w.cell? ⟨G,3,none⟩=some (.int .i64 wd):=
 ⟨cell_of_row w G 0 _ _ _ h,cell_of_row w G 1 _ _ _ h,cell_of_row w G 2 _ _ _ h,cell_of_row w G 3 _ _ _ h⟩
theorem Wk.nest_ (h:Wk w G r lr mu wd nest):w.cell? ⟨G,4,none⟩=some (.bool nest):=cell_of_row w G 4 _ _ _ h
theorem Wk.only (h:Wk w G r lr mu wd nest) (hg:w.grownBy w' (some r)) (hne:G≠r):Wk w' G r lr mu wd nest:=(hg.block G h.lt (fun e=>hne (by injection e))).trans h
end
end Go.Proofs.YtdnjdglekifhpaaGreat
namespace Go.Proofs.YtdnjdglekifhpaaGreat
open Go.RowKit
section
variable {w w':World} {l:List Int}
def ArrI (w:World) (v:Value) (l:List Int):Prop:=∃g n,v= .slice (some ⟨g,0,none⟩) n n∧l.length=n∧n≤9223372036854775807∧IArr w g l
theorem ArrI.is {v:Value} (h:ArrI w v l):IsI w v l:=by
 obtain⟨g,n,rfl,rfl,h2,h3⟩:=h
 exact h3.isI h2
theorem ArrI.below {v:Value} (h:ArrI w v l) (hb:Below w.heap.size w w'):ArrI w' v l:=by
 obtain⟨g,n,e,h1,h2,h3⟩:=h
 exact⟨g,n,e,h1,h2,h3.below hb h3.lt⟩
end
end Go.Proofs.YtdnjdglekifhpaaGreat
namespace Go.Proofs.YtdnjdglekifhpaaGreat
open Go.RowKit
abbrev ArrI.b:= @ArrI.below
end Go.Proofs.YtdnjdglekifhpaaGreat
namespace Go.Proofs.YtdnjdglekifhpaaGreat
open Go.RowKit
attribute [local go_sem ↓] Go.wp_at_zero Go.wp_at_succ
def outTo (g:Nat→Int) (k n:Nat):List Int:=(List.range n).map fun i=>if i<k then g i else 0
theorem outTo_len (g:Nat→Int) (k n:Nat):(outTo g k n).length=n:=by simp[outTo]
theorem outTo_zero (g:Nat→Int) (n:Nat):outTo g 0 n=List.replicate n 0:=by
 unfold outTo;rw[List.eq_replicate_iff];simp
theorem outTo_set (g:Nat→Int) (k n:Nat):(outTo g k n).set k (g k)=outTo g (k+1) n:=by
 apply List.ext_getElem (by simp[outTo])
 intro i h1 h2
 simp only[outTo,List.length_map,List.length_range,List.length_set] at h1 h2
 rw[List.getElem_set]
 simp only[outTo,List.getElem_map,List.getElem_range]
 by_cases h:k=i
 ·subst h;simp
 ·rw[if_neg h]
  by_cases h3:i<k
  ·rw[if_pos h3,if_pos (by omega)]
  ·rw[if_neg h3,if_neg (by omega)]
theorem outTo_all (g:Nat→Int) (n:Nat):outTo g n n=(List.range n).map g:=by
 unfold outTo;apply List.map_congr_left;intro i hi;rw[if_pos (by simpa using hi)]
def StepT (w:World) (BO BW BM R B n cW cM cG:Nat) (lr mu wd:Int) (nest:Bool) (adW adM adG:Addr) (vV:Value) (k:Nat) (a b c:Int):Prop:=
 Wk w (R+1) R lr mu wd nest∧Blk w BO 64 #[.slice (some ⟨BW,0,none⟩) n n,.slice (some ⟨BM,0,none⟩) n n,.slice none 0 0,.slice none 0 0]∧
 Blk w (B+1) 64 #[.slice (some adW) n cW,.slice (some adM) n cM,vV,.slice (some adG) n cG]∧
 w.cell? (adW.add k)=some (.int .i64 a)∧w.cell? (adM.add k)=some (.int .i64 b)∧w.cell? (adG.add k)=some (.int .i64 c)
section
variable {w w':World} {BO BW BM R B n cW cM cG:Nat} {lr mu wd:Int} {nest:Bool} {adW adM adG:Addr} {vV:Value} {k:Nat} {a b c:Int}
theorem StepT.cells (h:StepT w BO BW BM R B n cW cM cG lr mu wd nest adW adM adG vV k a b c):
 w.cell? ⟨BO,0,none⟩=some (.slice (some ⟨BW,0,none⟩) n n)∧w.cell? ⟨BO,1,none⟩=some (.slice (some ⟨BM,0,none⟩) n n)∧
 w.cell? ⟨R+1,0,none⟩=some (.pointer (some ⟨R,0,none⟩))∧w.cell? ⟨R+1,1,none⟩=some (.int .i64 lr)∧w.cell? ⟨R+1,2,none⟩=some (.int .i64 mu)∧w.cell? ⟨R+1,3,none⟩=some (.int .i64 wd)∧w.cell? ⟨R+1,4,none⟩=some (.bool nest)∧
 w.cell? ⟨B+1,0,none⟩=some (.slice (some adW) n cW)∧w.cell? ⟨B+1,1,none⟩=some (.slice (some adM) n cM)∧w.cell? ⟨B+1,3,none⟩=some (.slice (some adG) n cG)∧
 w.cell? (adW.add k)=some (.int .i64 a)∧w.cell? (adM.add k)=some (.int .i64 b)∧w.cell? (adG.add k)=some (.int .i64 c):=by
 obtain⟨h1,h2,h3,h4,h5,h6⟩:=h
 obtain⟨c0,c1,c2,c3⟩:=h1.cells
 exact⟨h2.cell 0,h2.cell 1,c0,c1,c2,c3,h1.nest_,h3.cell 0,h3.cell 1,h3.cell 3,h4,h5,h6⟩
end
end Go.Proofs.YtdnjdglekifhpaaGreat
namespace Go.Proofs.YtdnjdglekifhpaaGreat
open Go.ChangeShapes Go.WideShapes Go.ChangeAt Go.RowKit Go.Joins
def AllIn (l:List Int):Prop:=∀i,In64 (iat l i)
theorem wf_i64 {n:Int} (h:(Lit.int .i64 n).wf=true):In64 n:=by
 have h1:IntKind.i64.min= -9223372036854775808:=rfl
 have h2:IntKind.i64.max=9223372036854775807:=rfl
 simp only[Lit.wf,Bool.and_eq_true,decide_eq_true_eq] at h
 unfold In64
 omega
theorem AllIn.of_mem {l:List Int} (h:∀x∈l,In64 x):AllIn l:=by
 intro i
 by_cases hi:i<l.length
 ·exact h _ (iat_mem hi)
 ·unfold iat;rw[List.getElem?_eq_none (by omega)];unfold In64;simp
theorem AllIn.mem {l:List Int} (h:AllIn l) {x:Int} (hx:x∈l):In64 x:=by
 obtain⟨i,hi,rfl⟩:=List.getElem_of_mem hx
 have:=h i
 unfold iat at this;rwa [List.getElem?_eq_getElem hi] at this
theorem AllIn.nil:AllIn []:=AllIn.of_mem (by simp)
end Go.Proofs.YtdnjdglekifhpaaGreat
namespace Go.Proofs.YtdnjdglekifhpaaGreat
theorem iat_map (g:Nat→Int) (n i:Nat) (h:i<n):iat ((List.range n).map g) i=g i:=by unfold iat;simp[h]
theorem rne_near (x D:Nat) (hD:0<D):2*((rne x D:Int)*D - x).natAbs≤D:=by
 have e:=Nat.div_add_mod x D
 have hr:=Nat.mod_lt x hD
 unfold rne
 split
 ·rename_i h
  have :((x / D+1:Nat):Int)*D=((D*(x / D):Nat):Int)+D:=by rw[Nat.mul_comm];simp[Int.add_mul]
  rw[this];omega
 ·rename_i h
  have :((x / D:Nat):Int)*D=((D*(x / D):Nat):Int):=by rw[Nat.mul_comm];simp
  rw[this];omega
theorem mulZ_near (a b:Int) (k:Nat):2*(mulZ a b k*((2^k:Nat):Int) - a*b).natAbs≤2^k:=by
 have h:=rne_near (a.natAbs*b.natAbs) (2^k) (Nat.pow_pos (by omega))
 have e:=mul_sided a b
 rw[←e]
 unfold mulZ
 generalize rne (a.natAbs*b.natAbs) (2^k)=m at *
 generalize a.natAbs*b.natAbs=x at *
 generalize (2^k:Nat)=D at *
 cases (decide (a<0) != decide (b<0))
 ·simpa [sided] using h
 ·simp only[sided,if_true,Int.neg_mul]
  omega
def far2 (n:Int) (r:Rat) (k:Nat):Int:=cmpQ (absQ (mkRat n (2^k) - r)+absQ (mkRat n (2^k) - r)) (mkRat 1 (2^k))
theorem mk_int (z:Int) (k:Nat):mkRat z (2^k)=(z:Rat)*mkRat 1 (2^k):=by
 rw[Rat.mkRat_eq_div,Rat.mkRat_eq_div]
 have h:((1:Int):Rat)=1:=rfl
 rw[h];grind
theorem mulQ_near (a b:Int) (k:Nat):2*(((mulZ a b k:Int):Rat) - (a:Rat)*(b:Rat)*mkRat 1 (2^k))≤1∧2*((a:Rat)*(b:Rat)*mkRat 1 (2^k) - ((mulZ a b k:Int):Rat))≤1:=by
 have h:=mulZ_near a b k
 obtain⟨s1,s2⟩:=stepP k
 generalize mkRat 1 (2^k)=st at *
 generalize mulZ a b k=m at *
 have hP:(((2^k:Nat):Int):Rat)=((2^k:Nat):Rat):=rfl
 generalize (2^k:Nat)=P at *
 have key:∀u:Int,u≤(((m*(P:Int) - a*b).natAbs:Nat):Int)→((2*u:Int):Rat)*st≤1:=by
  intro u hu
  have h1:((2*u:Int):Rat)≤((P:Int):Rat):=by rw[Rat.intCast_le_intCast];omega
  have:=Rat.mul_le_mul_of_nonneg_right h1 (Rat.le_of_lt s1)
  rw[hP] at this
  rw[Rat.mul_comm] at s2
  grind
 have k1:=key (m*(P:Int) - a*b) (by omega)
 have k2:=key (a*b - m*(P:Int)) (by omega)
 have p2:((2:Int):Rat)=2:=rfl
 rw[Rat.intCast_mul,Rat.intCast_sub,Rat.intCast_mul,Rat.intCast_mul,hP,p2] at k1 k2
 generalize (P:Rat)=Q at *
 generalize (m:Rat)=m' at *
 generalize (a:Rat)=a' at *
 generalize (b:Rat)=b' at *
 have e:m'*Q*st=m':=by rw[Rat.mul_assoc,Rat.mul_comm Q,s2,Rat.mul_one]
 constructor<;>grind
theorem next_ge (beta:Int) (k:Nat) (B m:Rat):mkRat beta (2^k)*B+m≤nextQ beta k B m:=by
 have hn:=(next_up beta k B m).1
 rw[num_neg_iff,Rat.not_lt] at hn
 grind
def Kept (v m:Int) (q:Rat):Prop:=(v:Rat) - (m:Rat)≤q∧(m:Rat) - (v:Rat)≤q
theorem first_on {b V g v:Int} {k:Nat} {R B q:Rat} (h0:0≤b) (h:stepsQ V k R≤B) (hv:Kept v (mulZ b V k+mulZ ((2^k:Nat) - b) g k) q):
 stepsQ v k (mkRat b (2^k)*R+(1 - mkRat b (2^k))*mkRat g (2^k))≤nextQ b k B (q+mkRat 2 2):=by
 have hn:=next_ge b k B (q+mkRat 2 2)
 have hm:=mulQ_near b V k
 have hg:=mulQ_near ((2^k:Nat) - b) g k
 have hh:mkRat 2 2=1:=by decide+kernel
 have ha:=man_nonneg k h0
 rw[steps_le] at *
 obtain⟨s1,s2⟩:=stepP k
 obtain⟨v1,v2⟩:=hv
 obtain⟨m1,m2⟩:=hm
 obtain⟨g1,g2⟩:=hg
 obtain⟨h1,h2⟩:=h
 rw[hh] at hn ⊢
 generalize nextQ b k B (q+1)=N at *
 rw[mk_int b,mk_int V] at *
 rw[mk_int g,mk_int v]
 rw[Rat.intCast_add] at v1 v2
 rw[Rat.intCast_sub] at g1 g2
 have hP:(((2^k:Nat):Int):Rat)=((2^k:Nat):Rat):=rfl
 rw[hP] at g1 g2
 generalize ((2^k:Nat):Rat)=P at *
 generalize mulZ ((2^k:Nat) - b) g k=n at *
 generalize mkRat 1 (2^k)=st at *
 generalize mulZ b V k=m at *
 have s0:=Rat.le_of_lt s1
 have f1:=Rat.mul_le_mul_of_nonneg_right v1 s0
 have f1':=Rat.mul_le_mul_of_nonneg_right v2 s0
 have f2:=Rat.mul_le_mul_of_nonneg_right m1 s0
 have f2':=Rat.mul_le_mul_of_nonneg_right m2 s0
 have f5:=Rat.mul_le_mul_of_nonneg_right g1 s0
 have f5':=Rat.mul_le_mul_of_nonneg_right g2 s0
 have f3:=Rat.mul_le_mul_of_nonneg_left h1 ha
 have f3':=Rat.mul_le_mul_of_nonneg_left h2 ha
 have f4:=Rat.mul_le_mul_of_nonneg_right hn s0
 generalize (b:Rat)=a at *
 generalize (V:Rat)=x at *
 generalize (g:Rat)=y at *
 generalize (v:Rat)=z at *
 generalize (m:Rat)=u at *
 generalize (n:Rat)=t at *
 have e6:P*y*st*st=y*st:=by
  have :P*y*st*st=st*P*(y*st):=by grind
  rw[this,s2,Rat.one_mul]
 clear s2 hh ha v1 v2 m1 m2 h1 h2 hn s0 s1 g1 g2
 constructor<;>grind
theorem second_on {b V g v:Int} {k:Nat} {R B q:Rat} (h0:0≤b) (hb:b≤(2^k:Nat)) (h:stepsQ V k R≤B) (hv:Kept v (mulZ b V k+mulZ ((2^k:Nat) - b) (mulZ g g k) k) q):
 stepsQ v k (mkRat b (2^k)*R+(1 - mkRat b (2^k))*(mkRat g (2^k)*mkRat g (2^k)))≤nextQ b k B (q+mkRat 3 2):=by
 have hn:=next_ge b k B (q+mkRat 3 2)
 have hm:=mulQ_near b V k
 have hg:=mulQ_near ((2^k:Nat) - b) (mulZ g g k) k
 have hq:=mulQ_near g g k
 have hh:mkRat 3 2=1+1 / 2:=by decide+kernel
 have ha:=man_nonneg k h0
 have hc:=man_nonneg (beta:=(2^k:Nat) - b) k (by omega)
 rw[mk_int,Rat.intCast_sub] at hc
 rw[steps_le] at *
 obtain⟨s1,s2⟩:=stepP k
 obtain⟨v1,v2⟩:=hv
 obtain⟨m1,m2⟩:=hm
 obtain⟨g1,g2⟩:=hg
 obtain⟨q1,q2⟩:=hq
 obtain⟨h1,h2⟩:=h
 rw[hh] at hn ⊢
 generalize nextQ b k B (q+(1+1 / 2))=N at *
 rw[mk_int b,mk_int V] at *
 rw[mk_int g,mk_int v]
 rw[Rat.intCast_add] at v1 v2
 rw[Rat.intCast_sub] at g1 g2
 have hP:(((2^k:Nat):Int):Rat)=((2^k:Nat):Rat):=rfl
 rw[hP] at g1 g2 hc
 generalize ((2^k:Nat):Rat)=P at *
 generalize mulZ ((2^k:Nat) - b) (mulZ g g k) k=n at *
 generalize mulZ g g k=r at *
 generalize mkRat 1 (2^k)=st at *
 generalize mulZ b V k=m at *
 have s0:=Rat.le_of_lt s1
 have f1:=Rat.mul_le_mul_of_nonneg_right v1 s0
 have f1':=Rat.mul_le_mul_of_nonneg_right v2 s0
 have f2:=Rat.mul_le_mul_of_nonneg_right m1 s0
 have f2':=Rat.mul_le_mul_of_nonneg_right m2 s0
 have f5:=Rat.mul_le_mul_of_nonneg_right g1 s0
 have f5':=Rat.mul_le_mul_of_nonneg_right g2 s0
 have f6:=Rat.mul_le_mul_of_nonneg_right (Rat.mul_le_mul_of_nonneg_left q1 hc) s0
 have f6':=Rat.mul_le_mul_of_nonneg_right (Rat.mul_le_mul_of_nonneg_left q2 hc) s0
 have f3:=Rat.mul_le_mul_of_nonneg_left h1 ha
 have f3':=Rat.mul_le_mul_of_nonneg_left h2 ha
 have f4:=Rat.mul_le_mul_of_nonneg_right hn s0
 have f7:=Rat.mul_le_mul_of_nonneg_right ha s0
 generalize (b:Rat)=a at *
 generalize (V:Rat)=x at *
 generalize (g:Rat)=y at *
 generalize (v:Rat)=z at *
 generalize (m:Rat)=u at *
 generalize (n:Rat)=t at *
 generalize (r:Rat)=c at *
 have e6:P*y*y*st*st*st=y*y*st*st:=by
  have :P*y*y*st*st*st=st*P*(y*y*st*st):=by grind
  rw[this,s2,Rat.one_mul]
 have e7:P*st*st=st:=by
  have :P*st*st=st*P*st:=by grind
  rw[this,s2,Rat.one_mul]
 clear s2 hh ha v1 v2 m1 m2 h1 h2 hn s0 s1 g1 g2 q1 q2 hc
 constructor<;>grind
theorem partZ_flat (z:Nat) (l:List Int):∀N,(List.range N).flatMap (partZ z l)=l.take (N*z)
 | 0=>by simp
 | N + 1 => by
   rw[List.range_succ,List.flatMap_append,partZ_flat z l N,List.flatMap_cons,List.flatMap_nil,List.append_nil,Nat.succ_mul,List.take_add]
   rfl
theorem partN_all {z n:Nat} (hz:1≤z):n≤partN z n*z:=by
 rcases Nat.lt_or_ge (partN z n*z) n with h | h
 ·exact absurd ((partN_lt hz).2 h) (Nat.lt_irrefl _)
 ·exact h
theorem partZ_at (z:Nat) (l:List Int) (i j:Nat) (hj:j<z):(partZ z l i)[j]?=l[i*z+j]?:=by
 unfold partZ
 rw[List.getElem?_take,if_pos hj,List.getElem?_drop]
theorem mayB_iff {k z m o:Int}:mayB k z m o=true↔(0≤k∧k≤3∧1≤z∧z≤4096∧0≤m∧0≤o):=by unfold mayB;exact decide_eq_true_iff
section
variable {k z m o:Int} {l:List Int}
theorem ofE_zero (h:ofE k z m o l=0):mayB k z m o=true∧l.length≤4096∧oddTo k z m o l (partN z.toNat l.length)=false:=by
 unfold ofE at h
 by_cases h1:mayB k z m o=true
 ·rw[if_pos h1] at h
  by_cases h2:l.length≤4096
  ·rw[if_pos h2] at h
   cases h3:oddTo k z m o l (partN z.toNat l.length)
   ·exact⟨h1,h2,rfl⟩
   ·rw[h3,if_pos rfl] at h;omega
  ·rw[if_neg h2] at h;omega
 ·rw[if_neg h1] at h;omega
theorem ofE_cases (h4:l.length≤4096):ofE k z m o l=0∨ofE k z m o l=1:=by
 unfold ofE
 rw[if_pos h4]
 split
 ·split
  ·exact .inr rfl
  ·exact .inl rfl
 ·exact .inr rfl
theorem ofE_ok (h1:mayB k z m o=true) (h2:l.length≤4096) (h3:oddTo k z m o l (partN z.toNat l.length)=false):ofE k z m o l=0:=by
 unfold ofE;rw[if_pos h1,if_pos h2,h3];rfl
theorem odd_part (h:oddTo k z m o l (partN z.toNat l.length)=false) {i:Nat} (hi:i<partN z.toNat l.length):oddP (kindOf k m o l.length (partZ z.toNat l i)) (partZ z.toNat l i)=false:=by
 unfold oddTo at h
 rw[List.any_eq_false] at h
 have:=h i (List.mem_range.2 hi)
 simpa using this
theorem oddP_min {kk:Int} {p:List Int} (h:oddP kk p=false):∀x∈p,x≠ -9223372036854775808:=by
 intro x hx e
 unfold oddP at h
 rw[List.any_eq_false] at h
 have:=h x hx
 rw[e] at this
 simp[oddB] at this
theorem kindOf_or (n:Nat) (p:List Int):(kindOf k m o n p=4∧staysB m o n (greatW p)=true)∨(kindOf k m o n p=k∧staysB m o n (greatW p)=false):=by
 unfold kindOf
 cases staysB m o n (greatW p)
 ·exact .inr ⟨if_neg (by decide),rfl⟩
 ·exact .inl ⟨if_pos rfl,rfl⟩
theorem toNat_kind (h:mayB k z m o=true):∃n:Nat,k=n∧n<4:=by
 obtain⟨h0,h1,_⟩:=mayB_iff.1 h
 exact⟨k.toNat,by omega,by omega⟩
theorem bk_good (h:mayB k z m o=true) {n:Nat} {p:List Int} (hi:∀x∈p,I64 x) (hl:p.length≤4096) (ho:oddP (kindOf k m o n p) p=false):
 bkR (bkOf (kindOf k m o n p) p)=true∧bkLen (bkOf (kindOf k m o n p) p)=p.length∧
 ((bkOf (kindOf k m o n p) p).1=if staysB m o n (if (bkOf (kindOf k m o n p) p).1=4 then greatW (bkOf (kindOf k m o n p) p).2.2.2 else (bkOf (kindOf k m o n p) p).2.1)=true then 4 else k)∧
 (bkNums (bkOf (kindOf k m o n p) p)).length=p.length∧great (bkNums (bkOf (kindOf k m o n p) p))≤great p:=by
 obtain⟨K,rfl,hK⟩:=toNat_kind h
 have hm:=oddP_min ho
 rcases kindOf_or (k:=(K:Int)) (m:=m) (o:=o) n p with ⟨e,e2⟩ | ⟨e,e2⟩
 ·rw[e] at ho ⊢
  have hb:bkOf 4 p=(4,0,[],p):=if_pos rfl
  rw[hb]
  have ho':p.any (oddB true)=false:=ho
  refine ⟨wide_right hl ho',by simp[bkLen],?_,?_,?_⟩
  ·rw[if_pos rfl,e2,if_pos rfl]
  ·simp[bkNums]
  ·simp[bkNums]
 ·rw[e] at ho ⊢
  have h4:(K:Int)≠4:=by omega
  have hb:bkOf K p=((K:Int),great p,packC K p,[]):=if_neg h4
  have ho':p.any (oddB (sgn (K:Nat)))=false:=by
   have e4:((K:Int) == 4)=false:=by rw[beq_eq_false_iff_ne];exact h4
   unfold oddP at ho
   rw[e4,Bool.false_or] at ho
   exact ho
  rw[hb]
  refine ⟨packed_right hK hl ho',by simp[bkLen,packC_len],?_,?_,?_⟩
  ·simp only
   rw[if_neg h4,←greatW_eq hi hm,e2];rfl
  ·simp only[bkNums]
   rw[if_neg h4];simp[loadC,packC_len]
  ·simp only[bkNums]
   rw[if_neg h4]
   exact (load_great hK ho').1
theorem size_of (h:mayB k z m o=true):∃Z:Nat,z=Z∧1≤Z∧Z≤4096:=by
 obtain⟨_,_,h1,h2,_⟩:=mayB_iff.1 h
 exact⟨z.toNat,by omega,by omega,by omega⟩
theorem load_of (_h:ofE k z m o l=0):loadS (bksTo k z m o l (partN z.toNat l.length))=(List.range (partN z.toNat l.length)).flatMap fun i=>bkNums (bkOf (kindOf k m o l.length (partZ z.toNat l i)) (partZ z.toNat l i)):=by
 unfold loadS bksTo;rw[List.flatMap_map]
theorem load_parts (hi:∀x∈l,I64 x) (h:ofE k z m o l=0) {i:Nat} (hi':i<partN z.toNat l.length):
 (bkNums (bkOf (kindOf k m o l.length (partZ z.toNat l i)) (partZ z.toNat l i))).length=(partZ z.toNat l i).length∧great (bkNums (bkOf (kindOf k m o l.length (partZ z.toNat l i)) (partZ z.toNat l i)))≤great (partZ z.toNat l i):=by
 obtain⟨h1,h2,h3⟩:=ofE_zero h
 obtain⟨Z,rfl,z1,z2⟩:=size_of h1
 have ho:=odd_part h3 hi'
 rw[Int.toNat_natCast] at *
 have hpl:=partZ_len Z l i
 obtain⟨_,_,_,g4,g5⟩:=bk_good h1 (n:=l.length) (p:=partZ Z l i) (fun x hx=>hi x (partZ_mem hx)) (by omega) ho
 exact⟨g4,g5⟩
theorem load_great_of (hi:∀x∈l,I64 x) (h:ofE k z m o l=0):great (loadS (ofS k z m o l).2.2.2.2.2)≤great l:=by
 unfold ofS
 rw[if_pos h]
 simp only
 rw[load_of h]
 refine great_le (great_nonneg l) fun x hx=>?_
 obtain⟨i,hi',hx⟩:=List.mem_flatMap.1 hx
 have h1:=great_mem hx
 have h2:=(load_parts hi h (List.mem_range.1 hi')).2
 have h3:great (partZ z.toNat l i)≤great l:=great_sub fun y hy=>partZ_mem hy
 omega
theorem of_min (h:ofE k z m o l=0):∀x∈l,x≠ -9223372036854775808:=by
 obtain⟨h1,h2,h3⟩:=ofE_zero h
 obtain⟨Z,rfl,z1,z2⟩:=size_of h1
 intro x hx
 have e:(List.range (partN Z l.length)).flatMap (partZ Z l)=l:=by
  rw[partZ_flat,List.take_of_length_le]
  exact partN_all z1
 rw[←e] at hx
 obtain⟨i,hi',hx⟩:=List.mem_flatMap.1 hx
 have ho:=odd_part h3 (by rw[Int.toNat_natCast];exact List.mem_range.1 hi')
 rw[Int.toNat_natCast] at ho
 exact oddP_min ho x hx
end
open Go.RowKit
attribute [local go_sem ↓] Go.wp_at_zero Go.wp_at_succ
def LongB (bs:List Bk):Prop:=∀b∈bs,b.2.2.1.length≤140737488351232∧b.2.2.2.length≤17592186044416
end Go.Proofs.YtdnjdglekifhpaaGreat
