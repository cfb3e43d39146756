/- A part of the proof of: The live question of layer 20. Printed by gen_alive20.py. -/
import Derived.Deep.RegionHeld3
import Derived.Maps.AppendAt
import Derived.Deep.AppendLies
import Derived.Deep.DeepMust
import Derived.Laws.Shifts
import Derived.Laws.BitsAllLaws
import Derived.Laws.BitsLemmas
import Derived.Outline
import Derived.Deep.CutBlock
import Derived.Deep.DeepCutAuto
import Derived.WalkMore
import Derived.RangeFuncWrites
import Derived.Lib.SliceRun
import Derived.RangeFuncNested
import Derived.RangeFuncBound
import Derived.RangeFuncCalls
import Derived.RangeFuncLeaves
import Derived.Shelf.Abstract
import Derived.Shelf.RegionOpen
import Derived.OwnWalkIn
import Derived.TacticsInMore
import Derived.LoopNIn
import Derived.LoopIn
import Derived.BigQuiet
import Derived.RangeFuncBox
import Derived.RangeFuncFrom
import Derived.Test.YtdnjdglekifhpaaGreatTya
set_option maxRecDepth 100000
set_option maxHeartbeats 8000000
namespace Go.Proofs.YtdnjdglekifhpaaGreat
open Go.RowKit
attribute [local go_sem ↓] Go.wp_at_zero Go.wp_at_succ
theorem rzof_any (n:Int) (h0: -9223372036854775808≤n) (h1:n≤9223372036854775807) (w:World):
 Calls Tryz.prog 76 #[.int .i64 n] w fun e w'=>∃v',e= .returned v'∧IsZ w' v' n∧Below w.heap.size w w':=by
 have hx:n.natAbs<W64:=by unfold W64;omega
 obtain⟨c,hc⟩:∃c,c=sided (decide (n<0)) n.natAbs:=⟨_,rfl⟩
 have KEY:Hid (∀w' v',IsZ w' v' c→IsZ w' v' n):=by
  rw[hc,sided_of];exact fun _ _ h=>h
 have hM:=fun v w hn=>rmade_any (decide (n<0)) v n.natAbs w hn
 rw[←hc] at hM
 clear hc
 obtain⟨W0,hW,hR,hB⟩:=box1 w 30 #[.bool false,.slice none 0 0]
 obtain⟨g,hg⟩:∃g,g=w.heap.size:=⟨_,rfl⟩
 have hW':=Lib.hid (And.intro hW hg)
 rw[←hg] at hR
 clear hW hg
 by_cases hn:n<0
 ·have hO:=fun w=>rof_any n.natAbs hx w
  rw[show (n.natAbs:Int)= -(n+1)+1 from by omega] at hO
  rw[decide_eq_true hn] at hM
  go_enter Tryz.func76,Tryz.ntmps76
  go_wp2_with fail
  rw[←hW'.out.1,←hW'.out.2]
  refine (hO _).mono ?_
  rintro e w1 ⟨v1,rfl,h1,b1⟩
  have hR:=hR.b b1
  have hB:=hB.trans (b1.mono hB.size)
  go_wp2_with fail
  refine (hM _ _ h1).mono ?_
  rintro e w2 ⟨v2,rfl,⟨n2,rfl,h2⟩,b2⟩
  obtain⟨A2,L2,C2,rfl⟩:=h2.frm
  have hR:=hR.b b2
  have hB:=hB.trans (b2.mono hB.size)
  clear hM hO
  obtain⟨p1,p2,p3⟩:=put2 hR (.bool (decide (c<0))) (.slice A2 L2 C2) (by simp[noU]) hB (by rw[hW'.out.2];omega)
  have q0:=hR.cell 0
  have q1:=hR.cell 1
  have z0:=hR.frozen 0
  have z1:=hR.frozen 1
  have P:=Lib.hid (And.intro (KEY.out _ _ (⟨_,rfl,p2 _ _ h2⟩:IsZ _ (.agg #[.bool (decide (c<0)),.slice A2 L2 C2]) _)) (And.intro p3 p1.cells2))
  clear p1 p2 p3
  go_wp2
  obtain⟨P1,P2,P3,P4⟩:=P.out
  exact bodyPost_ret (v:= .agg #[.bool (decide (c<0)),.slice A2 L2 C2]) (by simp[results,Tryz.results76,go_sem,P3,P4]) rfl ⟨_,rfl,P1,P2⟩
 ·have hO:=fun w=>rof_any n.natAbs hx w
  rw[show (n.natAbs:Int)=n from by omega] at hO
  rw[decide_eq_false hn] at hM
  have hn0:0≤n:=by omega
  have hw:IntKind.u64.wrap n=n:=by rw[IntKind.wrap_u64];omega
  go_enter Tryz.func76,Tryz.ntmps76
  go_wp2_with fail
  rw[←hW'.out.1,←hW'.out.2]
  refine (hO _).mono ?_
  rintro e w1 ⟨v1,rfl,h1,b1⟩
  have hR:=hR.b b1
  have hB:=hB.trans (b1.mono hB.size)
  go_wp2_with fail
  refine (hM _ _ h1).mono ?_
  rintro e w2 ⟨v2,rfl,⟨n2,rfl,h2⟩,b2⟩
  obtain⟨A2,L2,C2,rfl⟩:=h2.frm
  have hR:=hR.b b2
  have hB:=hB.trans (b2.mono hB.size)
  clear hM hO
  obtain⟨p1,p2,p3⟩:=put2 hR (.bool (decide (c<0))) (.slice A2 L2 C2) (by simp[noU]) hB (by rw[hW'.out.2];omega)
  have q0:=hR.cell 0
  have q1:=hR.cell 1
  have z0:=hR.frozen 0
  have z1:=hR.frozen 1
  have P:=Lib.hid (And.intro (KEY.out _ _ (⟨_,rfl,p2 _ _ h2⟩:IsZ _ (.agg #[.bool (decide (c<0)),.slice A2 L2 C2]) _)) (And.intro p3 p1.cells2))
  clear p1 p2 p3
  go_wp2
  obtain⟨P1,P2,P3,P4⟩:=P.out
  exact bodyPost_ret (v:= .agg #[.bool (decide (c<0)),.slice A2 L2 C2]) (by simp[results,Tryz.results76,go_sem,P3,P4]) rfl ⟨_,rfl,P1,P2⟩
theorem limb1 {n:Nat} (h:n<W64):(limbs n).length≤1∧lat (limbs n) 0=n:=by
 refine ⟨limbs_len_le (by rwa [Nat.pow_one]),?_⟩
 rw[lat_limbs,Nat.pow_zero,Nat.div_one,Nat.mod_eq_of_lt h]
end Go.Proofs.YtdnjdglekifhpaaGreat
namespace Go.Proofs.YtdnjdglekifhpaaGreat
open Go.RowKit
attribute [local go_sem ↓] Go.wp_at_zero Go.wp_at_succ
theorem sided_add_same (s:Bool) (x y:Nat):sided s x+sided s y=sided s (x+y):=by cases s<;>simp[sided]<;>omega
theorem sided_add_ge (s t:Bool) (x y:Nat) (h:s≠t) (hle:y≤x):sided s x+sided t y=sided s (x - y):=by cases s<;>cases t<;>simp[sided] at * <;>omega
theorem sided_add_lt (s t:Bool) (x y:Nat) (h:s≠t) (hlt:x<y):sided s x+sided t y=sided t (y - x):=by cases s<;>cases t<;>simp[sided] at * <;>omega
end Go.Proofs.YtdnjdglekifhpaaGreat
namespace Go.Proofs.YtdnjdglekifhpaaGreat
open Go.RowKit
attribute [local go_sem ↓] Go.wp_at_zero Go.wp_at_succ
def IsQ (w:World) (v:Value) (r:Rat):Prop:=∃pn qn,v= .agg #[.bool (decide (r.num<0)),pn,qn]∧IsN w pn r.num.natAbs∧IsN w qn r.den
theorem IsQ.below {w w':World} {v:Value} {r:Rat} (h:IsQ w v r) (hb:Below w.heap.size w w'):IsQ w' v r:=by
 obtain⟨pn,qn,e,h1,h2⟩:=h;exact⟨pn,qn,e,h1.below hb,h2.below hb⟩
theorem IsN.pos {w:World} {v:Value} {n:Nat} (h:IsN w v n) (h0:0<n):∃A L c,v= .slice A L c∧0<L:=by
 obtain⟨A,L,c,e,hL⟩:=h.open_
 refine ⟨A,L,c,e,?_⟩
 rw[hL];exact List.length_pos_iff.2 (fun e=>by have:=limbs_nil.1 e;omega)
theorem rqmake_any (vp vq:Value) (p:Int) (q:Nat) (w:World) (hp:IsZ w vp p) (hq:IsN w vq q) (sp:Sz p.natAbs 100000) (sq:Sz q 100000) (h0:0<q):
 Calls Tryz.prog 70 #[vp,vq] w fun e w'=>∃v',e= .returned (.tuple #[v',.int .i64 0])∧IsQ w' v' (mkRat p q)∧Below w.heap.size w w':=by
 obtain⟨np,rfl,hp⟩:=hp
 obtain⟨m1,m2,m3⟩:=mk_num p q (by omega)
 have hgp:0<Nat.gcd p.natAbs q:=Nat.gcd_pos_of_pos_right _ h0
 have hG:=fun w hp hq=>gcd_any np vq p.natAbs q w hp hq sp sq
 have hD1:=fun v w hp hg=>divmod_any np v p.natAbs (Nat.gcd p.natAbs q) w hp hg sp (sq.le (Nat.gcd_le_right _ h0)) hgp
 have hD2:=fun v w hp hg=>divmod_any vq v q (Nat.gcd p.natAbs q) w hp hg sq (sq.le (Nat.gcd_le_right _ h0)) hgp
 rw[←m1] at hD1
 rw[←m2] at hD2
 rw[←m3] at *
 generalize mkRat p q=r at *
 generalize Nat.gcd p.natAbs q=d at *
 generalize p.natAbs=x at *
 obtain⟨Aq,Lq,Cq,rfl,hLq⟩:=hq.pos h0
 have hl1:((Lq:Int) == 0)=false:=by simp;omega
 have hl2:decide (Lq=0)=false:=by simp;omega
 clear m1 m2 m3 hLq h0 hgp sp sq
 obtain⟨W0,hW,hT,hB⟩:=box2 w 30 32 #[.bool (decide (r.num<0)),np] #[.bool false,.slice none 0 0,.slice none 0 0]
 obtain⟨g,hg⟩:∃g,g=w.heap.size:=⟨_,rfl⟩
 have hW':=Lib.hid (And.intro hW hg)
 rw[←hg] at hT
 clear hW hg
 have hp:=hp.below hB
 have hq:=hq.below hB
 obtain⟨q00,q01⟩:=hT.1.cells2
 go_enter Tryz.func70,Tryz.ntmps70
 go_wp2_with fail
 rw[←hW'.out.1,←hW'.out.2]
 refine (hG _ hp hq).mono ?_
 rintro e w1 ⟨v1,rfl,h1,b1⟩
 have hT:=hT.b b1
 have hB:=hB.trans (b1.mono hB.size)
 have hp:=hp.below b1
 have hq:=hq.below b1
 obtain⟨q00,q01⟩:=hT.1.cells2
 go_wp2_with fail
 refine (hD1 _ _ hp h1).mono ?_
 rintro e w2 ⟨v2,r2,rfl,h2,hr2,b2⟩
 have hT:=hT.b b2
 have hB:=hB.trans (b2.mono hB.size)
 have h1:=h1.below b2
 have hq:=hq.below b2
 obtain⟨q00,q01⟩:=hT.1.cells2
 go_wp2_with fail
 refine (hD2 _ _ hq h1).mono ?_
 rintro e w3 ⟨v3,r3,rfl,h3,hr3,b3⟩
 have hT:=hT.b b3
 have hB:=hB.trans (b3.mono hB.size)
 have h2:=h2.below b3
 obtain⟨q00,q01⟩:=hT.1.cells2
 have hR:=hT.2
 obtain⟨A2,L2,C2,rfl⟩:=h2.frm
 obtain⟨A3,L3,C3,rfl⟩:=h3.frm
 obtain⟨p1,p2,p3⟩:=put3 hR (.bool (decide (r.num<0))) (.slice A2 L2 C2) (.slice A3 L3 C3) (by simp[noU]) hB (by rw[hW'.out.2];omega)
 have q0:=hR.cell 0
 have z0:=hR.frozen 0
 have q1:=hR.cell 1
 have z1:=hR.frozen 1
 have q2:=hR.cell 2
 have z2:=hR.frozen 2
 have P:=Lib.hid (And.intro (⟨_,_,rfl,p2 _ _ h2,p2 _ _ h3⟩:IsQ _ (.agg #[.bool (decide (r.num<0)),.slice A2 L2 C2,.slice A3 L3 C3]) r) (And.intro p3 p1.cells3))
 clear p1 p2 p3 hG hD1 hD2
 go_wp2
 obtain⟨P1,P2,P3,P4,P5⟩:=P.out
 exact bodyPost_ret (v:= .tuple #[.agg #[.bool (decide (r.num<0)),.slice A2 L2 C2,.slice A3 L3 C3],.int .i64 0]) (by simp[results,Tryz.results70,go_sem,P3,P4,P5]) rfl ⟨_,rfl,P1,P2⟩
theorem rqof_any (n:Int) (h0: -9223372036854775808≤n) (h1:n≤9223372036854775807) (w:World):
 Calls Tryz.prog 39 #[.int .i64 n] w fun e w'=>∃v',e= .returned v'∧IsQ w' v' (n:Rat)∧Below w.heap.size w w':=by
 have hZ:=fun w=>rzof_any n h0 h1 w
 have hO:=fun w=>rof_any 1 (by unfold W64;omega) w
 obtain⟨c,hc⟩:∃c,c=n:=⟨_,rfl⟩
 have KEY:Hid (∀w' b a d,IsN w' a c.natAbs→IsN w' d 1→b=decide (c<0)→IsQ w' (.agg #[.bool b,a,d]) (n:Rat)):=by
  rw[hc];rintro w' b a d h1 h2 rfl;exact⟨a,d,rfl,h1,h2⟩
 have hZ:=fun w=>(show Calls Tryz.prog 76 #[.int .i64 n] w fun e w'=>∃v',e= .returned v'∧IsZ w' v' c∧Below w.heap.size w w' by rw[hc];exact hZ w)
 clear hc
 obtain⟨W0,hW,hR,hB⟩:=box1 w 32 #[.bool false,.slice none 0 0,.slice none 0 0]
 obtain⟨g,hg⟩:∃g,g=w.heap.size:=⟨_,rfl⟩
 have hW':=Lib.hid (And.intro hW hg)
 rw[←hg] at hR
 clear hW hg
 go_enter Tryz.func39,Tryz.ntmps39
 go_wp2_with fail
 rw[←hW'.out.1,←hW'.out.2]
 refine (hZ _).mono ?_
 rintro e w1 ⟨v1,rfl,⟨n1,rfl,h1⟩,b1⟩
 have hR:=hR.b b1
 have hB:=hB.trans (b1.mono hB.size)
 go_wp2_with fail
 refine (hO _).mono ?_
 rintro e w2 ⟨v2,rfl,h2,b2⟩
 have hR:=hR.b b2
 have hB:=hB.trans (b2.mono hB.size)
 have h1:=h1.below b2
 obtain⟨A2,L2,C2,rfl⟩:=h1.frm
 obtain⟨A3,L3,C3,rfl⟩:=h2.frm
 obtain⟨p1,p2,p3⟩:=put3 hR (.bool (decide (c<0))) (.slice A2 L2 C2) (.slice A3 L3 C3) (by simp[noU]) hB (by rw[hW'.out.2];omega)
 have q0:=hR.cell 0
 have z0:=hR.frozen 0
 have q1:=hR.cell 1
 have z1:=hR.frozen 1
 have q2:=hR.cell 2
 have z2:=hR.frozen 2
 have P:=Lib.hid (And.intro (KEY.out _ _ _ _ (p2 _ _ h1) (p2 _ _ h2) rfl) (And.intro p3 p1.cells3))
 clear p1 p2 p3 hZ hO
 go_wp2
 obtain⟨P1,P2,P3,P4,P5⟩:=P.out
 exact bodyPost_ret (v:= .agg #[.bool (decide (c<0)),.slice A2 L2 C2,.slice A3 L3 C3]) (by simp[results,Tryz.results39,go_sem,P3,P4,P5]) rfl ⟨_,rfl,P1,P2⟩
end Go.Proofs.YtdnjdglekifhpaaGreat
namespace Go.Proofs.YtdnjdglekifhpaaGreat
open Go.RowKit
abbrev IsQ.b:= @IsQ.below
end Go.Proofs.YtdnjdglekifhpaaGreat
namespace Go.Proofs.YtdnjdglekifhpaaGreat
open Go.RowKit
section
variable {w W w':World} {v:Value} {z:Int} {n:Nat} {r:Rat} {l:List Nat}
theorem IsN.opn (h:IsN w v n):∃A L C,v= .slice A L C∧IsN w (.slice A L C) n:=by
 obtain⟨A,L,C,rfl⟩:=h.frm;exact⟨A,L,C,rfl,h⟩
theorem IsZ.opn (h:IsZ w v z):∃s A L C,v= .agg #[.bool s,.slice A L C]∧IsZ w (.agg #[.bool s,.slice A L C]) z:=by
 have h0:=h
 obtain⟨nv,rfl,hn⟩:=h
 obtain⟨A,L,C,rfl⟩:=hn.frm
 exact⟨_,A,L,C,rfl,h0⟩
theorem IsQ.opn (h:IsQ w v r):∃s A L C D M E,v= .agg #[.bool s,.slice A L C,.slice D M E]∧IsQ w (.agg #[.bool s,.slice A L C,.slice D M E]) r:=by
 have h0:=h
 obtain⟨pn,qn,rfl,hp,hq⟩:=h
 obtain⟨A,L,C,rfl⟩:=hp.frm
 obtain⟨D,M,E,rfl⟩:=hq.frm
 exact⟨_,A,L,C,D,M,E,rfl,h0⟩
theorem IsQ.parts {s:Bool} {p q:Value} (h:IsQ w (.agg #[.bool s,p,q]) r):s=decide (r.num<0)∧IsZ w (.agg #[.bool s,p]) r.num∧IsN w q r.den:=by
 obtain⟨pn,qn,e,hp,hq⟩:=h
 cases e
 exact⟨rfl,⟨_,rfl,hp⟩,hq⟩
theorem IsZ.parts {s:Bool} {p:Value} (h:IsZ w (.agg #[.bool s,p]) z):s=decide (z<0)∧IsN w p z.natAbs:=by
 obtain⟨pn,e,hp⟩:=h
 cases e
 exact⟨rfl,hp⟩
theorem IsL.filled (h:IsL w v l) (k:∀v l,IsL w v l→IsL W v l):IsL W v l:=k _ _ h
theorem IsN.filled (h:IsN w v n) (k:∀v l,IsL w v l→IsL W v l):IsN W v n:=k _ _ h
theorem IsZ.filled (h:IsZ w v z) (k:∀v l,IsL w v l→IsL W v l):IsZ W v z:=by
 obtain⟨nv,e,hn⟩:=h;exact⟨nv,e,hn.filled k⟩
theorem IsQ.filled (h:IsQ w v r) (k:∀v l,IsL w v l→IsL W v l):IsQ W v r:=by
 obtain⟨pn,qn,e,hp,hq⟩:=h;exact⟨pn,qn,e,hp.filled k,hq.filled k⟩
theorem IsZ.kept (h:IsZ w v z) (k:∀v n,IsN w v n→IsN W v n):IsZ W v z:=by
 obtain⟨nv,e,hn⟩:=h;exact⟨nv,e,k _ _ hn⟩
theorem IsQ.kept (h:IsQ w v r) (k:∀v n,IsN w v n→IsN W v n):IsQ W v r:=by
 obtain⟨pn,qn,e,hp,hq⟩:=h;exact⟨pn,qn,e,k _ _ hp,k _ _ hq⟩
end
section
variable {w:World} {R:Nat} {t:TypeId}
def Filled (w W:World) (R:Nat) (t:TypeId) (cs:Array Value):Prop:=
 Blk W R t cs∧(∀v l,IsL w v l→IsL W v l)∧(∀g t' cs',Blk w g t' cs'→g≠R→Blk W g t' cs')∧(∀(B:Nat) (w0:World),B≤R→Below B w0 w→Below B w0 W)
theorem fill1 {a:Value} (hR:Blk w R t #[a]) (x:Value) (hcs:(#[a]:Array Value).all noU=true):∃W,W=w.setCell ⟨R,0,none⟩ x∧Filled w W R t #[x]:=
 ⟨_,rfl,by simpa using hR.set_ 0 x,fun v l h=>h.keepBlk hR hcs (fun k hk=>Below.heap_setCell w ⟨R,0,none⟩ x k hk) (by simp[World.setCell]),fun g t' cs h hne=>h.far (p:=⟨R,0,none⟩) hne x,fun B w0 hBR hB=>hB.setCell (p:=⟨R,0,none⟩) hBR x⟩
theorem fill2 {a b:Value} (hR:Blk w R t #[a,b]) (x y:Value) (hcs:(#[a,b]:Array Value).all noU=true):∃W,W=(w.setCell ⟨R,0,none⟩ x).setCell ⟨R,1,none⟩ y∧Filled w W R t #[x,y]:=
 ⟨_,rfl,by simpa using (hR.set_ 0 x).set_ 1 y,fun v l h=>h.keepBlk hR hcs (fun k hk=>(Below.heap_setCell _ ⟨R,1,none⟩ y k hk).trans (Below.heap_setCell w ⟨R,0,none⟩ x k hk)) (by simp[World.setCell]),fun g t' cs h hne=>(h.far (p:=⟨R,0,none⟩) hne x).far (p:=⟨R,1,none⟩) hne y,fun B w0 hBR hB=>(hB.setCell (p:=⟨R,0,none⟩) hBR x).setCell (p:=⟨R,1,none⟩) hBR y⟩
theorem fill3 {a b c:Value} (hR:Blk w R t #[a,b,c]) (x y z:Value) (hcs:(#[a,b,c]:Array Value).all noU=true):∃W,W=((w.setCell ⟨R,0,none⟩ x).setCell ⟨R,1,none⟩ y).setCell ⟨R,2,none⟩ z∧Filled w W R t #[x,y,z]:=
 ⟨_,rfl,by simpa using ((hR.set_ 0 x).set_ 1 y).set_ 2 z,fun v l h=>h.keepBlk hR hcs (fun k hk=>(Below.heap_setCell _ ⟨R,2,none⟩ z k hk).trans ((Below.heap_setCell _ ⟨R,1,none⟩ y k hk).trans (Below.heap_setCell w ⟨R,0,none⟩ x k hk))) (by simp[World.setCell]),fun g t' cs h hne=>((h.far (p:=⟨R,0,none⟩) hne x).far (p:=⟨R,1,none⟩) hne y).far (p:=⟨R,2,none⟩) hne z,fun B w0 hBR hB=>((hB.setCell (p:=⟨R,0,none⟩) hBR x).setCell (p:=⟨R,1,none⟩) hBR y).setCell (p:=⟨R,2,none⟩) hBR z⟩
theorem fill6 {a b c d e f:Value} (hR:Blk w R t #[a,b,c,d,e,f]) (x y z p q r:Value) (hcs:(#[a,b,c,d,e,f]:Array Value).all noU=true):∃W,W=(((((w.setCell ⟨R,0,none⟩ x).setCell ⟨R,1,none⟩ y).setCell ⟨R,2,none⟩ z).setCell ⟨R,3,none⟩ p).setCell ⟨R,4,none⟩ q).setCell ⟨R,5,none⟩ r∧Filled w W R t #[x,y,z,p,q,r]:=
 ⟨_,rfl,by simpa using (((((hR.set_ 0 x).set_ 1 y).set_ 2 z).set_ 3 p).set_ 4 q).set_ 5 r,fun v l h=>h.keepBlk hR hcs (fun k hk=>(Below.heap_setCell _ ⟨R,5,none⟩ r k hk).trans ((Below.heap_setCell _ ⟨R,4,none⟩ q k hk).trans ((Below.heap_setCell _ ⟨R,3,none⟩ p k hk).trans ((Below.heap_setCell _ ⟨R,2,none⟩ z k hk).trans ((Below.heap_setCell _ ⟨R,1,none⟩ y k hk).trans (Below.heap_setCell w ⟨R,0,none⟩ x k hk)))))) (by simp[World.setCell]),fun g t' cs h hne=>(((((h.far (p:=⟨R,0,none⟩) hne x).far (p:=⟨R,1,none⟩) hne y).far (p:=⟨R,2,none⟩) hne z).far (p:=⟨R,3,none⟩) hne p).far (p:=⟨R,4,none⟩) hne q).far (p:=⟨R,5,none⟩) hne r,fun B w0 hBR hB=>(((((hB.setCell (p:=⟨R,0,none⟩) hBR x).setCell (p:=⟨R,1,none⟩) hBR y).setCell (p:=⟨R,2,none⟩) hBR z).setCell (p:=⟨R,3,none⟩) hBR p).setCell (p:=⟨R,4,none⟩) hBR q).setCell (p:=⟨R,5,none⟩) hBR r⟩
end
theorem Blk.q1 {w:World} {G:Nat} {t:TypeId} {a:Value} (h:Blk w G t #[a]):w.cell? ⟨G,0,none⟩=some a:=h.cell 0
theorem Blk.q2 {w:World} {G:Nat} {t:TypeId} {a b:Value} (h:Blk w G t #[a,b]):w.cell? ⟨G,0,none⟩=some a∧w.cell? ⟨G,1,none⟩=some b:=⟨h.cell 0,h.cell 1⟩
theorem Blk.q3 {w:World} {G:Nat} {t:TypeId} {a b c:Value} (h:Blk w G t #[a,b,c]):w.cell? ⟨G,0,none⟩=some a∧w.cell? ⟨G,1,none⟩=some b∧w.cell? ⟨G,2,none⟩=some c:=⟨h.cell 0,h.cell 1,h.cell 2⟩
theorem Blk.q4 {w:World} {G:Nat} {t:TypeId} {a b c d:Value} (h:Blk w G t #[a,b,c,d]):w.cell? ⟨G,0,none⟩=some a∧w.cell? ⟨G,1,none⟩=some b∧w.cell? ⟨G,2,none⟩=some c∧w.cell? ⟨G,3,none⟩=some d:=⟨h.cell 0,h.cell 1,h.cell 2,h.cell 3⟩
theorem Blk.q5 {w:World} {G:Nat} {t:TypeId} {a b c d e:Value} (h:Blk w G t #[a,b,c,d,e]):w.cell? ⟨G,0,none⟩=some a∧w.cell? ⟨G,1,none⟩=some b∧w.cell? ⟨G,2,none⟩=some c∧w.cell? ⟨G,3,none⟩=some d∧w.cell? ⟨G,4,none⟩=some e:=⟨h.cell 0,h.cell 1,h.cell 2,h.cell 3,h.cell 4⟩
theorem Blk.q6 {w:World} {G:Nat} {t:TypeId} {a b c d e f:Value} (h:Blk w G t #[a,b,c,d,e,f]):w.cell? ⟨G,0,none⟩=some a∧w.cell? ⟨G,1,none⟩=some b∧w.cell? ⟨G,2,none⟩=some c∧w.cell? ⟨G,3,none⟩=some d∧w.cell? ⟨G,4,none⟩=some e∧w.cell? ⟨G,5,none⟩=some f:=⟨h.cell 0,h.cell 1,h.cell 2,h.cell 3,h.cell 4,h.cell 5⟩
theorem Blk.q9 {w:World} {G:Nat} {t:TypeId} {a b c d e f p q r:Value} (h:Blk w G t #[a,b,c,d,e,f,p,q,r]):w.cell? ⟨G,0,none⟩=some a∧w.cell? ⟨G,1,none⟩=some b∧w.cell? ⟨G,2,none⟩=some c∧w.cell? ⟨G,3,none⟩=some d∧w.cell? ⟨G,4,none⟩=some e∧w.cell? ⟨G,5,none⟩=some f∧w.cell? ⟨G,6,none⟩=some p∧w.cell? ⟨G,7,none⟩=some q∧w.cell? ⟨G,8,none⟩=some r:=⟨h.cell 0,h.cell 1,h.cell 2,h.cell 3,h.cell 4,h.cell 5,h.cell 6,h.cell 7,h.cell 8⟩
theorem bOn {w v u:World} (h:Below w.heap.size w v) (b:Below v.heap.size v u):Below w.heap.size w u:=h.trans (b.mono h.size)
theorem boxes1 (w:World) (t0:TypeId) (c0:Array Value):∃g W,Blk W (g) t0 c0∧Below w.heap.size w W∧w.heap.size≤g∧Hid (g=w.heap.size∧W=(w.alloc (.cells c0 t0))):=by
 obtain⟨Y0,e0,h0,b0⟩:=box1 w t0 c0
 have z0:Y0.heap.size=w.heap.size+1:=by rw[e0,World.size_alloc]
 have hB:=b0
 exact⟨_,_,h0,hB,Nat.le_refl _,Lib.hid ⟨rfl,by rw[e0]⟩⟩
theorem boxes2 (w:World) (t0:TypeId) (c0:Array Value) (t1:TypeId) (c1:Array Value):∃g W,Blk W (g) t0 c0∧Blk W (g+1) t1 c1∧Below w.heap.size w W∧w.heap.size≤g∧Hid (g=w.heap.size∧W=((w.alloc (.cells c0 t0)).alloc (.cells c1 t1))):=by
 obtain⟨Y0,e0,h0,b0⟩:=box1 w t0 c0
 have z0:Y0.heap.size=w.heap.size+1:=by rw[e0,World.size_alloc]
 have hB:=b0
 obtain⟨Y1,e1,h1,b1⟩:=box1 Y0 t1 c1
 have z1:Y1.heap.size=w.heap.size+1+1:=by rw[e1,World.size_alloc,z0]
 rw[z0] at h1
 replace h0:=h0.b b1
 replace hB:=bOn hB b1
 exact⟨_,_,h0,h1,hB,Nat.le_refl _,Lib.hid ⟨rfl,by rw[e1,e0]⟩⟩
theorem boxes3 (w:World) (t0:TypeId) (c0:Array Value) (t1:TypeId) (c1:Array Value) (t2:TypeId) (c2:Array Value):∃g W,Blk W (g) t0 c0∧Blk W (g+1) t1 c1∧Blk W (g+1+1) t2 c2∧Below w.heap.size w W∧w.heap.size≤g∧Hid (g=w.heap.size∧W=(((w.alloc (.cells c0 t0)).alloc (.cells c1 t1)).alloc (.cells c2 t2))):=by
 obtain⟨Y0,e0,h0,b0⟩:=box1 w t0 c0
 have z0:Y0.heap.size=w.heap.size+1:=by rw[e0,World.size_alloc]
 have hB:=b0
 obtain⟨Y1,e1,h1,b1⟩:=box1 Y0 t1 c1
 have z1:Y1.heap.size=w.heap.size+1+1:=by rw[e1,World.size_alloc,z0]
 rw[z0] at h1
 replace h0:=h0.b b1
 replace hB:=bOn hB b1
 obtain⟨Y2,e2,h2,b2⟩:=box1 Y1 t2 c2
 have z2:Y2.heap.size=w.heap.size+1+1+1:=by rw[e2,World.size_alloc,z1]
 rw[z1] at h2
 replace h0:=h0.b b2
 replace h1:=h1.b b2
 replace hB:=bOn hB b2
 exact⟨_,_,h0,h1,h2,hB,Nat.le_refl _,Lib.hid ⟨rfl,by rw[e2,e1,e0]⟩⟩
theorem boxL {w v:World} (hB:Below w.heap.size w v) (t:TypeId) (c:Array Value):∃X V,Blk V X t c∧Below v.heap.size v V∧w.heap.size≤X∧(∀k,k<v.heap.size→k≠X)∧Hid (V=v.alloc (.cells c t)∧X=v.heap.size):=by
 obtain⟨V,e,h,b⟩:=box1 v t c
 exact⟨_,V,h,b,hB.size,fun k hk=>Nat.ne_of_lt hk,Lib.hid ⟨e,rfl⟩⟩
end Go.Proofs.YtdnjdglekifhpaaGreat
namespace Go.Proofs.YtdnjdglekifhpaaGreat
open Go.RowKit
abbrev Eq3:=Bool×Value×Value
def cellsQ (e:Eq3):List Value:=[.bool e.1,e.2.1,e.2.2]
def flatQ (es:List Eq3):List Value:=es.flatMap cellsQ
def aggQ (e:Eq3):Value:= .agg #[.bool e.1,e.2.1,e.2.2]
def OkQ (w:World) (es:List Eq3) (rs:List Rat):Prop:=es.length=rs.length∧∀(i:Nat) (e:Eq3) (r:Rat),es[i]?=some e→rs[i]?=some r→IsQ w (aggQ e) r
def IsQs (w:World) (v:Value) (rs:List Rat):Prop:=∃(es:List Eq3) (A:Option Addr) (c:Nat),v= .slice A rs.length c∧rs.length≤c∧c≤9223372036854775807∧OkQ w es rs∧Reads w w.heap.size 3 A rs.length (flatQ es)
section
variable {w w':World} {es:List Eq3} {rs:List Rat} {v:Value}
theorem flatQ_at:∀(es:List Eq3) (i j:Nat) (e:Eq3),es[i]?=some e→j<3→(flatQ es)[i*3+j]?=(cellsQ e)[j]?
 | [],_,_,_,h,_=>by simp at h
 | x :: r, 0, j, e, h, hj => by
   obtain rfl:x=e:=by simpa using h
   unfold flatQ
   rw[List.flatMap_cons,List.getElem?_append_left (by simp[cellsQ];omega),Nat.zero_mul,Nat.zero_add]
 | x :: r, i + 1, j, e, h, hj => by
   have h':r[i]?=some e:=by simpa using h
   have:=flatQ_at r i j e h' hj
   unfold flatQ at *
   rw[List.flatMap_cons,List.getElem?_append_right (by simp[cellsQ];omega),←this]
   congr 1
   simp[cellsQ];omega
theorem flatQ_append (a b:List Eq3):flatQ (a++b)=flatQ a++flatQ b:=by simp[flatQ]
theorem IsQ.slices {e:Eq3} {r:Rat} (h:IsQ w (aggQ e) r):(∃A L C,e.2.1= .slice A L C)∧(∃A L C,e.2.2= .slice A L C):=by
 obtain⟨s,A,L,C,D,M,E,e1,_⟩:=h.opn
 unfold aggQ at e1
 injection e1 with e1
 simp only[Array.mk.injEq,List.cons.injEq,and_true] at e1
 exact⟨⟨_,_,_,e1.2.1⟩,⟨_,_,_,e1.2.2⟩⟩
theorem OkQ.cell (h:OkQ w es rs):∀u∈flatQ es,u.oneCell'=true∧noU u=true:=by
 intro u hu
 obtain⟨e,he,hu⟩:=List.mem_flatMap.1 hu
 obtain⟨i,hi,rfl⟩:=List.getElem_of_mem he
 have hl:=h.1
 obtain⟨⟨A,L,C,e1⟩,⟨B,M,D,e2⟩⟩:=(h.2 i es[i] rs[i] (List.getElem?_eq_getElem hi) (List.getElem?_eq_getElem (by omega))).slices
 simp only[cellsQ,e1,e2,List.mem_cons,List.not_mem_nil,or_false] at hu
 rcases hu with rfl | rfl | rfl<;>exact⟨rfl,rfl⟩
theorem OkQ.below (h:OkQ w es rs) (hb:Below w.heap.size w w'):OkQ w' es rs:=⟨h.1,fun i e r h1 h2=>(h.2 i e r h1 h2).below hb⟩
theorem OkQ.kept (h:OkQ w es rs) (k:∀v n,IsN w v n→IsN w' v n):OkQ w' es rs:=⟨h.1,fun i e r h1 h2=>(h.2 i e r h1 h2).kept k⟩
theorem OkQ.nil (w:World):OkQ w [] []:=⟨rfl,fun _ _ _ h=>by simp at h⟩
theorem OkQ.snoc {e:Eq3} {r:Rat} (h:OkQ w es rs) (he:IsQ w (aggQ e) r):OkQ w (es++[e]) (rs++[r]):=by
 refine ⟨by simp[h.1],fun i x y h1 h2=>?_⟩
 have hl:=h.1
 rcases Nat.lt_or_ge i es.length with hi | hi
 ·rw[List.getElem?_append_left hi] at h1
  rw[List.getElem?_append_left (by omega)] at h2
  exact h.2 i x y h1 h2
 ·rw[List.getElem?_append_right hi] at h1
  rw[List.getElem?_append_right (by omega)] at h2
  have h0:i - es.length=0:=by
   rcases Nat.eq_zero_or_pos (i - es.length) with h3 | h3
   ·exact h3
   ·rw[List.getElem?_eq_none (by rw[List.length_singleton];exact h3)] at h1;cases h1
  have h0':i - rs.length=0:=by omega
  rw[h0] at h1;rw[h0'] at h2
  simp at h1 h2
  rw[←h1,←h2];exact he
theorem IsQs.below (h:IsQs w v rs) (hb:Below w.heap.size w w'):IsQs w' v rs:=by
 obtain⟨es,A,c,h1,h2,h3,h4,h5⟩:=h
 exact⟨es,A,c,h1,h2,h3,h4.below hb,(h5.below hb).more hb.size⟩
theorem IsQs.nil (w:World):IsQs w (.slice none 0 0) []:=⟨[],none,0,rfl,Nat.le_refl _,by omega,OkQ.nil w,Reads.none_⟩
theorem IsQs.len (h:IsQs w v rs):∃A c,v= .slice A rs.length c∧rs.length≤c∧c≤9223372036854775807:=by
 obtain⟨es,A,c,rfl,h2,h3,_⟩:=h
 exact⟨A,c,rfl,h2,h3⟩
theorem IsQs.at_ (h:IsQs w v rs) {i:Nat} (hi:i<rs.length):∃(ad:Addr) (c:Nat) (s:Bool) (p q:Value),v= .slice (some ad) rs.length c∧ad.block<w.heap.size∧
 w.cell? (ad.add (i*3))=some (.bool s)∧w.cell? ⟨(ad.add (i*3)).block,(ad.add (i*3)).off+1,none⟩=some p∧w.cell? ⟨(ad.add (i*3)).block,(ad.add (i*3)).off+2,none⟩=some q∧IsQ w (.agg #[.bool s,p,q]) rs[i]:=by
 obtain⟨es,A,c,rfl,h2,h3,h4,h5⟩:=h
 obtain⟨ad,rfl,hb,hc⟩:=h5.2 (by omega)
 have hl:=h4.1
 have he:es[i]?=some es[i]:=List.getElem?_eq_getElem (by omega)
 have hq:=h4.2 i es[i] rs[i] he (List.getElem?_eq_getElem hi)
 generalize es[i]=e at he hq
 obtain⟨s,p,q⟩:=e
 have hx:∀j,0<j→(⟨(ad.add (i*3)).block,(ad.add (i*3)).off+j,none⟩:Addr)=ad.add (i*3+j):=fun j hj=>by
  rw[←add_of_add];generalize ad.add (i*3)=q
  unfold Addr.add;rw[if_neg (by omega)]
 refine ⟨ad,c,s,p,q,rfl,hb,hc _ _ ?_,(congrArg w.cell? (hx 1 (by omega))).trans (hc _ _ ?_),(congrArg w.cell? (hx 2 (by omega))).trans (hc _ _ ?_),hq⟩
 ·have:=flatQ_at es i 0 _ he (by omega)
  rw[Nat.add_zero] at this
  rw[this];rfl
 all_goals rw[flatQ_at es i _ _ he (by omega)];rfl
end
def NoUB (w:World) (v:Value):Prop:=∀g cs t fr,v.ownBlock=some g→w.heap[g]?=some (.cells cs t fr)→cs.all noU=true
theorem IsL.noUB {w w':World} {u v:Value} {l:List Nat} {e:TypeId} {base size n:Nat} {xs:List Value} (h:IsL w u l) (hv:NoUB w v) (hown:w.ownsRow base e size v n xs) (hg:w.grownBy w' v.ownBlock):IsL w' u l:=by
 obtain⟨A,c,rfl,h1,h2,h3,h4⟩:=h
 refine ⟨A,c,rfl,h1,h2,h3,h4.1,fun hn=>?_⟩
 obtain⟨ad,rfl,hb,hc⟩:=h4.2 hn
 refine ⟨ad,rfl,Nat.lt_of_lt_of_le hb hg.size,fun j y hj=>?_⟩
 rw[←hc j y hj]
 refine World.cell?_of_block (hg.block _ (by rw[block_of_add];exact hb) (fun e2=>?_))
 rw[block_of_add] at e2
 have hl:=h4.1
 have h0:=hc 0 _ (us_at l 0 (by rw[us_len] at hl;omega))
 rcases hown.2 with ⟨rfl,_⟩ | ⟨g,cap,cur,rfl,_,hh,_⟩
 ·simp[Value.ownBlock] at e2
 ·have hgb:ad.block=g:=by simpa [Value.ownBlock] using e2
  have hall:=hv g cur e (0,0) rfl hh
  obtain⟨b,off,sp⟩:=ad
  dsimp only at hgb;subst hgb
  rw[Addr.add,if_pos rfl] at h0
  have hsp:sp=none:=World.cell?_spot h0
  subst hsp
  unfold World.cell? at h0
  simp only[hh] at h0
  have:=Array.all_eq_true_iff_forall_mem.1 hall _ (Array.mem_of_getElem? h0)
  simp[noU] at this
theorem all_zero (z:Array Value) (hz:z.all noU=true) (n:Nat):(Builtin.zeroCells z n).all noU=true:=by
 rw[Array.all_eq_true_iff_forall_mem]
 intro u hu
 unfold Builtin.zeroCells at hu
 obtain⟨i,hi,rfl⟩:=Array.mem_map.1 hu
 have h0:0<z.size:=by
  rcases Nat.eq_zero_or_pos z.size with h | h
  ·rw[Array.mem_range,h,Nat.mul_zero] at hi;omega
  ·exact h
 have hm:i % z.size<z.size:=Nat.mod_lt _ h0
 rw[getElem!_pos z _ hm]
 exact Array.all_eq_true_iff_forall_mem.1 hz _ (Array.getElem_mem hm)
theorem all_append (a b:Array Value) (ha:a.all noU=true) (hb:b.all noU=true):(a++b).all noU=true:=by
 rw[Array.all_eq_true_iff_forall_mem] at *
 intro u hu
 rcases Array.mem_append.1 hu with h | h
 ·exact ha u h
 ·exact hb u h
theorem all_list (l:List Value) (h:∀u∈l,noU u=true):l.toArray.all noU=true:=by
 rw[Array.all_eq_true_iff_forall_mem];intro u hu;exact h u (by simpa using hu)
theorem NoUB.at_ {w:World} {cs:Array Value} {t:TypeId} (g n c:Nat) (hg:w.heap[g]?=some (.cells cs t (0,0))) (h:cs.all noU=true):NoUB w (.slice (some ⟨g,0,none⟩) n c):=by
 intro g' cs' t' fr' e1 e2
 have :g=g':=by simpa [Value.ownBlock] using e1
 subst this
 rw[hg] at e2
 cases e2;exact h
section
variable {P:Program} (w:World)
theorem run_append_noU (base:Nat) (t ty e:TypeId) (i:TypeInfo) (z:Value) (size bytes:Nat) (ht:P.underlying t=some (.slice e)) (hi:P.info? e=some i) (hz:i.zero=some z)
 (hsize:i.size=size) (hby:i.bytes=bytes) (hzs:z.cells.size=size) (hsz:0<size) (hzn:z.cells.all noU=true)
 (v:Value) (n:Nat) (xs:List Value) (hown:w.ownsRow base e size v n xs) (hno:NoUB w v)
 (a:Addr) (m c:Nat) (news:List Value) (hl:news.length=m*size) (hnews:∀j u,news[j]?=some u→w.cell? (a.add j)=some u) (h1:∀u∈news,u.oneCell'=true) (h2:∀u∈news,noU u=true) (hm:0<m)
 (h63:n+m≤maxLen) (hbytes:(n+m)*bytes≤140737488355328) (hbase:base≤w.heap.size):
 ∃v' w',(Builtin.append_ #[t,t] ty #[v,.slice (some a) m c]).run P w= .ok v' w'∧w'.ownsRow base e size v' (n+m) (xs++news)∧w.grownBy w' v.ownBlock∧NoUB w' v'∧(v'.ownBlock=v.ownBlock∨v'.ownBlock=some w.heap.size):=by
 obtain⟨v',w',hrun,k1,k2,_,k5⟩:=run_append_own_at (P:=P) w base t ty e i z size bytes ht hi hz hsize hby hzs hsz v n xs hown a m c news hl hnews h1 h63 hbytes hbase
 refine ⟨v',w',hrun,k1,k2,?_,k5⟩
 clear k5
 subst hsize
 subst hby
 have hsmall:n+m≤9223372036854775807:=by simp only[maxLen] at h63;omega
 have hN:=all_list news h2
 rcases hown.2 with ⟨rfl,rfl⟩ | ⟨g,cap,cur,rfl,hbg,hg,hnc,hcm,hcs,htake⟩
 ·have hr:=run_append_nil (P:=P) w t ty e i z ht hi hz a m c news hl hnews (by omega) (by omega) (by have hb:=hbytes;simp only[Nat.zero_add] at hb;omega)
  rw[hr] at hrun
  cases hrun
  exact NoUB.at_ _ _ _ (heap_alloc_new w.drew _) (all_append _ _ hN (all_zero _ hzn _))
 ·have hcur:=hno g cur e (0,0) rfl hg
  have hcurL:∀u∈cur.toList,noU u=true:=fun u hu=>Array.all_eq_true_iff_forall_mem.1 hcur u (by simpa using hu)
  by_cases hroom:n+m≤cap
  ·have hfit:n*i.size+news.length≤cur.size:=by rw[hl,hcs,←Nat.add_mul];exact Nat.mul_le_mul_right _ hroom
   have hr:=run_append_room (P:=P) w t ty e i ht hi g n cap cur hg a m c news hl hnews h1 hroom hfit
   rw[hr] at hrun
   cases hrun
   refine NoUB.at_ _ _ _ (setRow_heap w g cur _ e _ hg) (all_list _ fun u hu=>?_)
   rcases List.mem_append.1 hu with hu | hu
   ·rcases List.mem_append.1 hu with hu | hu
    ·exact hcurL u (List.mem_of_mem_take hu)
    ·exact h2 u hu
   ·exact hcurL u (List.mem_of_mem_drop hu)
  ·have holds:∀j u,xs[j]?=some u→w.cell? ((⟨g,0,none⟩:Addr).add j)=some u:=hown.cells (g:=g) rfl
   have hr:=run_append_grow (P:=P) w t ty e i z ht hi hz ⟨g,0,none⟩ n cap xs hown.1 holds a m c news hl hnews (by omega) (by omega) (growslice_fits (by omega) hbytes)
   rw[hr] at hrun
   cases hrun
   exact NoUB.at_ _ _ _ (heap_alloc_new w.drew _) (all_append _ _ (all_append _ _ (all_list _ fun u hu=>hcurL u (by rw[←htake] at hu;exact List.mem_of_mem_take hu)) hN) (all_zero _ hzn _))
theorem wp_append_noU {o:Oper} {a:Act} {K:Act→World→Prop} {Q:Exit→Act→World→Prop} (s x:Operand) (t:TypeId)
 (ho:o.op= .call { callee:= .builtin .append,args:= #[s,x],argTypes:= #[t,t] })
 (base:Nat) (e:TypeId) (i:TypeInfo) (z:Value) (size bytes:Nat) (ht:P.underlying t=some (.slice e)) (hi:P.info? e=some i) (hz:i.zero=some z)
 (hsize:i.size=size) (hby:i.bytes=bytes) (hzs:z.cells.size=size) (hsz:0<size) (hzn:z.cells.all noU=true)
 (v:Value) (n:Nat) (xs:List Value) (hs:a.eval s=v) (hown:w.ownsRow base e size v n xs) (hno:NoUB w v)
 (ad:Addr) (m c:Nat) (news:List Value) (hx:a.eval x= .slice (some ad) m c) (hl:news.length=m*size) (hnews:∀j u,news[j]?=some u→w.cell? (ad.add j)=some u) (h1:∀u∈news,u.oneCell'=true) (h2:∀u∈news,noU u=true) (hm:0<m)
 (h63:n+m≤maxLen) (hbytes:(n+m)*bytes≤140737488355328) (hbase:base≤w.heap.size)
 (h:∀v' w',w'.ownsRow base e size v' (n+m) (xs++news)→w.grownBy w' v.ownBlock→NoUB w' v'→(v'.ownBlock=v.ownBlock∨v'.ownBlock=some w.heap.size)→K (a.put o.dst v') w'):o.wp P a w K Q:=by
 obtain⟨v',w',hrun,k2,k3,k4,k5⟩:=run_append_noU (P:=P) w base t o.type e i z size bytes ht hi hz hsize hby hzs hsz hzn v n xs hown hno ad m c news hl hnews h1 h2 hm h63 hbytes hbase
 unfold Oper.wp execOp
 simp only[ho,resolve,invoke,builtin,Sem.run_bind,Sem.run_pure,Result.andThen_ok,List.map_toArray,List.map_cons,List.map_nil,hs,hx,hrun]
 exact h v' w' k2 k3 k4 k5
theorem wpList_append_noU {ops:Array Oper} {rest:List Oper} {o:Oper} {a:Act} {Q:Exit→Act→World→Prop} (hgd:o.guard=none) (s x:Operand) (t:TypeId)
 (ho:o.op= .call { callee:= .builtin .append,args:= #[s,x],argTypes:= #[t,t] })
 (base:Nat) (e:TypeId) (i:TypeInfo) (z:Value) (size bytes:Nat) (ht:P.underlying t=some (.slice e)) (hi:P.info? e=some i) (hz:i.zero=some z)
 (hsize:i.size=size) (hby:i.bytes=bytes) (hzs:z.cells.size=size) (hsz:0<size) (hzn:z.cells.all noU=true)
 (v:Value) (n:Nat) (xs:List Value) (hs:a.eval s=v) (hown:w.ownsRow base e size v n xs) (hno:NoUB w v)
 (ad:Addr) (m c:Nat) (news:List Value) (hx:a.eval x= .slice (some ad) m c) (hl:news.length=m*size) (hnews:∀j u,news[j]?=some u→w.cell? (ad.add j)=some u) (h1:∀u∈news,u.oneCell'=true) (h2:∀u∈news,noU u=true) (hm:0<m)
 (h63:n+m≤maxLen) (hbytes:(n+m)*bytes≤140737488355328) (hbase:base≤w.heap.size)
 (h:∀v' w',w'.ownsRow base e size v' (n+m) (xs++news)→w.grownBy w' v.ownBlock→NoUB w' v'→(v'.ownBlock=v.ownBlock∨v'.ownBlock=some w.heap.size)→wpList P ops Q rest (a.put o.dst v') w'):wpList P ops Q (o::rest) a w:=
 wpList_plain hgd fun _ hK=>wp_append_noU w s x t ho base e i z size bytes ht hi hz hsize hby hzs hsz hzn v n xs hs hown hno ad m c news hx hl hnews h1 h2 hm h63 hbytes hbase fun v' w' k2 k3 k4 k5=>hK _ _ (h v' w' k2 k3 k4 k5)
end
theorem info_rat:(Tryz.prog.info? 32).map (fun i=>(i.zero,i.size,i.bytes))=some (some (.agg #[.bool false,.slice none 0 0,.slice none 0 0]),3,56):=by kernel_rfl
theorem lit3_cells (w:World) (t:TypeId) (a b c:Value):∀j u,[a,b,c][j]?=some u→(w.alloc (.cells #[a,b,c] t)).cell? ((⟨w.heap.size,0,none⟩:Addr).add j)=some u:=by
 intro j u hu
 have hj:(⟨w.heap.size,0,none⟩:Addr).add j=⟨w.heap.size,j,none⟩:=by
  unfold Addr.add
  by_cases h:j=0
  ·subst h;rfl
  ·rw[if_neg h,Nat.zero_add]
 rw[hj,(Blk.new w t #[a,b,c]).cell j,←hu]
 simp
def OwnQs (w:World) (base:Nat) (v:Value) (rs:List Rat):Prop:=∃es,OkQ w es rs∧w.ownsRow base 32 3 v rs.length (flatQ es)∧NoUB w v
section
variable {w w':World} {base:Nat} {v v':Value} {rs:List Rat}
theorem OwnQs.nil (w:World) (base:Nat):OwnQs w base (.slice none 0 0) []:=⟨[],OkQ.nil w,World.ownsRow_nil _ _ _ _,fun _ _ _ _ h=>by simp[Value.ownBlock] at h⟩
theorem NoUB.below {n:Nat} {xs:List Value} {e:TypeId} {size:Nat} (h:NoUB w v) (hown:w.ownsRow base e size v n xs) (hb:Below w.heap.size w w'):NoUB w' v:=by
 intro g cs t fr h1 h2
 refine h g cs t fr h1 ?_
 rw[←hb.block g (hown.lt g h1).2];exact h2
theorem OwnQs.below (h:OwnQs w base v rs) (hb:Below w.heap.size w w'):OwnQs w' base v rs:=by
 obtain⟨es,h1,h2,h3⟩:=h
 exact⟨es,h1.below hb,h2.kept (row:=none) ⟨hb.os,hb.tape,hb.output,hb.size,fun k hk _=>hb.block k hk⟩ (by cases v.ownBlock<;>simp),h3.below h2 hb⟩
theorem own3_form {e:TypeId} {n:Nat} {xs:List Value} (h:w.ownsRow base e 3 v n xs):∃(A:Option Addr) (c:Nat),v= .slice A n c∧n≤c∧c≤9223372036854775807∧Reads w w.heap.size 3 A n xs:=by
 have h0:=h
 rcases h.2 with ⟨rfl,rfl⟩ | ⟨g,cap,cur,rfl,hg,hh,hn,hcap,hs,ht⟩
 ·have :xs=[]:=List.eq_nil_of_length_eq_zero (by simpa using h.1)
  subst this
  exact⟨none,0,rfl,Nat.le_refl _,by omega,Reads.none_⟩
 ·exact⟨_,_,rfl,hn,hcap,Reads.of_own h0⟩
theorem OwnQs.is (h:OwnQs w base v rs):IsQs w v rs:=by
 obtain⟨es,h1,h2,_⟩:=h
 obtain⟨A,c,e,k1,k2,k3⟩:=own3_form h2
 exact⟨es,A,c,e,k1,k2,h1,k3⟩
theorem OwnQs.num {u:Value} {n:Nat} (h:OwnQs w base v rs) (hg:w.grownBy w' v.ownBlock) (hn:IsN w u n):IsN w' u n:=by
 obtain⟨es,_,h2,h3⟩:=h
 exact IsL.noUB hn h3 h2 hg
theorem OwnQs.push {es:List Eq3} {e:Eq3} {r:Rat} (hok:OkQ w es rs) (hno:NoUB w v) (hrow:w.ownsRow base 32 3 v rs.length (flatQ es)) (he:IsQ w (aggQ e) r)
 (hown':w'.ownsRow base 32 3 v' (rs.length+1) (flatQ es++cellsQ e)) (hg:w.grownBy w' v.ownBlock) (hno':NoUB w' v'):OwnQs w' base v' (rs++[r]):=by
 have k:∀u n,IsN w u n→IsN w' u n:=fun u n h=>IsL.noUB h hno hrow hg
 refine ⟨es++[e],(hok.kept k).snoc (he.kept k),?_,hno'⟩
 rw[List.length_append,List.length_singleton,flatQ_append]
 have :flatQ [e]=cellsQ e:=by simp[flatQ]
 rw[this];exact hown'
theorem OwnQs.lt (h:OwnQs w base v rs):∀g,v.ownBlock=some g→base≤g∧g<w.heap.size:=by obtain⟨_,_,h2,_⟩:=h;exact h2.lt
theorem OwnQs.far (h:OwnQs w base v rs) {X i:Nat} {u:Value} (hX:v.ownBlock≠some X) (k:∀v l,IsL w v l→IsL (w.setCell ⟨X,i,none⟩ u) v l):OwnQs (w.setCell ⟨X,i,none⟩ u) base v rs:=by
 obtain⟨es,h1,h2,h3⟩:=h
 refine ⟨es,h1.kept (fun v n hn=>k v _ hn),h2.kept (row:=some X) ⟨rfl,rfl,rfl,by simp[World.setCell],fun j _ hne=>Below.heap_setCell w ⟨X,i,none⟩ u j (fun e=>hne (by rw[e]))⟩ (.inr hX),fun g cs t fr e1 e2=>h3 g cs t fr e1 ?_⟩
 rw[←Below.heap_setCell w ⟨X,i,none⟩ u g (fun e=>hX (by rw[e1,e]))];exact e2
end
end Go.Proofs.YtdnjdglekifhpaaGreat
namespace Go.Proofs.YtdnjdglekifhpaaGreat
open Go.RowKit
abbrev OkQ.b:= @OkQ.below
abbrev IsQs.b:= @IsQs.below
abbrev NoUB.b:= @NoUB.below
abbrev OwnQs.b:= @OwnQs.below
end Go.Proofs.YtdnjdglekifhpaaGreat
namespace Go.Proofs.YtdnjdglekifhpaaGreat
open Go.RowKit
def Apart (X:Nat) (vo vo':Value) (w w':World):Prop:=(vo'.ownBlock=vo.ownBlock∨∃k,vo'.ownBlock=some k∧w.heap.size≤k)∧w.heap.size≤w'.heap.size∧∀g,g<w.heap.size→g≠X→vo.ownBlock≠some g→w'.heap[g]?=w.heap[g]?
theorem Apart.here (X:Nat) (vo:Value) {w W0:World} (h:Below w.heap.size w W0):Apart X vo vo w W0:=⟨.inl rfl,h.size,fun g hg _ _=>h.block g hg⟩
theorem Apart.step {X i:Nat} {vo vi v8:Value} {w wr w1:World} {o:Obj} (h:Apart X vo vi w wr) (hg:(wr.alloc o).grownBy w1 vi.ownBlock) (hat:v8.ownBlock=vi.ownBlock∨v8.ownBlock=some (wr.alloc o).heap.size) (u:Value):Apart X vo v8 w (w1.setCell ⟨X,i,none⟩ u):=by
 obtain⟨h1,h2,h3⟩:=h
 have hs:=hg.size
 rw[World.size_alloc] at hs
 have hsz:(w1.setCell ⟨X,i,none⟩ u).heap.size=w1.heap.size:=by simp[World.setCell]
 refine ⟨?_,by omega,fun g hlt hX ho=>?_⟩
 ·rcases hat with e | e
  ·rw[e];exact h1
  ·exact .inr ⟨_,e,by rw[World.size_alloc];omega⟩
 ·rw[Below.heap_setCell w1 ⟨X,i,none⟩ u g hX,hg.block g (by rw[World.size_alloc];omega) (fun e=>?_),Below.heap_alloc wr o g (by omega),h3 g hlt hX ho]
  rcases h1 with e1 | ⟨k,e1,e2⟩
  ·rw[e1] at e;exact ho e.symm
  ·rw[e1] at e;injection e with e;omega
theorem Apart.blk {X g:Nat} {vo vo':Value} {w w':World} {t:TypeId} {cs:Array Value} (h:Apart X vo vo' w w') (hb:Blk w g t cs) (hX:g≠X) (ho:vo.ownBlock≠some g):Blk w' g t cs:=(h.2.2 g hb.lt hX ho).trans hb
theorem quant1_any (s:Bool) (p q:Value) (r:Rat) (n:Nat) (X base:Nat) (vo:Value) (rs:List Rat) (w:World) (hq:IsQ w (.agg #[.bool s,p,q]) r) (hX:Blk w X 40 #[vo]) (ho:OwnQs w base vo rs) (hXb:X<base) (hb:base≤w.heap.size) (hn:rs.length+n≤1000000):
 Calls Tryz.prog 54 #[.agg #[.bool s,p,q],.int .i64 n,.pointer (some ⟨X,0,none⟩)] w fun e w'=>(∃x,e= .returned x)∧(∃vo',Blk w' X 40 #[vo']∧OwnQs w' base vo' (rs++List.replicate n r)∧Apart X vo vo' w w')∧Below X w w':=by
 obtain⟨i0,hi,hz0,hz1,hz2⟩:=info_parts info_rat
 obtain⟨s',A,L,C,D,M,E,e1,hq'⟩:=hq.opn
 obtain⟨rfl,rfl,rfl⟩:s'=s∧p= .slice A L C∧q= .slice D M E:=by
  injection e1 with e1;simp only[Array.mk.injEq,List.cons.injEq,and_true] at e1;exact⟨by have:=e1.1;injection this with this;exact this.symm,e1.2.1,e1.2.2⟩
 clear e1 hq
 obtain⟨Y,hY⟩:∃Y,Y=w.heap.size:=⟨_,rfl⟩
 have hbY:base≤Y:=by omega
 obtain⟨W0,eW0,hB0,bW0⟩:=box1 w 32 #[.bool s',.slice A L C,.slice D M E]
 rw[←hY] at hB0
 have hX0:=hX.below bW0 hX.lt
 have ha0:=Apart.here X vo bW0
 have hq0:=hq'.below bW0
 have ho0:=ho.below bW0
 have hvY:vo.ownBlock≠some Y:=fun e=>by have:=(ho.lt Y e).2;omega
 have bX0:Below X w W0:=bW0.mono (by omega)
 have hsz0:Y<W0.heap.size:=hB0.lt
 have EW:=Lib.hid (And.intro eW0 hY)
 clear eW0 hY hX hq' ho bW0
 go_enter Tryz.func54,Tryz.ntmps54
 go_wp2_with fail
 rw[←EW.out.1,←EW.out.2]
 go_loopw [6] (fun iV wr=>∃(i:Nat) (v9:Value),i≤n∧iV= .int .i64 i∧Blk wr X 40 #[v9]∧OwnQs wr base v9 (rs++List.replicate i r)∧Blk wr Y 32 #[.bool s',.slice A L C,.slice D M E]∧IsQ wr (.agg #[.bool s',.slice A L C,.slice D M E]) r∧v9.ownBlock≠some Y∧Below X w wr∧Apart X vo v9 w wr) (fun i _=>n - (RowKit.intOf i).toNat)
 case atStart=>exact⟨0,vo,Nat.zero_le _,rfl,hX0,by rw[List.replicate_zero,List.append_nil];exact ho0,hB0,hq0,hvY,bX0,ha0⟩
 case round=>
  clear hX0 ho0 hB0 hq0 hvY bX0 ha0
  obtain⟨i,vi,hin,rfl,hX1,ho1,hY1,hq1,hvY1,hB1,hA1⟩:=hrel
  by_cases hlt:i<n
  ·obtain⟨es,k1,k2,k3⟩:=ho1
   have hlen:(rs++List.replicate i r).length≤1000000:=by rw[List.length_append,List.length_replicate];omega
   have hrr:rs++List.replicate (i+1) r=(rs++List.replicate i r)++[r]:=by rw[List.replicate_succ',List.append_assoc]
   have HRR:=Lib.hid hrr
   clear hrr
   obtain⟨rl,erl⟩:∃rl,rl=rs++List.replicate i r:=⟨_,rfl⟩
   rw[←erl] at k1 k2 hlen HRR
   clear erl
   obtain⟨N,eN⟩:∃N,N=rl.length:=⟨_,rfl⟩
   obtain⟨A9,c9,ev9,_,_,_⟩:=own3_form k2
   rw[←eN] at k2 hlen ev9
   subst ev9
   have HN:=Lib.hid eN
   clear eN
   have c0:wr.cell? ⟨X,0,none⟩=some (.slice A9 N c9):=hX1.cell 0
   have c1:wr.cell? ⟨Y,0,none⟩=some (.bool s'):=hY1.cell 0
   have c2:wr.cell? ⟨Y,1,none⟩=some (.slice A L C):=hY1.cell 1
   have c3:wr.cell? ⟨Y,2,none⟩=some (.slice D M E):=hY1.cell 2
   have hXl:=hX1.lt
   have hYl:=hY1.lt
   have j0:(i:Int)<(n:Int):=by omega
   have hnoA:NoUB (wr.alloc (.cells #[.bool s',.slice A L C,.slice D M E] 32)) (.slice A9 N c9):=k3.below k2 ((Below.refl _ _).alloc (Nat.le_refl _) _)
   have hkA:OkQ (wr.alloc (.cells #[.bool s',.slice A L C,.slice D M E] 32)) es rl:=k1.below ((Below.refl _ _).alloc (Nat.le_refl _) _)
   have hqA:IsQ (wr.alloc (.cells #[.bool s',.slice A L C,.slice D M E] 32)) (.agg #[.bool s',.slice A L C,.slice D M E]) r:=hq1.below ((Below.refl _ _).alloc (Nat.le_refl _) _)
   go_wp2_with (at_builtin;go_must (refine wpList_append_noU _ rfl _ _ 40 rfl base 32 i0 _ 3 56 Tryz.underlying40 hi hz0 hz1 hz2 rfl (by omega) (by simp[Value.cells,noU]) _ N (flatQ es) rfl (k2.alloc _) hnoA ⟨wr.heap.size,0,none⟩ 1 1 (cellsQ (s',.slice A L C,.slice D M E)) rfl rfl (lit3_cells _ _ _ _ _) (by simp[cellsQ,Value.oneCell']) (by simp[cellsQ,noU]) (by omega) (by unfold maxLen;omega) (by omega) (by simp;omega) ?_;intro v' w1 hown' hgrow hno' hat;obtain⟨A8,c8,ev8,_,_,_⟩:=own3_form hown';subst ev8;have hXw:Blk w1 X 40 #[.slice A9 N c9]:=(hgrow.block X (by simp;omega) (fun e=>by have:=(k2.lt X e.symm).1;omega)).trans ((Below.heap_alloc _ _ X hXl).trans hX1);have d0:w1.cell? ⟨X,0,none⟩=some (.slice A9 N c9):=hXw.cell 0;have f0:=hXw.frozen 0))
   have hpush:OwnQs w1 base (.slice A8 (N+1) c8) (rl++[r]):=OwnQs.push (e:=(s',.slice A L C,.slice D M E)) hkA hnoA (by rw[←HN.out];exact k2.alloc _) hqA (by rw[←HN.out];exact hown') hgrow hno'
   have hYw:Blk w1 Y 32 #[.bool s',.slice A L C,.slice D M E]:=(hgrow.block Y (by simp;omega) (fun e=>hvY1 e.symm)).trans ((Below.heap_alloc _ _ Y hYl).trans hY1)
   have hqw:IsQ w1 (.agg #[.bool s',.slice A L C,.slice D M E]) r:=hqA.kept (fun u n h=>IsL.noUB h hnoA (k2.alloc _) hgrow)
   have hv8:(Value.slice A8 (N+1) c8).ownBlock≠some Y:=fun e=>by
    rcases hat with h | h
    ·rw[h] at e;exact hvY1 e
    ·rw[h] at e;injection e with e;simp at e;omega
   have hv9:(Value.slice A8 (N+1) c8).ownBlock≠some X:=fun e=>by have:=(hown'.lt X e).1;omega
   have hBw:Below X w w1:=hB1.trans (((Below.refl X wr).alloc (by omega) _).grown hgrow (by simp;omega) (fun k e=>by have:=(k2.lt k e).1;omega))
   obtain⟨W,eW,f1,f2,f3,f4⟩:=fill1 hXw (.slice A8 (N+1) c8) (by simp[noU])
   rw[←eW]
   refine ⟨⟨i+1,_,by omega,congrArg (Value.int .i64) (by omega),f1,?_,f3 _ _ _ hYw (by omega),hqw.filled f2,hv8,f4 _ _ (Nat.le_refl _) hBw,by rw[eW];exact hA1.step hgrow hat _⟩,by simp[RowKit.intOf];omega⟩
   rw[HRR.out]
   subst eW
   exact hpush.far hv9 f2
  ·obtain rfl:i=n:=by omega
   go_wp2
   go_end0
   exact⟨⟨_,rfl⟩,⟨vi,hX1,ho1,hA1⟩,hB1⟩
end Go.Proofs.YtdnjdglekifhpaaGreat
namespace Go.Proofs.YtdnjdglekifhpaaGreat
theorem taken_digit {p hi lo c s k1 x b:Nat} (hp:hi*W64+lo=p) (hlo:lo<W64) (hs:s=(lo+c+0) % W64) (hk:k1=(lo+c+0) / W64) (hx:x<W64) (hb:b≤1) (hc:c<W64) (hhi:hi+1<W64):
 (x+W64 - s - b) % W64+p+c+b=x+(hi+k1+(if x<s+b then 1 else 0))*W64∧hi+k1<W64∧(x+W64 - s - b) % W64<W64:=by
 have hdm:=Nat.div_add_mod (lo+c+0) W64
 have hm:=Nat.mod_lt (lo+c+0) W64_pos
 rw[←hs,←hk] at hdm
 rw[←hs] at hm
 clear hs hk
 have hk1:k1≤1:=by
  rcases Nat.lt_or_ge k1 2 with h | h
  ·omega
  ·have :W64*2≤W64*k1:=Nat.mul_le_mul_left _ h
   omega
 have h3:=Nat.mod_lt (x+W64 - s - b) W64_pos
 refine ⟨?_,by omega,h3⟩
 subst hp
 unfold W64 at *
 by_cases h:x<s+b
 ·rw[if_pos h]
  rw[Nat.mod_eq_of_lt (by omega)]
  omega
 ·rw[if_neg h]
  have e:x+18446744073709551616 - s - b=(x - s - b)+18446744073709551616:=by omega
  rw[e,Nat.add_mod_right,Nat.mod_eq_of_lt (by omega)]
  omega
theorem hi_small {q y hi lo:Nat} (hq:q<W64) (hy:y<W64) (h:hi*W64+lo=q*y):hi+1<W64:=by
 have h1:q*y≤(W64 - 1)*(W64 - 1):=Nat.mul_le_mul (by omega) (by omega)
 have h2:(W64 - 1)*(W64 - 1)<(W64 - 1)*W64:=by unfold W64;decide
 have h3:hi*W64<(W64 - 1)*W64:=by omega
 have:=Nat.lt_of_mul_lt_mul_right h3
 omega
def TakenAt (L0 v:List Nat) (k q i:Nat) (L:List Nat) (c b:Nat):Prop:=
 L.length=L0.length∧Bd L∧c<W64∧b≤1∧L.take k=L0.take k∧L.drop (k+i)=L0.drop (k+i)∧
  num ((L.drop k).take i)+q*num (v.take i)=num ((L0.drop k).take i)+(c+b)*W64^i
theorem take_more {l:List Nat} {i:Nat} (h:i<l.length):l.take (i+1)=l.take i++[lat l i]:=by
 rw[List.take_add_one,List.getElem?_eq_getElem h]
 simp[lat,h]
theorem lat_drop (l:List Nat) (k i:Nat):lat (l.drop k) i=lat l (k+i):=by simp[lat]
theorem num_snoc (a:List Nat) (z:Nat):num (a++[z])=num a+W64^a.length*z:=by rw[num_append];simp[num]
theorem TakenAt.step {L0 v L:List Nat} {k q i c b x y x' c1 b':Nat} (h:TakenAt L0 v k q i L c b) (hi:i<v.length) (hk:k+v.length+1≤L0.length) (hx:x=lat L (k+i)) (hy:y=lat v i)
 (d:x'+q*y+c+b=x+(c1+b')*W64) (hc:c1<W64) (hb:b'≤1) (hx':x'<W64):TakenAt L0 v k q (i+1) (L.set (k+i) x') c1 b':=by
 obtain⟨t1,t2,_,_,t5,t6,t7⟩:=h
 have hxl:lat L0 (k+i)=x:=by
  rw[hx]
  have:=congrArg (fun l=>lat l 0) t6
  simp only[lat_drop,Nat.add_zero] at this
  exact this.symm
 refine ⟨by rw[List.length_set];exact t1,t2.set _ hx',hc,hb,?_,?_,?_⟩
 ·rw[List.take_set_of_le (by omega)];exact t5
 ·rw[List.drop_set_of_lt (by omega)]
  have:=congrArg (List.drop 1) t6
  rw[List.drop_drop,List.drop_drop] at this
  exact this
 ·have e1:((L.set (k+i) x').drop k).take (i+1)=(L.drop k).take i++[x']:=by
   rw[take_more (by rw[List.length_drop,List.length_set];omega),lat_drop]
   congr 1
   ·rw[List.drop_set,if_neg (by omega),show k+i - k=i by omega,List.take_set_of_le (Nat.le_refl _)]
   ·rw[lat_set,if_pos ⟨rfl,by omega⟩]
  have e2:((L0.drop k).take (i+1))=(L0.drop k).take i++[x]:=by
   rw[take_more (by rw[List.length_drop];omega),lat_drop,hxl]
  rw[e1,e2,take_more hi,num_snoc,num_snoc,num_snoc,←hy,Nat.pow_succ]
  have l1:((L.drop k).take i).length=i:=by rw[List.length_take,List.length_drop];omega
  have l2:((L0.drop k).take i).length=i:=by rw[List.length_take,List.length_drop];omega
  have l3:(v.take i).length=i:=by rw[List.length_take];omega
  rw[l1,l2,l3]
  generalize W64^i=K at *
  generalize num ((L.drop k).take i)=P at *
  generalize num ((L0.drop k).take i)=U at *
  generalize num (v.take i)=V at *
  have d2:=congrArg (fun z=>K*z) d
  simp only[Nat.mul_add] at d2
  rw[Nat.mul_add,←Nat.mul_assoc q K y,Nat.mul_comm q K,Nat.mul_assoc K q y]
  rw[Nat.add_mul] at t7
  have e3:(c1+b')*(K*W64)=K*(c1*W64)+K*(b'*W64):=by
   rw[Nat.add_mul,Nat.mul_comm K W64,←Nat.mul_assoc,←Nat.mul_assoc,Nat.mul_comm (c1*W64) K,Nat.mul_comm (b'*W64) K]
  rw[e3]
  rw[Nat.add_mul,Nat.mul_add,Nat.mul_comm c K,Nat.mul_comm b K] at *
  omega
theorem guess_more {B q r v1 v0 u0 n:Nat} (hn:q*v1+r=n) (h:r*B+u0<q*v0):n*B+u0<q*(v1*B+v0):=by
 subst hn
 rw[Nat.add_mul,Nat.mul_add,←Nat.mul_assoc]
 omega
theorem guess_stop {B q r v1 v0 u0 n:Nat} (hn:q*v1+r=n) (h:q*v0≤r*B+u0):q*(v1*B+v0)≤n*B+u0:=by
 subst hn
 rw[Nat.add_mul,Nat.mul_add,←Nat.mul_assoc]
 omega
theorem guess_over {B q r v0 u0:Nat} (hr:B≤r) (hq:q≤B) (hv:v0≤B):q*v0≤r*B+u0:=by
 have h1:q*v0≤B*B:=Nat.mul_le_mul hq hv
 have h2:B*B≤r*B:=Nat.mul_le_mul_right B hr
 omega
theorem guess_first {B v1 v0 u0 n:Nat} (hv:0<v1) (hu:u0<B):n*B+u0<(n / v1+1)*(v1*B+v0):=by
 have h1:n<(n / v1+1)*v1:=by
  have:=Nat.div_add_mod n v1
  have:=Nat.mod_lt n hv
  rw[Nat.add_mul,Nat.one_mul,Nat.mul_comm]
  omega
 have h2:(n+1)*B≤(n / v1+1)*v1*B:=Nat.mul_le_mul_right B h1
 rw[Nat.mul_add,←Nat.mul_assoc]
 rw[Nat.add_mul,Nat.one_mul] at h2
 have h3:0≤(n / v1+1)*v0:=Nat.zero_le _
 omega
theorem guess_fig {B K U V U3 V2 U' V' q:Nat} (hU:U=U3*K+U') (hU':U'<K) (hV:V=V2*K+V') (hV':V'<K) (hB:B≤V2) (hlt:U<V*B) (hq:q<B) (h1:q*V2≤U3) (h2:U3<(q+1)*V2∨q+1=B):
 U / V≤q∧q≤U / V+1:=by
 have hK:0<K:=by omega
 have hV0:0<V:=by
  have :0<V2*K:=Nat.mul_pos (by omega) hK
  omega
 have e1:V2*K≤V:=by omega
 refine ⟨?_,?_⟩
 ·have :U<(q+1)*V:=by
   rcases h2 with h2 | h2
   ·have a1:(U3+1)*K≤(q+1)*V2*K:=Nat.mul_le_mul_right K h2
    have a2:(q+1)*(V2*K)≤(q+1)*V:=Nat.mul_le_mul_left _ e1
    rw[Nat.mul_assoc,Nat.succ_mul] at a1
    have b1:U<U3*K+K:=by omega
    exact Nat.lt_of_lt_of_le b1 (Nat.le_trans a1 a2)
   ·rw[h2,Nat.mul_comm];exact hlt
  exact Nat.le_of_lt_succ ((Nat.div_lt_iff_lt_mul hV0).2 this)
 ·rcases Nat.eq_zero_or_pos q with h0 | h0
  ·rw[h0];exact Nat.zero_le _
  ·have a1:q*V2*K≤U3*K:=Nat.mul_le_mul_right K h1
   have a2:q*V'≤q*K:=Nat.mul_le_mul_left _ (by omega)
   have a3:q*K≤V2*K:=Nat.mul_le_mul_right K (by omega)
   have a4:q*V=q*V2*K+q*V':=by rw[hV,Nat.mul_add,Nat.mul_assoc]
   have a5:(q - 1)*V+V=q*V:=by
    rw[←Nat.succ_mul];congr 1;omega
   have :(q - 1)*V≤U:=by omega
   have:=(Nat.le_div_iff_mul_le hV0).2 this
   generalize U / V=d at *
   omega
theorem taken_fig {U V q:Nat} (hV:0<V) (h1:U / V≤q) (h2:q≤U / V+1):(q*V≤U→q=U / V∧U - q*V=U % V)∧(U<q*V→q - 1=U / V∧U+V - q*V=U % V∧0<q):=by
 have e:=Nat.div_add_mod U V
 have hm:=Nat.mod_lt U hV
 have k1:=fun h=>(Nat.le_div_iff_mul_le hV (x:=q) (y:=U)).2 h
 rw[Nat.mul_comm] at e
 generalize U % V=m at *
 generalize U / V=d at *
 refine ⟨fun h=>?_,fun h=>?_⟩
 ·obtain rfl:q=d:=Nat.le_antisymm (k1 h) h1
  exact⟨rfl,by omega⟩
 ·obtain rfl:q=d+1:=by
   rcases Nat.lt_or_ge d q with h' | h'
   ·omega
   ·exfalso
    obtain rfl:q=d:=Nat.le_antisymm h' h1
    omega
  rw[Nat.add_mul,Nat.one_mul] at h ⊢
  exact⟨by omega,by omega,by omega⟩
theorem win_set {L:List Nat} {k n x':Nat} (hk:k+n+1≤L.length):((L.set (k+n) x').drop k).take (n+1)=(L.drop k).take n++[x']:=by
 rw[take_more (by rw[List.length_drop,List.length_set];omega),lat_drop]
 congr 1
 ·rw[List.drop_set,if_neg (by omega),show k+n - k=n by omega,List.take_set_of_le (Nat.le_refl _)]
 ·rw[lat_set,if_pos ⟨rfl,by omega⟩]
theorem win_at {L:List Nat} {k n:Nat} (hk:k+n+1≤L.length):(L.drop k).take (n+1)=(L.drop k).take n++[lat L (k+n)]:=by
 rw[take_more (by rw[List.length_drop];omega),lat_drop]
theorem lat_of_drop {L L0:List Nat} {m:Nat} (h:L.drop m=L0.drop m):lat L m=lat L0 m:=by
 have:=congrArg (fun l=>lat l 0) h
 simpa only[lat_drop,Nat.add_zero] using this
theorem TakenAt.whole {L0 v L:List Nat} {k q c b:Nat} (h:TakenAt L0 v k q v.length L c b) (hk:k+v.length+1≤L0.length):
 num ((L.drop k).take v.length)+q*num v+W64^v.length*lat L (k+v.length)=num ((L0.drop k).take (v.length+1))+(c+b)*W64^v.length∧num ((L.drop k).take v.length)<W64^v.length:=by
 obtain⟨t1,t2,t3,t4,t5,t6,t7⟩:=h
 have hl:=lat_of_drop t6
 rw[List.take_length] at t7
 have l2:((L0.drop k).take v.length).length=v.length:=by rw[List.length_take,List.length_drop];omega
 refine ⟨?_,?_⟩
 ·rw[win_at hk,num_snoc,l2,hl,t7]
  omega
 ·have:=num_lt ((L.drop k).take v.length) (fun x hx=>t2 x (List.mem_of_mem_drop (List.mem_of_mem_take hx)))
  rwa [show ((L.drop k).take v.length).length=v.length by rw[List.length_take,List.length_drop];omega] at this
def TakenTo (L0 v:List Nat) (k R:Nat) (L:List Nat):Prop:=
 L.length=L0.length∧Bd L∧L.take k=L0.take k∧L.drop (k+v.length+1)=L0.drop (k+v.length+1)∧num ((L.drop k).take (v.length+1))=R
theorem TakenAt.end0 {L0 v L:List Nat} {k q c b x x':Nat} (h:TakenAt L0 v k q v.length L c b) (hk:k+v.length+1≤L0.length) (hx:x=lat L (k+v.length)) (hx':x'=(x+W64 - c - b) % W64) (hb:¬x<c+b)
 (hV:0<num v) (h1:num ((L0.drop k).take (v.length+1)) / num v≤q) (h2:q≤num ((L0.drop k).take (v.length+1)) / num v+1):
 q=num ((L0.drop k).take (v.length+1)) / num v∧TakenTo L0 v k (num ((L0.drop k).take (v.length+1)) % num v) (L.set (k+v.length) x'):=by
 obtain⟨w1,w2⟩:=h.whole hk
 obtain⟨t1,t2,t3,t4,t5,t6,t7⟩:=h
 have hxl:x<W64:=by rw[hx];exact t2.lat _
 have ex:x'=x - c - b:=by
  rw[hx',show x+W64 - c - b=(x - c - b)+W64 by omega,Nat.add_mod_right,Nat.mod_eq_of_lt (by omega)]
 have hxe:x=x'+(c+b):=by omega
 rw[←hx,hxe,Nat.mul_add,Nat.mul_comm (W64^v.length) (c+b)] at w1
 have hle:q*num v≤num ((L0.drop k).take (v.length+1)):=by
  generalize (c+b)*W64^v.length=z at *
  generalize W64^v.length*x'=z2 at *
  omega
 obtain⟨f1,_⟩:=taken_fig hV h1 h2
 obtain⟨f2,f3⟩:=f1 hle
 refine ⟨f2,by rw[List.length_set];exact t1,t2.set _ (by rw[ex];omega),?_,?_,?_⟩
 ·rw[List.take_set_of_le (by omega)];exact t5
 ·rw[List.drop_set_of_lt (by omega)]
  have:=congrArg (List.drop 1) t6
  rw[List.drop_drop,List.drop_drop] at this
  exact this
 ·rw[←f3,win_set (by omega),num_snoc,show ((L.drop k).take v.length).length=v.length by rw[List.length_take,List.length_drop];omega]
  generalize (c+b)*W64^v.length=z at *
  generalize W64^v.length*x'=z2 at *
  omega
theorem TakenAt.less {L0 v L:List Nat} {k q c b x:Nat} (h:TakenAt L0 v k q v.length L c b) (hk:k+v.length+1≤L0.length) (hx:x=lat L (k+v.length)) (hb:x<c+b):num ((L0.drop k).take (v.length+1))<q*num v:=by
 obtain⟨w1,w2⟩:=h.whole hk
 rw[←hx] at w1
 have :(x+1)*W64^v.length≤(c+b)*W64^v.length:=Nat.mul_le_mul_right _ hb
 rw[Nat.add_mul,Nat.one_mul,Nat.mul_comm x] at this
 generalize (c+b)*W64^v.length=z at *
 generalize W64^v.length*x=z2 at *
 omega
def AddAt (L1 v:List Nat) (k i:Nat) (L:List Nat) (c:Nat):Prop:=
 L.length=L1.length∧Bd L∧c≤1∧L.take k=L1.take k∧L.drop (k+i)=L1.drop (k+i)∧
  num ((L.drop k).take i)+c*W64^i=num ((L1.drop k).take i)+num (v.take i)
theorem AddAt.step {L0 v L:List Nat} {k i c x y s c1:Nat} (h:AddAt L0 v k i L c) (hi:i<v.length) (hk:k+v.length+1≤L0.length) (hx:x=lat L (k+i)) (hy:y=lat v i)
 (hs:s=(x+y+c) % W64) (hc:c1=(x+y+c) / W64) (bv:Bd v):AddAt L0 v k (i+1) (L.set (k+i) s) c1:=by
 obtain⟨t1,t2,t3,t5,t6,t7⟩:=h
 have hxl:lat L0 (k+i)=x:=by rw[hx];exact (lat_of_drop t6).symm
 have hdm:=Nat.div_add_mod (x+y+c) W64
 rw[←hs,←hc] at hdm
 have hsl:s<W64:=by rw[hs];exact Nat.mod_lt _ W64_pos
 have hx6:x<W64:=by rw[hx];exact t2.lat _
 have hy6:y<W64:=by rw[hy];exact bv.lat _
 have hc1:c1≤1:=by
  have :c1<2:=by rw[hc,Nat.div_lt_iff_lt_mul W64_pos];omega
  omega
 refine ⟨by rw[List.length_set];exact t1,t2.set _ hsl,hc1,?_,?_,?_⟩
 ·rw[List.take_set_of_le (by omega)];exact t5
 ·rw[List.drop_set_of_lt (by omega)]
  have:=congrArg (List.drop 1) t6
  rw[List.drop_drop,List.drop_drop] at this
  exact this
 ·have e2:((L0.drop k).take (i+1))=(L0.drop k).take i++[x]:=by
   rw[take_more (by rw[List.length_drop];omega),lat_drop,hxl]
  have e1:((L.set (k+i) s).drop k).take (i+1)=(L.drop k).take i++[s]:=win_set (by omega)
  rw[e1,e2,take_more hi,num_snoc,num_snoc,num_snoc,←hy,Nat.pow_succ]
  have l1:((L.drop k).take i).length=i:=by rw[List.length_take,List.length_drop];omega
  have l2:((L0.drop k).take i).length=i:=by rw[List.length_take,List.length_drop];omega
  have l3:(v.take i).length=i:=by rw[List.length_take];omega
  rw[l1,l2,l3]
  generalize W64^i=K at *
  generalize num ((L.drop k).take i)=P at *
  generalize num ((L0.drop k).take i)=U at *
  generalize num (v.take i)=V at *
  have d2:=congrArg (fun z=>K*z) hdm
  simp only[Nat.mul_add] at d2
  have e3:c1*(K*W64)=K*(W64*c1):=by rw[Nat.mul_comm c1,Nat.mul_assoc]
  rw[e3]
  rw[Nat.mul_comm c K] at t7
  omega
theorem TakenAt.end1 {L0 v L1 L2:List Nat} {k q c b x x' c2:Nat} (h:TakenAt L0 v k q v.length L1 c b) (hk:k+v.length+1≤L0.length) (hx:x=lat L1 (k+v.length)) (hx':x'=(x+W64 - c - b) % W64) (hb:x<c+b)
 (hV:0<num v) (bv:Bd v) (h1:num ((L0.drop k).take (v.length+1)) / num v≤q) (h2:q≤num ((L0.drop k).take (v.length+1)) / num v+1)
 (ha:AddAt (L1.set (k+v.length) x') v k v.length L2 c2):
 0<q∧q - 1=num ((L0.drop k).take (v.length+1)) / num v∧TakenTo L0 v k (num ((L0.drop k).take (v.length+1)) % num v) (L2.set (k+v.length) ((lat L2 (k+v.length)+c2) % W64)):=by
 obtain⟨_,f1⟩:=taken_fig hV h1 h2
 obtain⟨f2,f3,f4⟩:=f1 (h.less hk hx hb)
 obtain⟨w1,w2⟩:=h.whole hk
 have hlt:=h.less hk hx hb
 obtain⟨t1,t2,t3,t4,t5,t6,t7⟩:=h
 obtain⟨a1,a2,a3,a4,a5,a6⟩:=ha
 rw[List.length_set] at a1
 have hm:=Nat.mod_lt (num ((L0.drop k).take (v.length+1))) hV
 have hvK:num v<W64^v.length:=num_lt v bv
 rw[List.take_length] at a6
 have hxl:lat L2 (k+v.length)=x':=by rw[lat_of_drop a5,lat_set,if_pos ⟨rfl,by omega⟩]
 have e0:((L1.set (k+v.length) x').drop k).take v.length=(L1.drop k).take v.length:=by
  rw[List.drop_set,if_neg (by omega),show k+v.length - k=v.length by omega,List.take_set_of_le (Nat.le_refl _)]
 rw[e0] at a6
 have hD:num ((L2.drop k).take v.length)<W64^v.length:=by
  have:=num_lt ((L2.drop k).take v.length) (fun x hx=>a2 x (List.mem_of_mem_drop (List.mem_of_mem_take hx)))
  rwa [show ((L2.drop k).take v.length).length=v.length by rw[List.length_take,List.length_drop];omega] at this
 rw[←hx] at w1
 obtain⟨z,hz⟩:∃z,c+b=x+z:=⟨c+b - x,by omega⟩
 have hz1:1≤z:=by omega
 rw[hz,Nat.add_mul,Nat.mul_comm x] at w1
 have hxw:x<W64:=by rw[hx];exact t2.lat _
 refine ⟨f4,f2,?_⟩
 rw[←f3]
 rw[←f3] at hm
 generalize hR:num ((L0.drop k).take (v.length+1))+num v - q*num v=R at *
 have hcz:c2=1∧z=1∧R=num ((L2.drop k).take v.length):=by
  have hz2:z≤1∨2*W64^v.length≤z*W64^v.length:=by
   rcases Nat.lt_or_ge z 2 with hh | hh
   ·left;omega
   ·right;exact Nat.mul_le_mul_right _ hh
  have hz3:W64^v.length≤z*W64^v.length:=by have:=Nat.mul_le_mul_right (W64^v.length) hz1;omega
  have hc:c2=0∨c2=1:=by omega
  have hz4:z=1→z*W64^v.length=W64^v.length:=fun h=>by rw[h,Nat.one_mul]
  have hfit:q*num v≤num ((L0.drop k).take (v.length+1))+num v:=by
   have e:=Nat.div_add_mod (num ((L0.drop k).take (v.length+1))) (num v)
   have:=Nat.mul_le_mul_right (num v) h2
   rw[Nat.add_mul,Nat.one_mul,Nat.mul_comm (_ / _)] at this
   omega
  clear h1 h2 f1 f2 f3 e0 hx' a1 t1 a5 a4 t5 t6 t7
  rcases hc with hc | hc<;>subst hc
  ·rw[Nat.zero_mul] at a6
   exfalso
   generalize z*W64^v.length=zK at *
   generalize W64^v.length*x=xK at *
   generalize W64^v.length=K at *
   omega
  ·rw[Nat.one_mul] at a6
   rcases hz2 with hh | hh
   ·have hz5:z=1:=by omega
    have:=hz4 hz5
    refine ⟨rfl,hz5,?_⟩
    generalize z*W64^v.length=zK at *
    generalize W64^v.length*x=xK at *
    generalize W64^v.length=K at *
    omega
   ·exfalso
    generalize z*W64^v.length=zK at *
    generalize W64^v.length*x=xK at *
    generalize W64^v.length=K at *
    omega
 obtain⟨rfl,rfl,hRD⟩:=hcz
 have ex:x'+1=W64:=by
  rw[hx',show x+W64 - c - b=W64 - 1 by omega,Nat.mod_eq_of_lt (by unfold W64;omega)]
  unfold W64;omega
 have e9:(lat L2 (k+v.length)+1) % W64=0:=by rw[hxl,ex,Nat.mod_self]
 rw[e9]
 refine ⟨by rw[List.length_set];omega,a2.set _ W64_pos,?_,?_,?_⟩
 ·rw[List.take_set_of_le (by omega),a4,List.take_set_of_le (by omega)];exact t5
 ·rw[List.drop_set_of_lt (by omega)]
  have e1:=congrArg (List.drop 1) a5
  rw[List.drop_drop,List.drop_drop,List.drop_set_of_lt (by omega)] at e1
  have e2:=congrArg (List.drop 1) t6
  rw[List.drop_drop,List.drop_drop] at e2
  exact e1.trans e2
 ·rw[win_set (by omega),num_snoc,Nat.mul_zero,Nat.add_zero];exact hRD.symm
theorem split3 {w:List Nat} {k:Nat} (h:w.length=k+3):w=w.take k++[lat w k,lat w (k+1),lat w (k+2)]:=by
 have hl:(w.drop k).length=3:=by rw[List.length_drop];omega
 have hd:w.drop k=[lat w k,lat w (k+1),lat w (k+2)]:=by
  apply List.ext_getElem?
  intro i
  rcases Nat.lt_or_ge i 3 with hi | hi
  ·rw[List.getElem?_drop]
   have hb:k+i<w.length:=by omega
   rw[List.getElem?_eq_getElem hb]
   match i,hi with
   | 0, _ => have hb0 : k < w.length := by omega
             simp[lat,hb0]
   | 1,_=>simp[lat,hb]
   | 2,_=>simp[lat,hb]
  ·rw[List.getElem?_eq_none (by omega),List.getElem?_eq_none (by simpa using hi)]
 conv=>lhs;rw[←List.take_append_drop k w,hd]
theorem split2 {v:List Nat} {k:Nat} (h:v.length=k+2):v=v.take k++[lat v k,lat v (k+1)]:=by
 have hd:v.drop k=[lat v k,lat v (k+1)]:=by
  apply List.ext_getElem?
  intro i
  rcases Nat.lt_or_ge i 2 with hi | hi
  ·rw[List.getElem?_drop]
   have hb:k+i<v.length:=by omega
   rw[List.getElem?_eq_getElem hb]
   match i,hi with
   | 0, _ => have hb0 : k < v.length := by omega
             simp[lat,hb0]
   | 1,_=>simp[lat,hb]
  ·rw[List.getElem?_eq_none (by rw[List.length_drop];omega),List.getElem?_eq_none (by simpa using hi)]
 conv=>lhs;rw[←List.take_append_drop k v,hd]
theorem guess_lists {w v:List Nat} {k q:Nat} (hw:w.length=k+3) (hv:v.length=k+2) (bw:Bd w) (bv:Bd v) (hp:0<lat v (k+1)) (hlt:num w<num v*W64) (hq:q<W64)
 (h1:q*(lat v (k+1)*W64+lat v k)≤(lat w (k+2)*W64+lat w (k+1))*W64+lat w k)
 (h2:(lat w (k+2)*W64+lat w (k+1))*W64+lat w k<(q+1)*(lat v (k+1)*W64+lat v k)∨q+1=W64):num w / num v≤q∧q≤num w / num v+1:=by
 have eU:num w=((lat w (k+2)*W64+lat w (k+1))*W64+lat w k)*W64^k+num (w.take k):=by
  conv=>lhs;rw[split3 hw,num_append,List.length_take,Nat.min_eq_left (by omega)]
  simp only[num]
  generalize num (w.take k)=t
  generalize W64^k=K
  rw[Nat.mul_comm _ K,Nat.add_comm]
  congr 2
  simp only[Nat.mul_zero,Nat.add_zero,Nat.mul_add,Nat.add_mul]
  rw[Nat.mul_comm (lat w (k+2)*W64) W64,Nat.mul_comm (lat w (k+2)) W64,Nat.mul_comm (lat w (k+1)) W64]
  omega
 have eV:num v=(lat v (k+1)*W64+lat v k)*W64^k+num (v.take k):=by
  conv=>lhs;rw[split2 hv,num_append,List.length_take,Nat.min_eq_left (by omega)]
  simp only[num]
  generalize num (v.take k)=t
  generalize W64^k=K
  rw[Nat.mul_comm _ K,Nat.add_comm]
  congr 2
  simp only[Nat.mul_zero,Nat.add_zero]
  rw[Nat.mul_comm (lat v (k+1)) W64]
  omega
 have lU:num (w.take k)<W64^k:=by
  have:=num_lt (w.take k) (fun x hx=>bw x (List.mem_of_mem_take hx))
  rwa [List.length_take,Nat.min_eq_left (by omega)] at this
 have lV:num (v.take k)<W64^k:=by
  have:=num_lt (v.take k) (fun x hx=>bv x (List.mem_of_mem_take hx))
  rwa [List.length_take,Nat.min_eq_left (by omega)] at this
 have hB:W64≤lat v (k+1)*W64+lat v k:=by
  have :1*W64≤lat v (k+1)*W64:=Nat.mul_le_mul_right W64 hp
  omega
 exact guess_fig eU lU eV lV hB hlt hq h1 h2
theorem two64 {s:Nat} (h:s≤64):2^s*2^(64 - s)=W64:=by
 rw[←Nat.pow_add,show s+(64 - s)=64 by omega];rfl
theorem snocI {α:Type} {p:List α→Prop} (h0:p []) (h1:∀l x,p l→p (l++[x])):∀l,p l:=by
 have key:∀n (l:List α),l.length=n→p l:=by
  intro n
  induction n with
  | zero=>intro l hl;rw[List.eq_nil_of_length_eq_zero hl];exact h0
  | succ n ih =>
    intro l hl
    have hne:l≠[]:=by rintro rfl;simp at hl
    rw[←List.dropLast_concat_getLast hne]
    exact h1 _ _ (ih _ (by simp[hl]))
 exact fun l=>key _ l rfl
theorem shl_digit {s x:Nat} (hs:s≤64) (hx:x<W64):x*2^s=W64*(x / 2^(64 - s))+x*2^s % W64∧x / 2^(64 - s)<2^s∧(∃z,x*2^s % W64=z*2^s)∧∀c,c<2^s→x*2^s % W64+c<W64:=by
 have e:=two64 hs
 have hB:0<2^s:=Nat.pow_pos (by omega)
 have hD:0<2^(64 - s):=Nat.pow_pos (by omega)
 generalize 2^s=B at *
 generalize 2^(64 - s)=D at *
 have e1:x*B % W64=(x % D)*B:=by rw[←e,Nat.mul_comm B D,Nat.mul_mod_mul_right]
 have e2:x*B / W64=x / D:=by rw[←e,Nat.mul_comm B D,Nat.mul_div_mul_right _ _ hB]
 refine ⟨?_,?_,⟨_,e1⟩,fun c hc=>?_⟩
 ·rw[←e2];exact (Nat.div_add_mod _ _).symm
 ·rw[Nat.div_lt_iff_lt_mul hD,e];exact hx
 ·rw[e1]
  have h1:=Nat.mod_lt x hD
  have h2:(x % D+1)*B≤D*B:=Nat.mul_le_mul_right B h1
  rw[Nat.add_mul,Nat.one_mul,Nat.mul_comm D B,e] at h2
  omega
def shlF (s:Nat) (p:List Nat×Nat) (x:Nat):List Nat×Nat:=(p.1++[x*2^s % W64+p.2],x / 2^(64 - s))
def shlS (s m:Nat) (l:List Nat):List Nat×Nat:=l.foldl (shlF s) (zeros m,0)
theorem shlS_snoc (s m:Nat) (l:List Nat) (x:Nat):shlS s m (l++[x])=shlF s (shlS s m l) x:=by unfold shlS;rw[List.foldl_append];rfl
theorem shlS_ok {s m:Nat} (hs:s≤64) (l:List Nat):Bd l→((shlS s m l).1.length=m+l.length∧(shlS s m l).2<2^s∧Bd (shlS s m l).1∧num (shlS s m l).1+W64^(m+l.length)*(shlS s m l).2=W64^m*(num l*2^s)):=by
 refine snocI (p:=fun l=>Bd l→((shlS s m l).1.length=m+l.length∧(shlS s m l).2<2^s∧Bd (shlS s m l).1∧num (shlS s m l).1+W64^(m+l.length)*(shlS s m l).2=W64^m*(num l*2^s))) ?_ ?_ l
 ·intro _
  exact⟨by simp[shlS,zeros],Nat.pow_pos (by omega),Bd.zeros m,by simp[shlS,num_zeros,num]⟩
 ·intro l x ih hb
  have hx:x<W64:=hb x (by simp)
  obtain⟨i1,i2,i3,i4⟩:=ih (fun y hy=>hb y (by simp[hy]))
  obtain⟨d1,d2,_,d4⟩:=shl_digit hs hx
  rw[shlS_snoc]
  generalize shlS s m l=p at *
  refine ⟨by simp[shlF,i1];omega,d2,i3.snoc (d4 _ i2),?_⟩
  show num (p.1++[x*2^s % W64+p.2])+W64^(m+(l++[x]).length)*(x / 2^(64 - s))=_
  rw[num_append,num_single,i1,List.length_append,List.length_singleton,num_append,num_single,←Nat.add_assoc,Nat.pow_succ]
  have e1:W64^m*((num l+W64^l.length*x)*2^s)=W64^m*(num l*2^s)+W64^(m+l.length)*(x*2^s):=by
   rw[Nat.add_mul,Nat.mul_add,Nat.pow_add,Nat.mul_assoc (W64^l.length),Nat.mul_assoc (W64^m)]
  rw[e1,←i4]
  conv=>rhs;rw[d1]
  rw[Nat.mul_add,Nat.mul_add,Nat.mul_assoc (W64^(m+l.length)) W64]
  omega
theorem shl_all {l:List Nat} (hl:Bd l) (n:Nat):num ((shlS (n % 64) (n / 64) l).1++[(shlS (n % 64) (n / 64) l).2])=num l*2^n:=by
 obtain⟨i1,_,_,i4⟩:=shlS_ok (s:=n % 64) (m:=n / 64) (by omega) l hl
 rw[num_append,num_single,i1,i4,W64_pow,Nat.mul_comm,Nat.mul_assoc,←Nat.pow_add,show n % 64+64*(n / 64)=n by omega]
def shrL (s:Nat):List Nat→List Nat
 | []=>[]
 | x::l=>(x / 2^s+lat l 0*2^(64 - s) % W64)::shrL s l
theorem shrL_len (s:Nat):∀l:List Nat,(shrL s l).length=l.length
 | []=>rfl
 | _::l=>by unfold shrL;rw[List.length_cons,List.length_cons,shrL_len s l]
theorem shr_digit {s x:Nat} (hs:s≤64) (hx:x<W64):x / 2^s<2^(64 - s)∧∀z,z<2^s→x / 2^s+z*2^(64 - s)<W64:=by
 have e:=two64 hs
 have hB:0<2^s:=Nat.pow_pos (by omega)
 generalize 2^s=B at *
 generalize 2^(64 - s)=D at *
 have h1:x / B<D:=by rw[Nat.div_lt_iff_lt_mul hB,Nat.mul_comm,e];exact hx
 refine ⟨h1,fun z hz=>?_⟩
 have h2:(z+1)*D≤B*D:=Nat.mul_le_mul_right D hz
 rw[Nat.add_mul,Nat.one_mul,e] at h2
 omega
theorem shr_carry {s:Nat} (hs:s≤64) (y:Nat):y*2^(64 - s) % W64=(y % 2^s)*2^(64 - s):=by
 rw[←two64 hs,Nat.mul_mod_mul_right]
theorem shrL_bd {s:Nat} (hs:s≤64):∀{l:List Nat},Bd l→Bd (shrL s l)
 | [],_=>Bd.nil
 | x :: l, h => by
   refine Bd.cons ?_ (shrL_bd hs h.tail)
   rw[shr_carry hs]
   exact (shr_digit hs h.head).2 _ (Nat.mod_lt _ (Nat.pow_pos (by omega)))
theorem shrL_num {s:Nat} (hs:s≤64):∀l:List Nat,num (shrL s l)=num l / 2^s
 | []=>by simp[shrL,num]
 | x :: l => by
   have ih:=shrL_num hs l
   show x / 2^s+lat l 0*2^(64 - s) % W64+W64*num (shrL s l)=(x+W64*num l) / 2^s
   rw[ih,shr_carry hs]
   have e:=two64 hs
   have hB:0<2^s:=Nat.pow_pos (by omega)
   have hm:lat l 0 % 2^s=num l % 2^s:=by
    rcases l with _ | ⟨y,r⟩
    ·simp[lat,num]
    ·show y % 2^s=(y+W64*num r) % 2^s
     rw[←e,Nat.mul_assoc,Nat.add_mul_mod_self_left]
   rw[hm]
   generalize 2^s=B at *
   generalize 2^(64 - s)=D at *
   generalize num l=N at *
   have h1:(x+W64*N) / B=x / B+D*N:=by rw[←e,Nat.mul_assoc,Nat.add_mul_div_left _ _ hB]
   rw[h1]
   have h2:=Nat.div_add_mod N B
   generalize N / B=q at *
   generalize N % B=r at *
   rw[←h2,←e,Nat.mul_add,←Nat.mul_assoc,Nat.mul_comm D B,Nat.mul_comm r D]
   omega
theorem shrL_at (s:Nat) (l:List Nat) (i:Nat) (h:i<l.length):shrL s (l.drop i)=(lat l i / 2^s+lat (l.drop (i+1)) 0*2^(64 - s) % W64)::shrL s (l.drop (i+1)):=by
 rw[drop_lat l i h];rfl
theorem num_drop_div (l:List Nat) (hb:Bd l) (k:Nat):num (l.drop k)=num l / W64^k:=by
 rcases Nat.lt_or_ge k l.length with h | h
 ·have e:=num_split l k (Nat.le_of_lt h)
  have hl:num (l.take k)<W64^k:=by
   have:=num_lt (l.take k) (hb.take k)
   rwa [List.length_take,Nat.min_eq_left (Nat.le_of_lt h)] at this
  rw[e,Nat.add_mul_div_left _ _ (Nat.pow_pos W64_pos),Nat.div_eq_of_lt hl,Nat.zero_add]
 ·rw[List.drop_eq_nil_of_le h]
  have h1:=num_lt l hb
  have h2:W64^l.length≤W64^k:=Nat.pow_le_pow_right W64_pos h
  rw[Nat.div_eq_of_lt (Nat.lt_of_lt_of_le h1 h2)]
  rfl
theorem shr_all {l:List Nat} (hb:Bd l) (n:Nat):num (shrL (n % 64) (l.drop (n / 64)))=num l / 2^n:=by
 rw[shrL_num (by omega),num_drop_div l hb,W64_pow,Nat.div_div_eq_div_mul,←Nat.pow_add,show 64*(n / 64)+n % 64=n by omega]
theorem shr_none {l:List Nat} (hb:Bd l) {n:Nat} (h:l.length≤n / 64):num l / 2^n=0:=by
 rw[←shr_all hb,List.drop_eq_nil_of_le h];rfl
def DivAt (U:Nat) (v:List Nat) (m k:Nat) (Q L:List Nat):Prop:=
 Q.length=m∧Bd Q∧L.length=m+v.length∧Bd L∧num (L.drop k)<num v∧(∀j,j<k→lat Q j=0)∧num Q*num v+num L=U
theorem DivAt.start {U m:Nat} {v L:List Nat} (hL:L.length=m+v.length) (bL:Bd L) (hU:num L=U) (h:U<num v*W64^m):DivAt U v m m (zeros m) L:=by
 refine ⟨zeros_len m,Bd.zeros m,hL,bL,?_,fun j _=>lat_zeros m j,by rw[num_zeros,Nat.zero_mul,Nat.zero_add,hU]⟩
 rw[num_drop_div L bL m,hU,Nat.div_lt_iff_lt_mul (Nat.pow_pos W64_pos)]
 exact h
theorem DivAt.win {U m k:Nat} {v Q L:List Nat} (h:DivAt U v m (k+1) Q L) (hk:k<m) (bv:Bd v):
 num ((L.drop k).take (v.length+1))=num (L.drop k)∧num ((L.drop k).take (v.length+1))<num v*W64:=by
 obtain⟨q1,q2,l1,l2,l3,z,e⟩:=h
 have hd:L.drop k=lat L k::L.drop (k+1):=drop_lat L k (by omega)
 have hvK:=num_lt v bv
 have hx:=l2.lat k
 have b1:Bd (L.drop (k+1)):=fun x hx=>l2 x (List.mem_of_mem_drop hx)
 have ht:num ((L.drop (k+1)).take v.length)=num (L.drop (k+1)):=by
  rcases Nat.lt_or_ge v.length (L.drop (k+1)).length with hl | hl
  ·have e2:=num_split (L.drop (k+1)) v.length (Nat.le_of_lt hl)
   rcases Nat.eq_zero_or_pos (num ((L.drop (k+1)).drop v.length)) with h0 | h0
   ·rw[h0,Nat.mul_zero,Nat.add_zero] at e2;exact e2.symm
   ·have :W64^v.length*1≤W64^v.length*num ((L.drop (k+1)).drop v.length):=Nat.mul_le_mul_left _ h0
    omega
  ·rw[List.take_of_length_le hl]
 have e3:num ((L.drop k).take (v.length+1))=num (L.drop k):=by
  rw[hd,List.take_succ_cons]
  show lat L k+W64*num _=lat L k+W64*num _
  rw[ht]
 refine ⟨e3,?_⟩
 rw[e3,hd]
 show lat L k+W64*num (L.drop (k+1))<_
 have h9:W64*(num (L.drop (k+1))+1)≤W64*num v:=Nat.mul_le_mul_left _ l3
 rw[Nat.mul_add,Nat.mul_one] at h9
 rw[Nat.mul_comm (num v)]
 omega
theorem DivAt.step {U m k:Nat} {v Q L L':List Nat} (h:DivAt U v m (k+1) Q L) (hk:k<m) (bv:Bd v)
 (ht:TakenTo L v k (num ((L.drop k).take (v.length+1)) % num v) L'):
 DivAt U v m k (Q.set k (num ((L.drop k).take (v.length+1)) / num v)) L':=by
 obtain⟨w1,w2⟩:=h.win hk bv
 obtain⟨q1,q2,l1,l2,l3,z,e⟩:=h
 obtain⟨t1,t2,t3,t4,t5⟩:=ht
 have hV:0<num v:=by
  rcases Nat.eq_zero_or_pos (num v) with h0 | h0
  ·rw[h0] at l3;omega
  ·exact h0
 have hq:num ((L.drop k).take (v.length+1)) / num v<W64:=by rw[Nat.div_lt_iff_lt_mul hV,Nat.mul_comm];exact w2
 have hm:=Nat.mod_lt (num ((L.drop k).take (v.length+1))) hV
 have hdm:=Nat.div_add_mod (num ((L.drop k).take (v.length+1))) (num v)
 have hup:num (L.drop (k+v.length+1))=0:=by
  have e2:=num_split (L.drop k) (v.length+1) (by rw[List.length_drop];omega)
  rw[List.drop_drop,←Nat.add_assoc] at e2
  rw[w1] at e2
  have :W64^(v.length+1)*num (L.drop (k+v.length+1))=0:=by omega
  rcases Nat.mul_eq_zero.1 this with h0 | h0
  ·exact absurd h0 (Nat.ne_of_gt (Nat.pow_pos W64_pos))
  ·exact h0
 have hd':num (L'.drop k)=num ((L.drop k).take (v.length+1)) % num v:=by
  have e2:=num_split (L'.drop k) (v.length+1) (by rw[List.length_drop];omega)
  rw[List.drop_drop,←Nat.add_assoc,t4,hup,Nat.mul_zero,Nat.add_zero,t5] at e2
  exact e2
 refine ⟨by rw[List.length_set];exact q1,q2.set _ hq,by rw[t1];exact l1,t2,by rw[hd'];exact hm,fun j hj=>?_,?_⟩
 ·rw[lat_set,if_neg (by omega)];exact z j (by omega)
 ·have s1:=num_set Q k (num ((L.drop k).take (v.length+1)) / num v) (by omega)
  rw[z k (by omega),Nat.mul_zero,Nat.add_zero] at s1
  have s2:=num_split L k (by omega)
  have s3:=num_split L' k (by omega)
  rw[t3,hd'] at s3
  rw[←w1] at s2
  rw[s1,s3,←e,s2,Nat.add_mul]
  generalize num ((L.drop k).take (v.length+1))=W at *
  generalize W / num v=q at *
  generalize W % num v=r at *
  rw[←hdm,Nat.mul_add,Nat.mul_assoc,Nat.mul_comm q]
  omega
theorem DivAt.done {U m:Nat} {v Q L:List Nat} (h:DivAt U v m 0 Q L):num Q=U / num v∧num L=U % num v:=by
 obtain⟨q1,q2,l1,l2,l3,z,e⟩:=h
 rw[List.drop_zero] at l3
 have hV:0<num v:=by omega
 rw[←e,Nat.add_comm,Nat.mul_comm]
 refine ⟨?_,?_⟩
 ·rw[Nat.add_mul_div_left _ _ hV,Nat.div_eq_of_lt l3,Nat.zero_add]
 ·rw[Nat.add_mul_mod_self_left,Nat.mod_eq_of_lt l3]
theorem lat_win {L:List Nat} {k n i:Nat} (h:i<n):lat ((L.drop k).take n) i=lat L (k+i):=by
 unfold lat
 rw[List.getElem?_take,if_pos h,List.getElem?_drop]
theorem win_top {w v:List Nat} {j:Nat} (hw:w.length=j+3) (hv:v.length=j+2) (bv:Bd v) (h:num w<num v*W64):lat w (j+2)≤lat v (j+1):=by
 have e1:=num_take_succ w (j+2)
 rw[num_take_ge w (j+2+1) (by omega)] at e1
 have e2:=num_take_succ v (j+1)
 rw[num_take_ge v (j+1+1) (by omega)] at e2
 have lv:num (v.take (j+1))<W64^(j+1):=by
  have:=num_lt (v.take (j+1)) (bv.take _)
  rwa [List.length_take,Nat.min_eq_left (by omega)] at this
 rcases Nat.lt_or_ge (lat v (j+1)) (lat w (j+2)) with hh | hh
 ·exfalso
  have h1:W64^(j+2)*(lat v (j+1)+1)≤W64^(j+2)*lat w (j+2):=Nat.mul_le_mul_left _ hh
  rw[Nat.mul_add,Nat.mul_one,Nat.pow_succ W64 (j+1)] at h1
  have h2:num v+1≤W64^(j+1)*lat v (j+1)+W64^(j+1):=by omega
  have h3:=Nat.mul_le_mul_right W64 h2
  rw[Nat.add_mul,Nat.one_mul,Nat.add_mul,Nat.mul_right_comm] at h3
  rw[Nat.pow_succ W64 (j+1)] at e1
  have hp:=W64_pos
  omega
 ·exact hh
theorem norm_len {b n:Nat} (hn:(limbs b).length=n) (h0:0<n):(limbs (b*2^(64 - bl (lat (limbs b) (n - 1))))).length=n∧1≤bl (lat (limbs b) (n - 1))∧bl (lat (limbs b) (n - 1))≤64∧lat (limbs b) (n - 1)<W64:=by
 have hne:limbs b≠[]:=by intro h;rw[h] at hn;simp at hn;omega
 have hbl:=bl_num (limbs_bd b) (limbs_rt b) hne
 rw[num_limbs,hn] at hbl
 have ht:lat (limbs b) (n - 1)≠0:=by
  rcases limbs_rt b with h | h
  ·exact absurd h hne
  ·rwa [hn] at h
 have htW:=(limbs_bd b).lat (n - 1)
 generalize lat (limbs b) (n - 1)=t at *
 have h1:bl t≤64:=bl_le_iff.2 (show t<2^64 from htW)
 have h2:1≤bl t:=by rw[bl_pos ht];omega
 refine ⟨?_,h2,h1,htW⟩
 have hb:=lt_bl b
 rw[hbl] at hb
 have hlt:b*2^(64 - bl t)<W64^n:=by
  have h3:b*2^(64 - bl t)<2^(64*(n - 1)+bl t)*2^(64 - bl t):=Nat.mul_lt_mul_of_pos_right hb (Nat.pow_pos (by omega))
  rw[←Nat.pow_add,show 64*(n - 1)+bl t+(64 - bl t)=64*n by omega] at h3
  rw[W64_pow];exact h3
 have l1:=limbs_len_le hlt
 have l2:(limbs b).length≤(limbs (b*2^(64 - bl t))).length:=limbs_len_mono (Nat.le_mul_of_pos_right _ (Nat.pow_pos (by omega)))
 omega
theorem up_len {a s:Nat} (hs:s<64):(limbs (a*2^s)).length≤(limbs a).length+1:=by
 apply limbs_len_le
 have h1:a<W64^(limbs a).length:=lt_of_limbs_len (Nat.le_refl _)
 have h2:2^s≤W64:=by rw[←two64 (s:=s) (by omega)];exact Nat.le_mul_of_pos_right _ (Nat.pow_pos (by omega))
 have hp:=W64_pos
 rw[Nat.pow_succ]
 exact Nat.lt_of_lt_of_le (Nat.mul_lt_mul_of_pos_right h1 (Nat.pow_pos (by omega))) (Nat.mul_le_mul_left _ h2)
theorem up_below {a b s n m:Nat} (hn:(limbs b).length=n) (h0:0<n) (hm:(limbs a).length+1=m+n):a*2^s<b*2^s*W64^m:=by
 have h1:a<W64^(limbs a).length:=lt_of_limbs_len (Nat.le_refl _)
 have h2:W64^(n - 1)≤b:=le_of_limbs_len (by omega)
 have h3:W64^(n - 1)*W64^m≤b*W64^m:=Nat.mul_le_mul_right _ h2
 rw[←Nat.pow_add,show n - 1+m=(limbs a).length by omega] at h3
 rw[Nat.mul_right_comm]
 exact Nat.mul_lt_mul_of_pos_right (Nat.lt_of_lt_of_le h1 h3) (Nat.pow_pos (by omega))
theorem num_app_zeros (l:List Nat) (j:Nat):num (l++zeros j)=num l:=by rw[num_append,num_zeros,Nat.mul_zero,Nat.add_zero]
theorem Bd.app {a b:List Nat} (ha:Bd a) (hb:Bd b):Bd (a++b):=fun x hx=>by
 rcases List.mem_append.1 hx with h | h
 ·exact ha x h
 ·exact hb x h
theorem up_div (a b s:Nat):a*2^s / (b*2^s)=a / b∧a*2^s % (b*2^s)=(a % b)*2^s∧(a % b)*2^s / 2^s=a % b:=
 ⟨Nat.mul_div_mul_right _ _ (Nat.pow_pos (by omega)),Nat.mul_mod_mul_right _ _ _,Nat.mul_div_cancel _ (Nat.pow_pos (by omega))⟩
open Go.RowKit
theorem lz64_any (x:Nat) (hx:x<W64) (w:World):
 Calls Tryz.prog 197 #[.int .u64 x] w fun e w'=>e= .returned (.int .i64 (64 - (bl x:Int)))∧w=w':=by
 have hb:=bl_le_iff.2 (show x<2^64 from hx)
 have hl:=len64_any x hx w
 go_enter Tryz.func197,Tryz.ntmps197
 go_wp2_with fail
 refine hl.mono ?_
 rintro e w' ⟨rfl,rfl⟩
 go_wp2
 go_ret
 exact⟨rfl,rfl⟩
theorem div64_nought (lo y:Nat) (hl:lo<W64) (hy:y<W64) (h:0<y) (w:World):
 Calls Tryz.prog 215 #[.int .u64 (0:Nat),.int .u64 lo,.int .u64 y] w fun e w'=>e= .returned (.tuple #[.int .u64 ((lo / y:Nat):Int),.int .u64 ((lo % y:Nat):Int)])∧∃n,w'=w.drewN n:=by
 unfold W64 at *
 have h0:((y:Int) == 0)=false:=by simp;omega
 have h1:¬((y:Int)≤0):=by omega
 have hq:(lo:Int).tdiv (y:Int)=((lo / y:Nat):Int):=by rw[Int.tdiv_eq_ediv_of_nonneg (by omega)];simp
 have hr:(lo:Int).tmod (y:Int)=((lo % y:Nat):Int):=by rw[Int.tmod_eq_emod_of_nonneg (by omega)];simp
 have hqb:lo / y≤lo:=Nat.div_le_self _ _
 have hrb:lo % y≤lo:=Nat.mod_le _ _
 generalize lo / y=q at *
 generalize lo % y=r at *
 have hwq:IntKind.u64.wrap (q:Int)=(q:Int):=by rw[IntKind.wrap_u64];omega
 have hwr:IntKind.u64.wrap (r:Int)=(r:Int):=by rw[IntKind.wrap_u64];omega
 go_enter Tryz.func215,Tryz.ntmps215
 go_wp2
 go_quiet (fail)
 all_goals go_wp2
 go_ret2
 exact⟨rfl,_,rfl⟩
theorem ret_u64 {a b:Nat} (h:a=b):Value.int .u64 (a:Int)=Value.int .u64 (b:Int):=by rw[h]
theorem pow_split (s:Nat) (h:s≤64):2^s*2^(64 - s)=W64:=by rw[←Nat.pow_add,show s+(64 - s)=64 from by omega];rfl
theorem moved_up (hi lo y s:Nat) (hl:lo<W64) (h:hi<y) (hs:s≤64) (hY:y*2^s<W64):
 hi*2^s<W64∧lo / 2^(64 - s)<2^s∧hi*2^s+lo / 2^(64 - s)<y*2^s∧(hi*2^s+lo / 2^(64 - s))*W64+lo*2^s % W64=(hi*W64+lo)*2^s:=by
 have hp:=pow_split s hs
 have h1:(hi+1)*2^s≤y*2^s:=Nat.mul_le_mul_right _ h
 have hpp:0<2^(64 - s):=Nat.pow_pos (by omega)
 have h2:lo / 2^(64 - s)<2^s:=by
  rw[Nat.div_lt_iff_lt_mul hpp,hp];exact hl
 have h3:lo*2^s % W64=(lo % 2^(64 - s))*2^s:=by
  rw[←hp,Nat.mul_comm (2^s) (2^(64 - s)),Nat.mul_mod_mul_right]
 have h4:=Nat.div_add_mod lo (2^(64 - s))
 rw[Nat.add_mul] at h1
 refine ⟨by omega,h2,by omega,?_⟩
 rw[h3]
 generalize lo / 2^(64 - s)=a at *
 generalize lo % 2^(64 - s)=b at *
 rw[←h4,←hp]
 generalize 2^s=c at *
 generalize 2^(64 - s)=d at *
 grind
theorem or_add (a b s:Nat) (h:b<2^s):a*2^s ||| b=a*2^s+b:=by
 rw[Nat.mul_comm,Nat.two_pow_add_eq_or_of_lt h]
theorem and_low (a:Nat):a &&& 4294967295=a % W32:=by rw[W32_eq];exact Nat.and_two_pow_sub_one_eq_mod a 32
theorem bl_norm (y:Nat) (h0:0<y) (hy:y<W64):1≤bl y∧bl y≤64∧y*2^(64 - bl y)<W64∧W64≤2*(y*2^(64 - bl y)):=by
 have h1:=bl_le_iff.2 (show y<2^64 from hy)
 have h2:1≤bl y:=by rw[bl_pos (by omega)];omega
 have h3:y<2^bl y:=bl_le_iff.1 (Nat.le_refl _)
 have h4:¬(y<2^(bl y - 1)):=fun h=>by have:=bl_le_iff.2 h;omega
 have hp:2^bl y*2^(64 - bl y)=W64:=pow_split _ h1
 have hpp:0<2^(64 - bl y):=Nat.pow_pos (by omega)
 have hd:2^bl y=2*2^(bl y - 1):=by rw[←Nat.pow_succ'];congr 1;omega
 refine ⟨h2,h1,by rw[←hp];exact Nat.mul_lt_mul_of_pos_right h3 hpp,?_⟩
 rw[←hp,hd,Nat.mul_assoc]
 exact Nat.mul_le_mul_left _ (Nat.mul_le_mul_right _ (by omega))
theorem u64_shl (a s:Nat) (h:a*2^s<W64):IntKind.u64.wrap ((a:Int)*2^s)=((a*2^s:Nat):Int):=by
 rw[IntKind.wrap_u64,show (a:Int)*2^s=((a*2^s:Nat):Int) from by simp];unfold W64 at h;omega
theorem u64_shl_mod (a s:Nat):IntKind.u64.wrap ((a:Int)*2^s)=((a*2^s % W64:Nat):Int):=by
 rw[IntKind.wrap_u64,show (a:Int)*2^s=((a*2^s:Nat):Int) from by simp];unfold W64;omega
theorem int_div_pow (a s:Nat):(a:Int) / 2^s=((a / 2^s:Nat):Int):=by simp
theorem u64_mul_mod (a b:Nat):IntKind.u64.wrap ((a:Int)*(b:Int))=((a*b % W64:Nat):Int):=by
 rw[IntKind.wrap_u64,←Int.natCast_mul];unfold W64;omega
theorem u64_add_mod (a b:Nat):IntKind.u64.wrap ((a:Int)+(b:Int))=(((a+b) % W64:Nat):Int):=by
 rw[IntKind.wrap_u64];unfold W64;omega
theorem u64_sub_mod (a b:Nat) (h:b≤W64):IntKind.u64.wrap ((a:Int) - (b:Int))=(((a+W64 - b) % W64:Nat):Int):=by
 rw[IntKind.wrap_u64];unfold W64 at *;omega
theorem first_walk (u v1:Nat) (hu:u<W64) (h:u / v1≤W32+1):(u:Int).tdiv (v1:Int)=((u / v1:Nat):Int)∧IntKind.u64.wrap ((u / v1:Nat):Int)=((u / v1:Nat):Int)∧IntKind.u64.wrap (((u / v1:Nat):Int)*(v1:Int))=((u / v1*v1:Nat):Int)∧IntKind.u64.wrap ((u:Int) - ((u / v1*v1:Nat):Int))=((u % v1:Nat):Int):=by
 have hqv:u / v1*v1≤u:=Nat.div_mul_le_self _ _
 have hd:=Nat.div_add_mod u v1
 rw[Nat.mul_comm] at hd
 refine ⟨by rw[Int.tdiv_eq_ediv_of_nonneg (by omega)];simp,?_,?_,?_⟩
 ·generalize u / v1=q at *
  rw[IntKind.wrap_u64];simp only[W32_eq] at h;omega
 ·rw[u64_mul_mod,Nat.mod_eq_of_lt (by omega)]
 ·generalize u / v1*v1=q at *
  generalize u % v1=r at *
  rw[IntKind.wrap_u64];unfold W64 at hu;omega
theorem W64_sq:W64=W32*W32:=by simp only[W32_eq,W64]
theorem two_figs (u n1 n0 Y:Nat) (hY:0<Y):(u*(W32*W32)+(n1*W32+n0)) / Y=(u*W32+n1) / Y*W32+((u*W32+n1) % Y*W32+n0) / Y∧(u*(W32*W32)+(n1*W32+n0)) % Y=((u*W32+n1) % Y*W32+n0) % Y:=by
 have h:=Nat.div_add_mod (u*W32+n1) Y
 have e:u*(W32*W32)+(n1*W32+n0)=(u*W32+n1)*W32+n0:=by grind
 generalize (u*W32+n1) / Y=q at *
 generalize (u*W32+n1) % Y=r at *
 have e2:(u*W32+n1)*W32+n0=(r*W32+n0)+(q*W32)*Y:=by rw[←h];grind
 rw[e,e2,Nat.add_mul_div_right _ _ hY,Nat.add_mul_mod_self_right]
 exact⟨by omega,rfl⟩
theorem mid_walk (u n q Y r:Nat) (h:((u*W32+n) % W64+W64 - (q*Y) % W64) % W64=r):
 IntKind.u64.wrap ((u:Int)*4294967296)=((u*W32 % W64:Nat):Int)∧IntKind.u64.wrap (((u*W32 % W64:Nat):Int)+(n:Int))=(((u*W32+n) % W64:Nat):Int)∧
 IntKind.u64.wrap ((q:Int)*(Y:Int))=((q*Y % W64:Nat):Int)∧IntKind.u64.wrap ((((u*W32+n) % W64:Nat):Int) - ((q*Y % W64:Nat):Int))=(r:Int)∧True:=by
 refine ⟨?_,?_,u64_mul_mod q Y,?_,trivial⟩
 ·rw[IntKind.wrap_u64];unfold W64;simp only[W32_eq];omega
 ·rw[u64_add_mod,Nat.mod_add_mod]
 ·rw[u64_sub_mod _ _ (Nat.le_of_lt (Nat.mod_lt (q*Y) W64_pos)),h]
theorem div64_some (hi lo y:Nat) (hl:lo<W64) (hy:y<W64) (h:hi<y) (h0:0<hi) (w:World):
 Calls Tryz.prog 215 #[.int .u64 hi,.int .u64 lo,.int .u64 y] w fun e w'=>e= .returned (.tuple #[.int .u64 (((hi*W64+lo) / y:Nat):Int),.int .u64 (((hi*W64+lo) % y:Nat):Int)])∧w=w':=by
 obtain⟨z1,z2,z3,z4⟩:=bl_norm y (by omega) hy
 have hz:=lz64_any y hy w
 obtain⟨s,hs⟩:∃s:Nat,s=64 - bl y:=⟨_,rfl⟩
 have e1:(64 - (bl y:Int))=(s:Int):=by omega
 rw[e1] at hz
 rw[←hs] at z3 z4
 have hs64:s<64:=by omega
 clear hs e1 z1 z2
 obtain⟨m1,m2,m3,m4⟩:=moved_up hi lo y s hl h (by omega) z3
 have hwY:=u64_shl y s z3
 have hwH:=u64_shl hi s m1
 have hwL:=u64_shl_mod lo s
 have hwD:=int_div_pow lo (64 - s)
 have hLm:lo*2^s % W64<W64:=Nat.mod_lt _ W64_pos
 have hor:(hi*2^s) ||| (lo / 2^(64 - s))=hi*2^s+lo / 2^(64 - s):=or_add _ _ _ m2
 have hwOr:=u64_or_nat (hi*2^s) (lo / 2^(64 - s)) (by unfold W64 at m1;omega) (by unfold W64 at hl;have:=Nat.div_le_self lo (2^(64 - s));omega)
 rw[hor] at hwOr
 have hans1:(hi*W64+lo) / y=((hi*W64+lo)*2^s) / (y*2^s):=(Nat.mul_div_mul_right _ _ (Nat.pow_pos (by omega))).symm
 have hans2:(hi*W64+lo) % y=((hi*W64+lo)*2^s) % (y*2^s) / 2^s:=by
  rw[Nat.mul_mod_mul_right,Nat.mul_div_cancel _ (Nat.pow_pos (by omega))]
 rw[←m4] at hans1 hans2
 have e64:∀x l,x*W64+l=x*(W32*W32)+l:=by intro x l;rw[W64_sq]
 rw[e64 (hi*2^s+lo / 2^(64 - s))] at hans1 hans2
 clear e64
 have hans:=Lib.hid (And.intro hans1 hans2)
 clear hans1 hans2 m4 hor m2
 generalize hYe:y*2^s=Y at *
 generalize hHe:hi*2^s=H at *
 generalize hLe:lo*2^s % W64=L at *
 generalize hDe:lo / 2^(64 - s)=D at *
 generalize hue:H+D=u at *
 clear hYe hHe hLe hDe hue m1
 have hsm:=Lib.hid (fun x:Nat=>int_div_pow x s)
 have hYs:Y=Y / W32*W32+Y % W32:=by simp only[W32_eq];omega
 have hwv1:(Y:Int) / 4294967296=((Y / W32:Nat):Int):=by simp only[W32_eq];omega
 have hwv0:bits .and .u64 (Y:Int) 4294967295=((Y % W32:Nat):Int):=by rw[←and_low];exact u64_and_nat Y 4294967295 (by unfold W64 at z3;omega) (by omega)
 have hLs:L=L / W32*W32+L % W32:=by simp only[W32_eq];omega
 have hwn1:(L:Int) / 4294967296=((L / W32:Nat):Int):=by simp only[W32_eq];omega
 have hwn0:bits .and .u64 (L:Int) 4294967295=((L % W32:Nat):Int):=by rw[←and_low];exact u64_and_nat L 4294967295 (by unfold W64 at hLm;omega) (by omega)
 have hv0:Y % W32<W32:=Nat.mod_lt _ (by simp only[W32_eq];omega)
 have hn0:L % W32<W32:=Nat.mod_lt _ (by simp only[W32_eq];omega)
 have hv1:2147483648≤Y / W32∧Y / W32<W32:=by unfold W64 at *;simp only[W32_eq] at *;omega
 have hn1:L / W32<W32:=by unfold W64 at *;simp only[W32_eq] at *;omega
 generalize Y / W32=v1 at *
 generalize Y % W32=v0 at *
 generalize L / W32=n1 at *
 generalize L % W32=n0 at *
 obtain⟨hv1a,hv1b⟩:=hv1
 have hY:=Lib.hid hYs
 have hL:=Lib.hid hLs
 clear hYs hLs
 have hz1:(v1:Int)≠0:=by omega
 have hz2:¬(v1=0):=by omega
 have hz3:((v1:Int) == 0)=false:=by simp;omega
 have hY64:Y<18446744073709551616:=z3
 have hf1:=q_first hY.out hv1a hv0 m3 hn1
 have hrl1:u % v1<W32:=Nat.lt_trans (Nat.mod_lt _ (by omega)) hv1b
 have hu64:u<W64:=Nat.lt_trans m3 z3
 obtain⟨hwq1,hwqw1,hwm1,hwr1⟩:=first_walk u v1 hu64 hf1.1
 generalize u / v1=qa at *
 generalize u % v1=ra at *
 generalize qa*v1=qav at hwm1 hwr1
 have Hf1:=Lib.hid hf1
 clear hf1
 have hu:=m3
 go_enter Tryz.func215,Tryz.ntmps215
 have hy0:((y:Int) == 0)=false:=by simp;omega
 have hy1:¬((y:Int)≤hi):=by omega
 have hh0:((hi:Int) == 0)=false:=by simp;omega
 have hh1:decide (hi=0)=false:=by simp;omega
 have hh2:¬(hi=0):=by omega
 go_upto_block 0 with (refine hz.mono ?_;rintro e w' ⟨rfl,rfl⟩)
 go_cut [15] (fun s wx=>s= .int .u64 (((u*W32+n1) / Y:Nat):Int)∧wx=w)
 case first=>
  go_wp2_with fail
  go_loopw [15,16] (fun a b wr=>∃q r:Nat,q≤W32+1∧Hid (q*v1+r=u)∧u*W32+n1<(q+1)*Y∧r<W32∧a= .int .u64 q∧b= .int .u64 r∧wr=w) (fun a _ _=>(intOf a).toNat)
  case atStart=>exact⟨_,_,Hf1.out.1,Lib.hid Hf1.out.2.1,Hf1.out.2.2,hrl1,rfl,rfl,rfl⟩
  case round=>
   obtain⟨q,r,hq1,hqr,hbig,hrW,rfl,rfl,rfl⟩:=hrel
   have hm1:IntKind.u64.wrap ((4294967296:Int)*(r:Int))=((W32*r:Nat):Int):=by rw[IntKind.wrap_u64];simp only[W32_eq] at *;omega
   have hm2:IntKind.u64.wrap (((W32*r:Nat):Int)+(n1:Int))=((W32*r+n1:Nat):Int):=by rw[IntKind.wrap_u64];simp only[W32_eq] at *;omega
   by_cases hA:W32≤q
   ·have hA':decide ((4294967296:Int)≤(q:Int))=true:=by simp only[W32_eq] at hA;exact decide_eq_true (by omega)
    have hbig:u*W32+n1<q*Y:=q_huge hu hn1 hA
    have HA:=Lib.hid hA
    clear hm1 hm2 hA
    have hp:0<q:=by
     rcases Nat.eq_zero_or_pos q with h | h
     ·subst h;simp at hbig
     ·exact h
    have hdn:=Lib.hid (q_down hqr.out hp)
    have hwd:IntKind.u64.wrap ((q:Int) - 1)=((q - 1:Nat):Int):=by rw[IntKind.wrap_u64];simp only[W32_eq] at *;omega
    have hwr:IntKind.u64.wrap ((r:Int)+(v1:Int))=((r+v1:Nat):Int):=by rw[IntKind.wrap_u64];simp only[W32_eq] at *;omega
    obtain⟨q',hq'⟩:∃q',q'=q - 1:=⟨_,rfl⟩
    obtain⟨r',hr'⟩:∃r',r'=r+v1:=⟨_,rfl⟩
    rw[←hq'] at hwd hdn
    rw[←hr'] at hwr hdn
    have hb2:Hid (u*W32+n1<(q'+1)*Y):=by rw[hq',Nat.sub_add_cancel hp];exact hbig
    have hq1':q'≤W32:=by omega
    have Hq':=Lib.hid hq'
    have Hr':=Lib.hid hr'
    clear hq' hr' hbig
    have hbm:q'<q:=by rw[Hq'.out];omega
    have HqW:=Lib.hid hq1
    clear hq1
    by_cases hC:W32≤r'
    ·have hC':decide ((4294967296:Int)≤(r':Int))=true:=by simp only[W32_eq] at hC;exact decide_eq_true (by omega)
     have HC:=Lib.hid hC
     have Hq1:=Lib.hid hq1'
     have Hv0:=Lib.hid hv0
     clear hC hq1' hv0 hrW hbm
     go_wp2
     go_meet
     case rel=>exact⟨ret_u64 (q_is (q_ok hY.out hdn.out (q_break HC.out Hq1.out Hv0.out)) hb2.out),by trivial⟩
    ·have hC':decide ((4294967296:Int)≤(r':Int))=false:=by simp only[W32_eq] at hC;exact decide_eq_false (by omega)
     have HC:=Lib.hid hC
     have Hq1:=Lib.hid hq1'
     have Hrw:=Lib.hid hrW
     clear hC hq1' hrW
     go_wp2
     refine ⟨⟨q',r',by have:=Hq1.out;omega,hdn,hb2.out,by have:=HC.out;omega,rfl,rfl,by trivial⟩,by simp[intOf];omega⟩
   ·have hA':decide ((4294967296:Int)≤(q:Int))=false:=by simp only[W32_eq] at hA;exact decide_eq_false (by omega)
    have hqv:q*v0<W64:=by
     have h1:q*v0≤W32*v0:=Nat.mul_le_mul_right _ (by omega)
     unfold W64 at *;simp only[W32_eq] at *;omega
    have hm0:IntKind.u64.wrap ((q:Int)*(v0:Int))=((q*v0:Nat):Int):=by rw[IntKind.wrap_u64];unfold W64 at *;rw[←Int.natCast_mul];omega
    obtain⟨x1,hx1⟩:∃x,x=q*v0:=⟨_,rfl⟩
    obtain⟨x2,hx2⟩:∃x,x=W32*r+n1:=⟨_,rfl⟩
    obtain⟨x3,hx3⟩:∃x,x=W32*r:=⟨_,rfl⟩
    rw[←hx1] at hm0
    rw[←hx3] at hm1
    rw[←hx2,←hx3] at hm2
    by_cases hB:x2<x1
    ·have hbig:u*W32+n1<q*Y:=q_big hY.out hqr.out (by rw[←hx1,←hx2];exact hB)
     have Hx1:=Lib.hid hx1
     have Hx2:=Lib.hid hx2
     have Hx3:=Lib.hid hx3
     have hB':decide (x2<x1)=true:=decide_eq_true hB
     have hB3:decide ((x2:Int)<(x1:Int))=true:=decide_eq_true (by omega)
     clear hx1 hx2 hx3 hqv hB hA
     have hp:0<q:=by
      rcases Nat.eq_zero_or_pos q with h | h
      ·subst h;simp at hbig
      ·exact h
     have hdn:=Lib.hid (q_down hqr.out hp)
     have hwd:IntKind.u64.wrap ((q:Int) - 1)=((q - 1:Nat):Int):=by rw[IntKind.wrap_u64];simp only[W32_eq] at *;omega
     have hwr:IntKind.u64.wrap ((r:Int)+(v1:Int))=((r+v1:Nat):Int):=by rw[IntKind.wrap_u64];simp only[W32_eq] at *;omega
     obtain⟨q',hq'⟩:∃q',q'=q - 1:=⟨_,rfl⟩
     obtain⟨r',hr'⟩:∃r',r'=r+v1:=⟨_,rfl⟩
     rw[←hq'] at hwd hdn
     rw[←hr'] at hwr hdn
     have hb2:Hid (u*W32+n1<(q'+1)*Y):=by rw[hq',Nat.sub_add_cancel hp];exact hbig
     have hq1':q'≤W32:=by omega
     have Hq':=Lib.hid hq'
     have Hr':=Lib.hid hr'
     clear hq' hr' hbig
     have hbm:q'<q:=by rw[Hq'.out];omega
     have HqW:=Lib.hid hq1
     clear hq1
     by_cases hC:W32≤r'
     ·have hC':decide ((4294967296:Int)≤(r':Int))=true:=by simp only[W32_eq] at hC;exact decide_eq_true (by omega)
      have HC:=Lib.hid hC
      have Hq1:=Lib.hid hq1'
      have Hv0:=Lib.hid hv0
      clear hC hq1' hv0 hrW hbm
      go_wp2
      go_meet
      case rel=>exact⟨ret_u64 (q_is (q_ok hY.out hdn.out (q_break HC.out Hq1.out Hv0.out)) hb2.out),by trivial⟩
     ·have hC':decide ((4294967296:Int)≤(r':Int))=false:=by simp only[W32_eq] at hC;exact decide_eq_false (by omega)
      have HC:=Lib.hid hC
      have Hq1:=Lib.hid hq1'
      have Hrw:=Lib.hid hrW
      clear hC hq1' hrW
      go_wp2
      refine ⟨⟨q',r',by have:=Hq1.out;omega,hdn,hb2.out,by have:=HC.out;omega,rfl,rfl,by trivial⟩,by simp[intOf];omega⟩
    ·have hfin:Hid (q=(u*W32+n1) / Y):=Lib.hid (q_is (q_ok hY.out hqr.out (by rw[←hx1,←hx2];omega)) hbig)
     have Hx1:=Lib.hid hx1
     have Hx2:=Lib.hid hx2
     have Hx3:=Lib.hid hx3
     have hB':decide (x2<x1)=false:=decide_eq_false hB
     have hB3:decide ((x2:Int)<(x1:Int))=false:=decide_eq_false (by omega)
     clear hx1 hx2 hx3 hqv hbig hB hA hrW hq1
     go_wp2
     go_meet
     case rel=>exact⟨ret_u64 hfin.out,by trivial⟩
 obtain⟨rfl,rfl⟩:=hcut
 have hq1l:=q_lt (n:=n1) hu hn1
 have hrm1:=rem_wrap (a:=u*W32+n1) (y:=Y) rfl (by omega) (Nat.le_of_lt z3)
 have hfig:=Lib.hid (two_figs u n1 n0 Y (by omega))
 have hu2:(u*W32+n1) % Y<Y:=Nat.mod_lt _ (by omega)
 obtain⟨hm3,hm4,hm5,hm6,hm7⟩:=mid_walk u n1 ((u*W32+n1) / Y) Y ((u*W32+n1) % Y) hrm1
 clear hrm1
 generalize (u*W32+n1) / Y=q1 at *
 generalize (u*W32+n1) % Y=u2 at *
 generalize u*W32 % W64=a1 at hm3 hm4
 generalize (u*W32+n1) % W64=a2 at hm4 hm6
 generalize q1*Y % W64=a3 at hm5 hm6
 have hf2:=q_first hY.out hv1a hv0 hu2 hn0
 have hrl2:u2 % v1<W32:=Nat.lt_trans (Nat.mod_lt _ (by omega)) hv1b
 have hu264:u2<W64:=Nat.lt_trans hu2 z3
 obtain⟨hwq2,hwqw2,hwm2,hwr2⟩:=first_walk u2 v1 hu264 hf2.1
 generalize u2 / v1=qb at *
 generalize u2 % v1=rb at *
 generalize qb*v1=qbv at hwm2 hwr2
 have Hf2:=Lib.hid hf2
 clear hf2
 go_upto_block 2 with fail
 go_cut [18] (fun s wx=>s= .int .u64 (((u2*W32+n0) / Y:Nat):Int)∧wx=wc)
 case first=>
  go_wp2_with fail
  go_loopw [18,16] (fun a b wr=>∃q r:Nat,q≤W32+1∧Hid (q*v1+r=u2)∧u2*W32+n0<(q+1)*Y∧r<W32∧a= .int .u64 q∧b= .int .u64 r∧wr=wc) (fun a _ _=>(intOf a).toNat)
  case atStart=>exact⟨_,_,Hf2.out.1,Lib.hid Hf2.out.2.1,Hf2.out.2.2,hrl2,rfl,rfl,rfl⟩
  case round=>
   obtain⟨q,r,hq1,hqr,hbig,hrW,rfl,rfl,rfl⟩:=hrel
   have hm1:IntKind.u64.wrap ((4294967296:Int)*(r:Int))=((W32*r:Nat):Int):=by rw[IntKind.wrap_u64];simp only[W32_eq] at *;omega
   have hm2:IntKind.u64.wrap (((W32*r:Nat):Int)+(n0:Int))=((W32*r+n0:Nat):Int):=by rw[IntKind.wrap_u64];simp only[W32_eq] at *;omega
   by_cases hA:W32≤q
   ·have hA':decide ((4294967296:Int)≤(q:Int))=true:=by simp only[W32_eq] at hA;exact decide_eq_true (by omega)
    have hbig:u2*W32+n0<q*Y:=q_huge hu2 hn0 hA
    have HA:=Lib.hid hA
    clear hm1 hm2 hA
    have hp:0<q:=by
     rcases Nat.eq_zero_or_pos q with h | h
     ·subst h;simp at hbig
     ·exact h
    have hdn:=Lib.hid (q_down hqr.out hp)
    have hwd:IntKind.u64.wrap ((q:Int) - 1)=((q - 1:Nat):Int):=by rw[IntKind.wrap_u64];simp only[W32_eq] at *;omega
    have hwr:IntKind.u64.wrap ((r:Int)+(v1:Int))=((r+v1:Nat):Int):=by rw[IntKind.wrap_u64];simp only[W32_eq] at *;omega
    obtain⟨q',hq'⟩:∃q',q'=q - 1:=⟨_,rfl⟩
    obtain⟨r',hr'⟩:∃r',r'=r+v1:=⟨_,rfl⟩
    rw[←hq'] at hwd hdn
    rw[←hr'] at hwr hdn
    have hb2:Hid (u2*W32+n0<(q'+1)*Y):=by rw[hq',Nat.sub_add_cancel hp];exact hbig
    have hq1':q'≤W32:=by omega
    have Hq':=Lib.hid hq'
    have Hr':=Lib.hid hr'
    clear hq' hr' hbig
    have hbm:q'<q:=by rw[Hq'.out];omega
    have HqW:=Lib.hid hq1
    clear hq1
    by_cases hC:W32≤r'
    ·have hC':decide ((4294967296:Int)≤(r':Int))=true:=by simp only[W32_eq] at hC;exact decide_eq_true (by omega)
     have HC:=Lib.hid hC
     have Hq1:=Lib.hid hq1'
     have Hv0:=Lib.hid hv0
     clear hC hq1' hv0 hrW hbm
     go_wp2
     go_meet
     case rel=>exact⟨ret_u64 (q_is (q_ok hY.out hdn.out (q_break HC.out Hq1.out Hv0.out)) hb2.out),by trivial⟩
    ·have hC':decide ((4294967296:Int)≤(r':Int))=false:=by simp only[W32_eq] at hC;exact decide_eq_false (by omega)
     have HC:=Lib.hid hC
     have Hq1:=Lib.hid hq1'
     have Hrw:=Lib.hid hrW
     clear hC hq1' hrW
     go_wp2
     refine ⟨⟨q',r',by have:=Hq1.out;omega,hdn,hb2.out,by have:=HC.out;omega,rfl,rfl,by trivial⟩,by simp[intOf];omega⟩
   ·have hA':decide ((4294967296:Int)≤(q:Int))=false:=by simp only[W32_eq] at hA;exact decide_eq_false (by omega)
    have hqv:q*v0<W64:=by
     have h1:q*v0≤W32*v0:=Nat.mul_le_mul_right _ (by omega)
     unfold W64 at *;simp only[W32_eq] at *;omega
    have hm0:IntKind.u64.wrap ((q:Int)*(v0:Int))=((q*v0:Nat):Int):=by rw[IntKind.wrap_u64];unfold W64 at *;rw[←Int.natCast_mul];omega
    obtain⟨x1,hx1⟩:∃x,x=q*v0:=⟨_,rfl⟩
    obtain⟨x2,hx2⟩:∃x,x=W32*r+n0:=⟨_,rfl⟩
    obtain⟨x3,hx3⟩:∃x,x=W32*r:=⟨_,rfl⟩
    rw[←hx1] at hm0
    rw[←hx3] at hm1
    rw[←hx2,←hx3] at hm2
    by_cases hB:x2<x1
    ·have hbig:u2*W32+n0<q*Y:=q_big hY.out hqr.out (by rw[←hx1,←hx2];exact hB)
     have Hx1:=Lib.hid hx1
     have Hx2:=Lib.hid hx2
     have Hx3:=Lib.hid hx3
     have hB':decide (x2<x1)=true:=decide_eq_true hB
     have hB3:decide ((x2:Int)<(x1:Int))=true:=decide_eq_true (by omega)
     clear hx1 hx2 hx3 hqv hB hA
     have hp:0<q:=by
      rcases Nat.eq_zero_or_pos q with h | h
      ·subst h;simp at hbig
      ·exact h
     have hdn:=Lib.hid (q_down hqr.out hp)
     have hwd:IntKind.u64.wrap ((q:Int) - 1)=((q - 1:Nat):Int):=by rw[IntKind.wrap_u64];simp only[W32_eq] at *;omega
     have hwr:IntKind.u64.wrap ((r:Int)+(v1:Int))=((r+v1:Nat):Int):=by rw[IntKind.wrap_u64];simp only[W32_eq] at *;omega
     obtain⟨q',hq'⟩:∃q',q'=q - 1:=⟨_,rfl⟩
     obtain⟨r',hr'⟩:∃r',r'=r+v1:=⟨_,rfl⟩
     rw[←hq'] at hwd hdn
     rw[←hr'] at hwr hdn
     have hb2:Hid (u2*W32+n0<(q'+1)*Y):=by rw[hq',Nat.sub_add_cancel hp];exact hbig
     have hq1':q'≤W32:=by omega
     have Hq':=Lib.hid hq'
     have Hr':=Lib.hid hr'
     clear hq' hr' hbig
     have hbm:q'<q:=by rw[Hq'.out];omega
     have HqW:=Lib.hid hq1
     clear hq1
     by_cases hC:W32≤r'
     ·have hC':decide ((4294967296:Int)≤(r':Int))=true:=by simp only[W32_eq] at hC;exact decide_eq_true (by omega)
      have HC:=Lib.hid hC
      have Hq1:=Lib.hid hq1'
      have Hv0:=Lib.hid hv0
      clear hC hq1' hv0 hrW hbm
      go_wp2
      go_meet
      case rel=>exact⟨ret_u64 (q_is (q_ok hY.out hdn.out (q_break HC.out Hq1.out Hv0.out)) hb2.out),by trivial⟩
     ·have hC':decide ((4294967296:Int)≤(r':Int))=false:=by simp only[W32_eq] at hC;exact decide_eq_false (by omega)
      have HC:=Lib.hid hC
      have Hq1:=Lib.hid hq1'
      have Hrw:=Lib.hid hrW
      clear hC hq1' hrW
      go_wp2
      refine ⟨⟨q',r',by have:=Hq1.out;omega,hdn,hb2.out,by have:=HC.out;omega,rfl,rfl,by trivial⟩,by simp[intOf];omega⟩
    ·have hfin:Hid (q=(u2*W32+n0) / Y):=Lib.hid (q_is (q_ok hY.out hqr.out (by rw[←hx1,←hx2];omega)) hbig)
     have Hx1:=Lib.hid hx1
     have Hx2:=Lib.hid hx2
     have Hx3:=Lib.hid hx3
     have hB':decide (x2<x1)=false:=decide_eq_false hB
     have hB3:decide ((x2:Int)<(x1:Int))=false:=decide_eq_false (by omega)
     clear hx1 hx2 hx3 hqv hbig hB hA hrW hq1
     go_wp2
     go_meet
     case rel=>exact⟨ret_u64 hfin.out,by trivial⟩
 obtain⟨rfl,rfl⟩:=hcut
 have hq0l:=q_lt (n:=n0) hu2 hn0
 have hrm2:=rem_wrap (a:=u2*W32+n0) (y:=Y) rfl (by omega) (Nat.le_of_lt z3)
 have hr2:(u2*W32+n0) % Y<Y:=Nat.mod_lt _ (by omega)
 obtain⟨hk3,hk4,hk5,hk6,hk7⟩:=mid_walk u2 n0 ((u2*W32+n0) / Y) Y ((u2*W32+n0) % Y) hrm2
 clear hrm2
 generalize (u2*W32+n0) / Y=q0 at *
 generalize (u2*W32+n0) % Y=r2 at *
 generalize u2*W32 % W64=a4 at hk3 hk4
 generalize (u2*W32+n0) % W64=a5 at hk4 hk6
 generalize q0*Y % W64=a6 at hk5 hk6
 have hk8:IntKind.u64.wrap ((q1:Int)*4294967296)=((q1*W32:Nat):Int):=by rw[IntKind.wrap_u64];simp only[W32_eq] at *;omega
 have hk9:IntKind.u64.wrap (((q1*W32:Nat):Int)+(q0:Int))=((q1*W32+q0:Nat):Int):=by rw[IntKind.wrap_u64];simp only[W32_eq] at *;omega
 have hk10:=hsm.out r2
 obtain⟨x1,hx1⟩:∃x,x=q1*W32+q0:=⟨_,rfl⟩
 obtain⟨x2,hx2⟩:∃x,x=q1*W32:=⟨_,rfl⟩
 obtain⟨x3,hx3⟩:∃x,x=r2 / 2^s:=⟨_,rfl⟩
 rw[←hx2] at hk8
 rw[←hx1,←hx2] at hk9
 rw[←hx3] at hk10
 have Hx1:=Lib.hid hx1
 have Hx2:=Lib.hid hx2
 have Hx3:=Lib.hid hx3
 clear hx1 hx2 hx3
 go_wp2
 go_ret2
 obtain⟨ha1,ha2⟩:=hans.out
 obtain⟨hg1,hg2⟩:=hfig.out
 rw[ha1,ha2,hL.out,hg1,hg2,Hx1.out,Hx3.out]
 exact⟨rfl,rfl⟩
theorem div64_any (hi lo y:Nat) (hl:lo<W64) (hy:y<W64) (h:hi<y) (w:World):
 Calls Tryz.prog 215 #[.int .u64 hi,.int .u64 lo,.int .u64 y] w fun e w'=>e= .returned (.tuple #[.int .u64 (((hi*W64+lo) / y:Nat):Int),.int .u64 (((hi*W64+lo) % y:Nat):Int)])∧∃n,w'=w.drewN n:=by
 rcases Nat.eq_zero_or_pos hi with h0 | h0
 ·subst h0
  simpa using div64_nought lo y hl hy h w
 ·exact (div64_some hi lo y hl hy h h0 w).mono fun _ _ ⟨h1,h2⟩=>⟨h1,0,h2.symm⟩
def GuessAt (N u0 v1 v0 q R:Nat):Prop:=q*v1+R=N∧(N*W64+u0<(q+1)*(v1*W64+v0)∨q+1=W64)
def GuessOk (N u0 v1 v0 q:Nat):Prop:=q<W64∧q*(v1*W64+v0)≤N*W64+u0∧(N*W64+u0<(q+1)*(v1*W64+v0)∨q+1=W64)
theorem GuessAt.stop {N u0 v1 v0 q R:Nat} (h:GuessAt N u0 v1 v0 q R) (hq:q<W64) (hs:q*v0≤R*W64+u0):GuessOk N u0 v1 v0 q:=⟨hq,guess_stop h.1 hs,h.2⟩
theorem GuessAt.more {N u0 v1 v0 q R:Nat} (h:GuessAt N u0 v1 v0 q R) (hm:R*W64+u0<q*v0):0<q∧GuessAt N u0 v1 v0 (q - 1) (R+v1):=by
 have h0:0<q:=by
  rcases Nat.eq_zero_or_pos q with e | e
  ·subst e;simp at hm
  ·exact e
 obtain⟨k,rfl⟩:∃k,q=k+1:=⟨q - 1,by omega⟩
 refine ⟨h0,?_,.inl ?_⟩
 ·have:=h.1
  rw[Nat.add_mul,Nat.one_mul] at this
  rw[Nat.add_sub_cancel];omega
 ·rw[Nat.add_sub_cancel];exact guess_more h.1 hm
theorem guess_any (u2 u1 u0 v1 v0:Nat) (h2:u2≤v1) (hu1:u1<W64) (hu0:u0<W64) (hv1:v1<W64) (hv0:v0<W64) (hp:0<v1) (w:World):
 Calls Tryz.prog 200 #[.int .u64 u2,.int .u64 u1,.int .u64 u0,.int .u64 v1,.int .u64 v0] w fun e w'=>∃q:Nat,e= .returned (.int .u64 q)∧GuessOk (u2*W64+u1) u0 v1 v0 q∧∃n,w'=w.drewN n:=by
 have hW:W64=18446744073709551616:=rfl
 obtain⟨N,hN⟩:∃N,N=u2*W64+u1:=⟨_,rfl⟩
 rw[←hN]
 have start:∃q r o:Nat,q<W64∧r<W64∧o≤1∧GuessAt N u0 v1 v0 q (o*W64+r)∧((u2=v1∧q=18446744073709551615∧r=(u1+v1+0) % W64∧o=(u1+v1+0) / W64)∨(u2<v1∧q=N / v1∧r=N % v1∧o=0)):=by
  by_cases he:u2=v1
  ·refine ⟨18446744073709551615,(u1+v1+0) % W64,(u1+v1+0) / W64,by omega,Nat.mod_lt _ W64_pos,by have :(u1+v1+0) / W64<2:=by { rw[Nat.div_lt_iff_lt_mul W64_pos];omega };omega,⟨?_,.inr (by omega)⟩,.inl ⟨he,rfl,rfl,rfl⟩⟩
   have e1:=Nat.div_add_mod (u1+v1+0) W64
   rw[hN,he,Nat.mul_comm ((u1+v1+0) / W64),e1,hW]
   omega
  ·have hlt:u2<v1:=by omega
   have e1:=Nat.div_add_mod N v1
   refine ⟨N / v1,N % v1,0,?_,Nat.lt_trans (Nat.mod_lt _ hp) hv1,by omega,⟨by rw[Nat.mul_comm];omega,.inl (guess_first hp hu0)⟩,.inr ⟨hlt,rfl,rfl,rfl⟩⟩
   rw[Nat.div_lt_iff_lt_mul hp,hN]
   have :(u2+1)*W64≤v1*W64:=Nat.mul_le_mul_right W64 hlt
   rw[Nat.add_mul,Nat.one_mul] at this
   rw[Nat.mul_comm W64 v1]
   omega
 obtain⟨q,r,o,hq,hr,ho,hG,hcase⟩:=start
 have LOOP:∀(K:Prop),K→K:=fun _ h=>h
 clear LOOP
 rcases hcase with ⟨he,eq,er,eo⟩ | ⟨hlt,eq,er,eo⟩
 ·have hA:=fun W=>run_Add64_ex u1 v1 0 r o 0 rfl (by omega) er eo W
  have hd1:decide (((v1:Nat):Int)≤((u2:Nat):Int))=true:=decide_eq_true (by omega)
  have hd1n:decide (v1≤u2)=true:=decide_eq_true (by omega)
  have hle:v1≤u2:=by omega
  subst eq
  clear er eo hN he
  go_enter Tryz.func200,Tryz.ntmps200
  go_wp2_with fail
  go_step3
  go_wp2_with fail
  go_step3
  go_wp2_with fail
  clear hA hd1 hd1n hle
  go_loopw [11,12,13] (fun qv rv ov wr=>∃q r o:Nat,qv= .int .u64 q∧rv= .int .u64 r∧ov= .int .u64 o∧q<W64∧r<W64∧o≤1∧GuessAt N u0 v1 v0 q (o*W64+r)∧∃n,wr=w.drewN n) (fun qv _ _ _=>(RowKit.intOf qv).toNat)
  case atStart=>exact⟨_,r,o,rfl,rfl,rfl,hq,hr,ho,hG,0,rfl⟩
  case round=>
   clear hG hq hr ho
   obtain⟨q,r,o,rfl,rfl,rfl,hq,hr,ho,hG,n,rfl⟩:=hrel
   by_cases ho1:o=0
   ·subst ho1
    rw[Nat.zero_mul,Nat.zero_add] at hG
    obtain⟨hi,ehi⟩:∃hi,hi=q*v0 / W64:=⟨_,rfl⟩
    obtain⟨lo,elo⟩:∃lo,lo=q*v0 % W64:=⟨_,rfl⟩
    have hM:=fun W=>mul64_ex q v0 hi lo hq hv0 ehi elo W
    have hx:hi*W64+lo=q*v0:=by rw[ehi,elo,Nat.mul_comm];exact Nat.div_add_mod _ _
    have hlo:lo<W64:=by rw[elo];exact Nat.mod_lt _ W64_pos
    clear ehi elo
    by_cases hs:q*v0≤r*W64+u0
    ·have HOK:=Lib.hid (hG.stop hq hs)
     rw[←hx,hW] at hs
     rw[hW] at hlo hu0
     clear hx hG
     by_cases c1:hi<r
     ·have hd2:decide (((hi:Nat):Int)<((r:Nat):Int))=true:=decide_eq_true (by omega)
      have hd2n:decide (hi<r)=true:=decide_eq_true (by omega)
      clear hs
      go_wp2_with fail
      refine (hM _).mono ?_
      rintro e w' ⟨rfl,rfl⟩
      go_wp2_with fail
      (try dsimp only[Exit.noGoto])
      go_ret
      exact⟨q,rfl,HOK.out,n,rfl⟩
     ·have hd2:decide (((hi:Nat):Int)<((r:Nat):Int))=false:=decide_eq_false (by omega)
      have hd2n:decide (hi<r)=false:=decide_eq_false (by omega)
      have hd3:(((hi:Nat):Int) == ((r:Nat):Int))=true:=by rw[beq_iff_eq];omega
      have hd4:decide (((lo:Nat):Int)≤((u0:Nat):Int))=true:=decide_eq_true (by omega)
      have hd4n:decide (lo≤u0)=true:=decide_eq_true (by omega)
      have hd3n:hi=r:=by omega
      clear hs
      go_wp2_with fail
      refine (hM _).mono ?_
      rintro e w' ⟨rfl,rfl⟩
      go_wp2_with fail
      (try dsimp only[Exit.noGoto])
      go_ret
      exact⟨q,rfl,HOK.out,n,rfl⟩
    ·obtain⟨h0,hG'⟩:=hG.more (by omega)
     rw[←hx,hW] at hs
     obtain⟨s,es⟩:∃s,s=(r+v1+0) % W64:=⟨_,rfl⟩
     obtain⟨c,ec⟩:∃c,c=(r+v1+0) / W64:=⟨_,rfl⟩
     have hc1 : c ≤ 1 := by have : (r + v1 + 0) / W64 < 2 := by { rw [Nat.div_lt_iff_lt_mul W64_pos]; omega }
                            omega
     have hs1:s<W64:=by rw[es];exact Nat.mod_lt _ W64_pos
     have hsc:c*W64+s=r+v1:=by rw[ec,es,Nat.mul_comm];exact Nat.div_add_mod _ _
     have hA2:=fun W=>run_Add64_ex r v1 0 s c 0 rfl (by omega) es ec W
     rw[←hsc] at hG'
     have hwq:IntKind.u64.wrap (((q:Nat):Int) - 1)=((q - 1:Nat):Int):=by rw[IntKind.wrap_u64];omega
     have HG:=Lib.hid (And.intro hG' (And.intro hs1 (And.intro hc1 hq)))
     have hd2:decide (((hi:Nat):Int)<((r:Nat):Int))=false:=decide_eq_false (by omega)
     have hd2n:decide (hi<r)=false:=decide_eq_false (by omega)
     have hrest:hi=r→u0<lo:=fun e=>by omega
     clear hs hx es ec hsc hG hG' hs1 hc1
     by_cases hhr:hi=r
     ·have hd3:(((hi:Nat):Int) == ((r:Nat):Int))=true:=by rw[beq_iff_eq];omega
      have hd4:decide (((lo:Nat):Int)≤((u0:Nat):Int))=false:=decide_eq_false (by have:=hrest hhr;omega)
      have hd4n:decide (lo≤u0)=false:=decide_eq_false (by have:=hrest hhr;omega)
      have hd4m:¬lo≤u0:=by have:=hrest hhr;omega
      have hd3n:hi=r:=hhr
      clear hrest hhr
      go_wp2_with fail
      refine (hM _).mono ?_
      rintro e w' ⟨rfl,rfl⟩
      go_wp2_with fail
      exact⟨⟨q - 1,s,c,rfl,rfl,rfl,by have:=HG.out.2.2.2;omega,HG.out.2.1,HG.out.2.2.1,HG.out.1,n,rfl⟩,by simp[RowKit.intOf];omega⟩
     ·have hd3:(((hi:Nat):Int) == ((r:Nat):Int))=false:=by rw[beq_eq_false_iff_ne];omega
      have hd3n:¬hi=r:=hhr
      clear hrest hhr
      go_wp2_with fail
      refine (hM _).mono ?_
      rintro e w' ⟨rfl,rfl⟩
      go_wp2_with fail
      exact⟨⟨q - 1,s,c,rfl,rfl,rfl,by have:=HG.out.2.2.2;omega,HG.out.2.1,HG.out.2.2.1,HG.out.1,n,rfl⟩,by simp[RowKit.intOf];omega⟩
   ·have hd5:(((o:Nat):Int) == 0)=false:=by rw[nat_eq0];exact decide_eq_false ho1
    have hok := hG.stop hq (guess_over (by have : o = 1 := by omega
                                           subst this;omega) (Nat.le_of_lt hq) (Nat.le_of_lt hv0))
    have HOK:=Lib.hid hok
    clear hok hG
    go_wp2_with fail
    (try dsimp only[Exit.noGoto])
    go_ret
    exact⟨q,rfl,HOK.out,n,rfl⟩
 ·have hD:=fun W=>div64_any u2 u1 v1 hu1 hv1 hlt W
  have hd1:decide (((v1:Nat):Int)≤((u2:Nat):Int))=false:=decide_eq_false (by omega)
  have hd1n:decide (v1≤u2)=false:=decide_eq_false (by omega)
  rw[←hN,←eq,←er] at hD
  subst eo
  clear eq er hN
  go_enter Tryz.func200,Tryz.ntmps200
  go_wp2_with fail
  go_step3
  go_wp2_with fail
  refine (hD _).mono ?_
  rintro e w1 ⟨rfl,n1,rfl⟩
  go_wp2_with fail
  go_step3
  go_wp2_with fail
  clear hD hd1 hd1n
  go_loopw [11,12,13] (fun qv rv ov wr=>∃q r o:Nat,qv= .int .u64 q∧rv= .int .u64 r∧ov= .int .u64 o∧q<W64∧r<W64∧o≤1∧GuessAt N u0 v1 v0 q (o*W64+r)∧∃n,wr=w.drewN n) (fun qv _ _ _=>(RowKit.intOf qv).toNat)
  case atStart=>exact⟨q,r,0,rfl,rfl,rfl,hq,hr,ho,hG,n1,rfl⟩
  case round=>
   clear hG hq hr ho
   obtain⟨q,r,o,rfl,rfl,rfl,hq,hr,ho,hG,n,rfl⟩:=hrel
   by_cases ho1:o=0
   ·subst ho1
    rw[Nat.zero_mul,Nat.zero_add] at hG
    obtain⟨hi,ehi⟩:∃hi,hi=q*v0 / W64:=⟨_,rfl⟩
    obtain⟨lo,elo⟩:∃lo,lo=q*v0 % W64:=⟨_,rfl⟩
    have hM:=fun W=>mul64_ex q v0 hi lo hq hv0 ehi elo W
    have hx:hi*W64+lo=q*v0:=by rw[ehi,elo,Nat.mul_comm];exact Nat.div_add_mod _ _
    have hlo:lo<W64:=by rw[elo];exact Nat.mod_lt _ W64_pos
    clear ehi elo
    by_cases hs:q*v0≤r*W64+u0
    ·have HOK:=Lib.hid (hG.stop hq hs)
     rw[←hx,hW] at hs
     rw[hW] at hlo hu0
     clear hx hG
     by_cases c1:hi<r
     ·have hd2:decide (((hi:Nat):Int)<((r:Nat):Int))=true:=decide_eq_true (by omega)
      have hd2n:decide (hi<r)=true:=decide_eq_true (by omega)
      clear hs
      go_wp2_with fail
      refine (hM _).mono ?_
      rintro e w' ⟨rfl,rfl⟩
      go_wp2_with fail
      (try dsimp only[Exit.noGoto])
      go_ret
      exact⟨q,rfl,HOK.out,n,rfl⟩
     ·have hd2:decide (((hi:Nat):Int)<((r:Nat):Int))=false:=decide_eq_false (by omega)
      have hd2n:decide (hi<r)=false:=decide_eq_false (by omega)
      have hd3:(((hi:Nat):Int) == ((r:Nat):Int))=true:=by rw[beq_iff_eq];omega
      have hd4:decide (((lo:Nat):Int)≤((u0:Nat):Int))=true:=decide_eq_true (by omega)
      have hd4n:decide (lo≤u0)=true:=decide_eq_true (by omega)
      have hd3n:hi=r:=by omega
      clear hs
      go_wp2_with fail
      refine (hM _).mono ?_
      rintro e w' ⟨rfl,rfl⟩
      go_wp2_with fail
      (try dsimp only[Exit.noGoto])
      go_ret
      exact⟨q,rfl,HOK.out,n,rfl⟩
    ·obtain⟨h0,hG'⟩:=hG.more (by omega)
     rw[←hx,hW] at hs
     obtain⟨s,es⟩:∃s,s=(r+v1+0) % W64:=⟨_,rfl⟩
     obtain⟨c,ec⟩:∃c,c=(r+v1+0) / W64:=⟨_,rfl⟩
     have hc1 : c ≤ 1 := by have : (r + v1 + 0) / W64 < 2 := by { rw [Nat.div_lt_iff_lt_mul W64_pos]; omega }
                            omega
     have hs1:s<W64:=by rw[es];exact Nat.mod_lt _ W64_pos
     have hsc:c*W64+s=r+v1:=by rw[ec,es,Nat.mul_comm];exact Nat.div_add_mod _ _
     have hA2:=fun W=>run_Add64_ex r v1 0 s c 0 rfl (by omega) es ec W
     rw[←hsc] at hG'
     have hwq:IntKind.u64.wrap (((q:Nat):Int) - 1)=((q - 1:Nat):Int):=by rw[IntKind.wrap_u64];omega
     have HG:=Lib.hid (And.intro hG' (And.intro hs1 (And.intro hc1 hq)))
     have hd2:decide (((hi:Nat):Int)<((r:Nat):Int))=false:=decide_eq_false (by omega)
     have hd2n:decide (hi<r)=false:=decide_eq_false (by omega)
     have hrest:hi=r→u0<lo:=fun e=>by omega
     clear hs hx es ec hsc hG hG' hs1 hc1
     by_cases hhr:hi=r
     ·have hd3:(((hi:Nat):Int) == ((r:Nat):Int))=true:=by rw[beq_iff_eq];omega
      have hd4:decide (((lo:Nat):Int)≤((u0:Nat):Int))=false:=decide_eq_false (by have:=hrest hhr;omega)
      have hd4n:decide (lo≤u0)=false:=decide_eq_false (by have:=hrest hhr;omega)
      have hd4m:¬lo≤u0:=by have:=hrest hhr;omega
      have hd3n:hi=r:=hhr
      clear hrest hhr
      go_wp2_with fail
      refine (hM _).mono ?_
      rintro e w' ⟨rfl,rfl⟩
      go_wp2_with fail
      exact⟨⟨q - 1,s,c,rfl,rfl,rfl,by have:=HG.out.2.2.2;omega,HG.out.2.1,HG.out.2.2.1,HG.out.1,n,rfl⟩,by simp[RowKit.intOf];omega⟩
     ·have hd3:(((hi:Nat):Int) == ((r:Nat):Int))=false:=by rw[beq_eq_false_iff_ne];omega
      have hd3n:¬hi=r:=hhr
      clear hrest hhr
      go_wp2_with fail
      refine (hM _).mono ?_
      rintro e w' ⟨rfl,rfl⟩
      go_wp2_with fail
      exact⟨⟨q - 1,s,c,rfl,rfl,rfl,by have:=HG.out.2.2.2;omega,HG.out.2.1,HG.out.2.2.1,HG.out.1,n,rfl⟩,by simp[RowKit.intOf];omega⟩
   ·have hd5:(((o:Nat):Int) == 0)=false:=by rw[nat_eq0];exact decide_eq_false ho1
    have hok := hG.stop hq (guess_over (by have : o = 1 := by omega
                                           subst this;omega) (Nat.le_of_lt hq) (Nat.le_of_lt hv0))
    have HOK:=Lib.hid hok
    clear hok hG
    go_wp2_with fail
    (try dsimp only[Exit.noGoto])
    go_ret
    exact⟨q,rfl,HOK.out,n,rfl⟩
end Go.Proofs.YtdnjdglekifhpaaGreat
namespace Go.Proofs.YtdnjdglekifhpaaGreat
open Go.RowKit
def RowU (w:World) (g:Nat) (l:List Nat):Prop:=∃sp:List Value,w.heap[g]?=some (.cells (us l++sp).toArray 141 (0,0))
section
variable {w w':World} {g:Nat} {l:List Nat}
theorem RowU.lt (h:RowU w g l):g<w.heap.size:=by obtain⟨_,h⟩:=h;exact (Array.getElem?_eq_some_iff.1 h).1
theorem RowU.cell (h:RowU w g l) {i:Nat} (hi:i<l.length):w.cell? ⟨g,i,none⟩=some (.int .u64 (lat l i:Nat)):=by
 obtain⟨sp,h⟩:=h
 rw[World.cell?]
 simp only[h]
 have :(us l++sp)[i]?=some (.int .u64 (lat l i:Nat)):=by
  rw[List.getElem?_append_left (by rw[us_len];exact hi),us_at l i hi];rfl
 simpa using this
theorem RowU.frozen (h:RowU w g l) (i:Nat):w.frozen? ⟨g,i,none⟩=false:=by obtain⟨sp,h⟩:=h;simp[World.frozen?,h]
theorem RowU.set (h:RowU w g l) (i x:Nat):RowU (w.setCell ⟨g,i,none⟩ (.int .u64 (x:Int))) g (l.set i x):=by
 obtain⟨sp,h⟩:=h
 rcases Nat.lt_or_ge i l.length with hi | hi
 ·refine ⟨sp,?_⟩
  simp only[World.setCell,Array.getElem?_modify,if_true,h,Option.map_some]
  have :(us l++sp).set i (.int .u64 (x:Int))=us (l.set i x)++sp:=by
   rw[List.set_append_left _ _ (by rw[us_len];exact hi)]
   simp[us,List.map_set]
  simp[←this]
 ·refine ⟨sp.set (i - l.length) (.int .u64 (x:Int)),?_⟩
  simp only[World.setCell,Array.getElem?_modify,if_true,h,Option.map_some]
  have :(us l++sp).set i (.int .u64 (x:Int))=us (l.set i x)++sp.set (i - l.length) (.int .u64 (x:Int)):=by
   rw[List.set_append_right _ _ (by rw[us_len];exact hi),us_len,List.set_eq_of_length_le hi]
  simp[←this]
theorem RowU.of_heap (h:RowU w g l) (e:w'.heap[g]?=w.heap[g]?):RowU w' g l:=by obtain⟨sp,h⟩:=h;exact⟨sp,e.trans h⟩
theorem RowU.below {B:Nat} (h:RowU w g l) (hb:Below B w w') (hg:g<B):RowU w' g l:=h.of_heap (hb.block g hg)
theorem RowU.alloc (h:RowU w g l) (o:Obj):RowU (w.alloc o) g l:=h.of_heap (Below.heap_alloc w o g h.lt)
theorem RowU.drew (h:RowU w g l):RowU w.drew g l:=h
theorem RowU.drewN (h:RowU w g l) (n:Nat):RowU (w.drewN n) g l:=h
theorem RowU.far (h:RowU w g l) {C i:Nat} (hC:g≠C) (u:Value):RowU (w.setCell ⟨C,i,none⟩ u) g l:=h.of_heap (Below.heap_setCell w ⟨C,i,none⟩ u g hC)
theorem RowU.isCells (h:RowU w g l):∃o:Obj,w.heap[g]?=some o∧o.isCells=true:=by obtain⟨sp,h⟩:=h;exact⟨_,h,rfl⟩
theorem RowU.kept {row:Option Nat} (h:RowU w g l) (hg:w.grownBy w' row) (hr:∀r,row=some r→∃o:Obj,w.heap[r]?=some o∧o.isCells=false):RowU w' g l:=
 h.of_heap (hg.block g h.lt (fun e=>by
  obtain⟨o,ho,hc⟩:=hr g e.symm
  obtain⟨o',ho',hc'⟩:=h.isCells
  rw[ho'] at ho;cases ho;rw[hc'] at hc;cases hc))
theorem RowU.putObj (h:RowU w g l) {k:Nat} {o o':Obj} (hl:w.heap[k]?=some o) (ho:o.isCells=false):RowU (w.putObj k o') g l:=
 h.kept (grownBy_putObj' w k o') (fun r e=>by cases e;exact⟨o,hl,ho⟩)
theorem Arr.rowU (h:Arr w g l):RowU w g l:=⟨[],by rw[List.append_nil];exact h⟩
theorem RowU.isL (h:RowU w g l) (hb:Bd l) {c:Nat} (hc:l.length≤c) (hl:c≤9223372036854775807):IsL w (.slice (some ⟨g,0,none⟩) l.length c) l:=
 ⟨_, _, rfl, hc, hl, hb, by rw [us_len]; omega, fun _ => ⟨_, rfl, h.lt, fun j u hu => by
  have e:Addr.add ⟨g,0,none⟩ j=⟨g,j,none⟩:=by unfold Addr.add;split<;>simp_all
  have hj:j<l.length:=by
   rcases Nat.lt_or_ge j l.length with h' | h'
   ·exact h'
   ·rw[List.getElem?_eq_none (by rw[us_len];exact h')] at hu;cases hu
  rw[e,h.cell hj]
  rw[us_at l j hj] at hu
  exact hu⟩⟩
theorem RowU.of_own {B:Nat} {v:Value} (h:w.ownsRow B 141 1 v l.length (us l)) (hl:0<l.length):∃g c,v= .slice (some ⟨g,0,none⟩) l.length c∧RowU w g l∧B≤g∧l.length≤c∧c≤9223372036854775807:=by
 rcases h.2 with ⟨_,h0⟩ | ⟨g,cap,cur,rfl,h2,h3,h4,h5,h6,h7⟩
 ·omega
 ·refine ⟨g,cap,rfl,⟨cur.toList.drop l.length,?_⟩,h2,h4,by unfold maxLen at h5;omega⟩
  rw[Nat.mul_one] at h7
  rw[←h7,List.take_append_drop]
  exact h3
end
end Go.Proofs.YtdnjdglekifhpaaGreat
namespace Go.Proofs.YtdnjdglekifhpaaGreat
open Go.RowKit
theorem RowU.b {w w' g l} (h:RowU w g l) (hb:Below w.heap.size w w'):RowU w' g l:=h.below hb h.lt
end Go.Proofs.YtdnjdglekifhpaaGreat
namespace Go.Proofs.YtdnjdglekifhpaaGreat
open Go.RowKit
def OnlyIn (g:Nat) (w w':World):Prop:=Below g w w'∧(∀j,j≠g→w'.heap[j]?=w.heap[j]?)∧w'.heap.size=w.heap.size
theorem OnlyIn.refl (g:Nat) (w:World):OnlyIn g w w:=⟨Below.refl _ _,fun _ _=>rfl,rfl⟩
theorem OnlyIn.set {g i:Nat} {w w':World} (h:OnlyIn g w w') (u:Value):OnlyIn g w (w'.setCell ⟨g,i,none⟩ u):=
 ⟨h.1.setCell (p:=⟨g,i,none⟩) (Nat.le_refl _) u,fun j hj=>(Below.heap_setCell _ ⟨g,i,none⟩ _ j hj).trans (h.2.1 j hj),by simp[World.setCell];exact h.2.2⟩
theorem OnlyIn.drew {g:Nat} {w w':World} (h:OnlyIn g w w'):OnlyIn g w w'.drew:=⟨h.1.drew,h.2.1,h.2.2⟩
def TakenPost (g k:Nat) (L v:List Nat) (w:World) (e:Ending) (w':World):Prop:=
 ∃L':List Nat,e= .returned (.int .u64 ((num ((L.drop k).take (v.length+1)) / num v:Nat):Int))∧RowU w' g L'∧OnlyIn g w w'∧TakenTo L v k (num ((L.drop k).take (v.length+1)) % num v) L'
theorem taken_any (g k cu:Nat) (L v:List Nat) (vv:Value) (q:Nat) (w:World) (hA:RowU w g L) (hk:k+v.length+1≤L.length) (_hcu:v.length+1≤cu) (hL:L.length≤10000000) (bL:Bd L) (hv:IsL w vv v) (hvb:vv.ownBlock≠some g) (hq:q<W64) (hV:0<num v) (g1:num ((L.drop k).take (v.length+1)) / num v≤q) (g2:q≤num ((L.drop k).take (v.length+1)) / num v+1):
 Calls Tryz.prog 199 #[.slice (some ⟨g,k,none⟩) (v.length+1:Nat) cu,vv,.int .u64 q] w (TakenPost g k L v w):=by
 obtain⟨A,cv,rfl,hvc,hcv,bv,hvr⟩:=id hv
 have G1:=Lib.hid g1
 have G2:=Lib.hid g2
 have HV:=Lib.hid hV
 clear g1 g2 hV
 have hW:W64=18446744073709551616:=rfl
 go_enter Tryz.func199,Tryz.ntmps199
 go_wp2_with fail
 go_loopw [7,8,20] (fun cV bV iV wr=>∃(i c b:Nat) (L1:List Nat),i≤v.length∧cV= .int .u64 c∧bV= .int .u64 b∧iV= .int .i64 i∧TakenAt L v k q i L1 c b∧RowU wr g L1∧IsL wr (.slice A v.length cv) v∧OnlyIn g w wr) (fun _ _ i _=>v.length - (RowKit.intOf i).toNat)
 case atStart=>exact⟨0,0,0,L,Nat.zero_le _,rfl,rfl,rfl,⟨rfl,bL,W64_pos,Nat.zero_le _,rfl,rfl,by simp[num]⟩,hA,hv,OnlyIn.refl _ _⟩
 case round=>
  obtain⟨i,c,b,L1,hi,rfl,rfl,rfl,hT,hA1,hv1,hw1⟩:=hrel
  by_cases hiv:i<v.length
  ·have HT:=Lib.hid hT
   obtain⟨t1,t2,t3,t4,t5,t6,t7⟩:=hT
   have hki:k+i<L1.length:=by omega
   have hrd:Reads wr wr.heap.size 1 A v.length (us v):=by
    obtain⟨A',c',e,_,_,_,hr⟩:=hv1
    obtain⟨rfl,_,rfl⟩:=Value.slice.inj e
    exact hr
   obtain⟨bd,rfl,_,hyc⟩:=us_cell hrd hiv
   have hxc:=hA1.cell hki
   have hxf:=hA1.frozen (k+i)
   have hx64:=t2.lat (k+i)
   have hy64:=bv.lat i
   obtain⟨x,ex⟩:∃x,x=lat L1 (k+i):=⟨_,rfl⟩
   obtain⟨y,ey⟩:∃y,y=lat v i:=⟨_,rfl⟩
   rw[←ex] at hxc hx64
   rw[←ey] at hyc hy64
   obtain⟨hi',ehi⟩:∃h,h=q*y / W64:=⟨_,rfl⟩
   obtain⟨lo,elo⟩:∃l,l=q*y % W64:=⟨_,rfl⟩
   obtain⟨s,es⟩:∃s,s=(lo+c+0) % W64:=⟨_,rfl⟩
   obtain⟨k1,ek⟩:∃z,z=(lo+c+0) / W64:=⟨_,rfl⟩
   have hp:hi'*W64+lo=q*y:=by rw[ehi,elo,Nat.mul_comm];exact Nat.div_add_mod _ _
   have hlo:lo<W64:=by rw[elo];exact Nat.mod_lt _ W64_pos
   obtain⟨d1,d2,d3⟩:=taken_digit hp hlo es ek hx64 t4 t3 (hi_small hq hy64 hp)
   have hM:=Lib.hid (fun W=>mul64_ex q y hi' lo hq hy64 ehi elo W)
   have hA2:=fun W=>run_Add64_ex lo c 0 s k1 0 rfl (by omega) es ek W
   have hS:=fun W=>run_Sub64 x s b t4 W
   obtain⟨x',ex'⟩:∃z,z=(x+W64 - s - b) % W64:=⟨_,rfl⟩
   obtain⟨b',eb'⟩:∃z,z=(if x<s+b then 1 else 0:Nat):=⟨_,rfl⟩
   have hb1:b'≤1:=by rw[eb'];split<;>omega
   obtain⟨c1,ec1⟩:∃z,z=hi'+k1:=⟨_,rfl⟩
   have hwc:IntKind.u64.wrap (((hi':Nat):Int)+((k1:Nat):Int))=((c1:Nat):Int):=by rw[IntKind.wrap_u64];omega
   simp only[←ex',←eb'] at hS
   rw[←ex',←eb',←ec1] at d1
   rw[←ec1] at d2
   rw[←ex'] at d3
   have j0:(0:Int)≤(i:Int):=by omega
   have j1:(i:Int)<((v.length:Nat):Int):=by omega
   have j2:(i:Int)<((v.length:Nat):Int)+1:=by omega
   have HD:=Lib.hid (And.intro d1 (And.intro d2 (And.intro d3 (And.intro hb1 (And.intro ex ey)))))
   clear ehi elo es ek hp hlo d1 d2 d3 ex' eb' ec1 t1 t2 t5 t6 t7 ex ey hb1
   go_wp2_with fail
   refine (hM.out _).mono ?_
   rintro e w' ⟨rfl,rfl⟩
   go_wp2_with fail
   obtain⟨u1,u2,u3,u4,u5,u6⟩:=HD.out
   refine ⟨⟨i+1,c1,b',L1.set (k+i) x',by omega,rfl,rfl,congrArg (Value.int .i64) (by omega),HT.out.step hiv hk u5 u6 u1 u2 u4 u3,hA1.set _ _,hv1.far (p:=⟨g,k+i,none⟩) hvb _,hw1.set _⟩,by simp[RowKit.intOf];omega⟩
  ·obtain rfl:i=v.length:=by omega
   have HT:=Lib.hid hT
   obtain⟨t1,t2,t3,t4,t5,t6,t7⟩:=hT
   have hki:k+v.length<L1.length:=by omega
   have hxc:=hA1.cell hki
   have hxf:=hA1.frozen (k+v.length)
   have hx64:=t2.lat (k+v.length)
   obtain⟨x,ex⟩:∃x,x=lat L1 (k+v.length):=⟨_,rfl⟩
   rw[←ex] at hxc hx64
   have hS:=fun W=>run_Sub64 x c b t4 W
   obtain⟨x',ex'⟩:∃z,z=(x+W64 - c - b) % W64:=⟨_,rfl⟩
   obtain⟨b',eb'⟩:∃z,z=(if x<c+b then 1 else 0:Nat):=⟨_,rfl⟩
   simp only[←ex',←eb'] at hS
   have j1:((v.length:Nat):Int)<((v.length:Nat):Int)+1:=by omega
   have j0:(0:Int)≤((v.length:Nat):Int):=by omega
   have HE:=Lib.hid (And.intro ex (And.intro ex' eb'))
   clear t1 t2 t3 t5 t6 t7 ex ex' eb'
   by_cases hb0:x<c+b
   ·obtain rfl:b'=1:=by rw[HE.out.2.2,if_pos hb0]
    have HL:=Lib.hid hb0
    clear hb0
    have hd:(((1:Nat):Int) == 0)=false:=rfl
    go_wp2_with fail
    have hb1':Bd (L1.set (k+v.length) x'):=HT.out.2.1.set _ (by rw[HE.out.2.1];exact Nat.mod_lt _ W64_pos)
    have hA2:=hA1.set (k+v.length) x'
    have hv2:=hv1.far (p:=⟨g,k+v.length,none⟩) hvb (.int .u64 (x':Nat))
    have hw2:=OnlyIn.set (i:=k+v.length) hw1 (.int .u64 (x':Nat))
    clear hS hd hxc hxf hx64
    go_loopw [15,74] (fun cV iV wr2=>∃(i2 c2:Nat) (L2:List Nat),i2≤v.length∧cV= .int .u64 c2∧iV= .int .i64 i2∧AddAt (L1.set (k+v.length) x') v k i2 L2 c2∧RowU wr2 g L2∧IsL wr2 (.slice A v.length cv) v∧OnlyIn g w wr2) (fun _ i _=>v.length - (RowKit.intOf i).toNat)
    case atStart=>exact⟨0,0,_,Nat.zero_le _,rfl,rfl,⟨rfl,hb1',Nat.zero_le _,rfl,rfl,by simp[num]⟩,hA2,hv2,hw2⟩
    case round=>
     clear hA2 hv2 hw2
     obtain⟨i2,c2,L2,hi2,rfl,rfl,hT2,hA2,hv2,hw2⟩:=hrel
     have HT2:=Lib.hid hT2
     obtain⟨t1,t2,t3,t5,t6,t7⟩:=hT2
     have hlen2:L2.length=L1.length:=by rw[t1,List.length_set]
     by_cases hiv:i2<v.length
     ·have hki2:k+i2<L2.length:=by omega
      have hrd:Reads wr wr.heap.size 1 A v.length (us v):=by
       obtain⟨A',c',e,_,_,_,hr⟩:=hv2
       obtain⟨rfl,_,rfl⟩:=Value.slice.inj e
       exact hr
      obtain⟨bd,rfl,_,hyc⟩:=us_cell hrd hiv
      have hxc:=hA2.cell hki2
      have hxf:=hA2.frozen (k+i2)
      have hx64:=t2.lat (k+i2)
      have hy64:=bv.lat i2
      obtain⟨x2,ex2⟩:∃x,x=lat L2 (k+i2):=⟨_,rfl⟩
      obtain⟨y,ey⟩:∃y,y=lat v i2:=⟨_,rfl⟩
      rw[←ex2] at hxc hx64
      rw[←ey] at hyc hy64
      obtain⟨s,es⟩:∃s,s=(x2+y+c2) % W64:=⟨_,rfl⟩
      obtain⟨k1,ek⟩:∃z,z=(x2+y+c2) / W64:=⟨_,rfl⟩
      have hAd:=fun W=>run_Add64_ex x2 y c2 s k1 c2 rfl t3 es ek W
      have hst:=HT2.out.step hiv (by rw[List.length_set];omega) ex2 ey es ek bv
      have HS2:=Lib.hid hst
      have j0:(0:Int)≤(i2:Int):=by omega
      have j1:(i2:Int)<((v.length:Nat):Int):=by omega
      have j2:(i2:Int)<((v.length:Nat):Int)+1:=by omega
      clear es ek ex2 ey hst t1 t2 t3 t5 t6 t7 hlen2
      go_wp2_with fail
      exact⟨⟨i2+1,k1,L2.set (k+i2) s,by omega,rfl,congrArg (Value.int .i64) (by omega),HS2.out,hA2.set _ _,hv2.far (p:=⟨g,k+i2,none⟩) hvb _,hw2.set _⟩,by simp[RowKit.intOf];omega⟩
     ·obtain rfl:i2=v.length:=by omega
      have hki2:k+v.length<L2.length:=by omega
      have hxc:=hA2.cell hki2
      have hxf:=hA2.frozen (k+v.length)
      obtain⟨e1,e2,e3⟩:=HT.out.end1 hk HE.out.1 HE.out.2.1 HL.out HV.out bv G1.out G2.out HT2.out
      obtain⟨x2,ex2⟩:∃x,x=lat L2 (k+v.length):=⟨_,rfl⟩
      rw[←ex2] at hxc e3
      have hwq:IntKind.u64.wrap ((q:Int) - 1)=((q - 1:Nat):Int):=by rw[IntKind.wrap_u64];omega
      obtain⟨s,es⟩:∃s,s=(x2+c2) % W64:=⟨_,rfl⟩
      have hws:IntKind.u64.wrap ((x2:Int)+(c2:Int))=(s:Int):=by rw[es];exact u64_add_mod x2 c2
      rw[←es] at e3
      have E:=Lib.hid (And.intro e2 e3)
      have j0:(0:Int)≤((v.length:Nat):Int):=by omega
      have j1:((v.length:Nat):Int)<((v.length:Nat):Int)+1:=by omega
      clear e1 e2 e3 es ex2 t1 t2 t3 t5 t6 t7 hlen2
      go_wp2_with fail
      go_ret
      exact⟨_,show Ending.returned (.int .u64 ((q - 1:Nat):Int))=_ by rw[E.out.1],hA2.set _ _,hw2.set _,E.out.2⟩
   ·obtain rfl:b'=0:=by rw[HE.out.2.2,if_neg hb0]
    obtain⟨f1,f2⟩:=HT.out.end0 hk HE.out.1 HE.out.2.1 hb0 HV.out G1.out G2.out
    have F:=Lib.hid (And.intro f1 f2)
    clear hb0 f1 f2
    go_wp2_with fail
    go_ret
    exact⟨_,show Ending.returned (.int .u64 (q:Int))=_ by rw[←F.out.1],hA1.set _ _,hw1.set _,F.out.2⟩
theorem dbare_any (v:Value) (l:List Nat) (w:World) (h:IsL w v l):
 Calls Tryz.prog 185 #[v] w fun e w'=>∃v',e= .returned v'∧IsN w v' (num l)∧(∀g,v'.ownBlock=some g→v.ownBlock=some g)∧w=w':=by
 obtain⟨A,c,rfl,hlc,hc,hbd,hr⟩:=h
 go_enter Tryz.func185,Tryz.ntmps185
 go_wp2
 go_loop [0] (fun a=>∃k:Nat,k≤l.length∧a= .slice A k c∧Hid (num (l.take k)=num l)) (fun a=>match a with | .slice _ k _=>k | _=>0)
 case atStart=>exact⟨l.length,Nat.le_refl _,rfl,by rw[List.take_length];exact Lib.hid rfl⟩
 case round=>
  obtain⟨k,hk,rfl,hn⟩:=hrel
  have hcell:0<k→∃ad,A=some ad∧w.cell? (ad.add (k - 1))=some (.int .u64 ((lat l (k - 1):Nat):Int)):=fun h=>by
   obtain⟨ad,e,_,hx⟩:=us_cell hr (k:=k - 1) (by omega)
   exact⟨ad,e,hx⟩
  by_cases h0:0<k
  ·obtain⟨ad,rfl,hx⟩:=hcell h0
   clear hcell
   by_cases hz:lat l (k - 1)=0
   ·rw[hz] at hx
    go_wp2
    refine ⟨⟨k - 1,by omega,rfl,?_⟩,by dsimp only;omega⟩
    rw[Hid] at hn
    exact Lib.hid ((num_take_pred h0 hz).trans hn)
   ·have hz':(((lat l (k - 1):Nat):Int) == 0)=false:=by simp;omega
    go_wp2
    go_ret
    refine ⟨_,rfl,⟨some ad,c,?_,?_,hc,limbs_bd _,?_⟩,fun _ e=>e,rfl⟩
    all_goals rw[limbs_of_take hbd hn hk (.inr hz)]
    ·simp[hk]
    ·simp;omega
    ·rw[List.length_take,Nat.min_eq_left hk];exact hr.shorter hk
  ·obtain rfl:k=0:=by omega
   go_wp2
   go_ret
   have e:num l=0:=by rw[←hn];rfl
   refine ⟨_,rfl,⟨A,c,?_,?_,hc,limbs_bd _,?_⟩,fun _ e=>by have e':(Value.slice A 0 c).ownBlock=_:=e;cases A<;>exact e',rfl⟩
   all_goals rw[e,limbs_zero]
   ·rfl
   ·simp
   ·exact Reads.none_
theorem clone_nat (v:Value) (l:List Nat) (w:World) (h:IsL w v l) (hl:l.length≤17592186044416):
 Calls Tryz.prog 195 #[v] w fun e w'=>∃v',e= .returned v'∧IsL w' v' l∧Fresh w.heap.size v'∧Below w.heap.size w w':=by
 obtain⟨i0,hi,hz0,hz1,hz2⟩:=info_parts info_u64
 have q22:∀(w:World) (a:Option Addr) (n c n' c':Nat),(binOp .eql 28 (.slice a n c) (.slice none n' c')).run Tryz.prog w= .ok (.bool a.isNone) w:=fun w a n c n' c'=>Lib.run_eql_slice_nil w _ _ a n c n' c' Tryz.underlying28
 obtain⟨A,c,rfl,h1,h2,hbd,hr⟩:=h
 rcases A with _ | ad
 ·have h0:l.length=0:=by
   rcases Nat.eq_zero_or_pos l.length with h | h
   ·exact h
   ·obtain⟨ad,e,_⟩:=hr.2 h;cases e
  have hl:l=[]:=List.eq_nil_of_length_eq_zero h0
  subst hl
  go_enter Tryz.func195,Tryz.ntmps195
  go_wp2
  go_ret
  exact⟨_,rfl,IsL.nil w,fun g e=>by simp[Value.ownBlock] at e,Below.refl _ _⟩
 ·have hown:=World.ownsRow_lit w #[] 0 (base:=w.heap.size) (e:=141) (size:=1) (Nat.le_refl _) (by unfold maxLen;omega) rfl
  go_enter Tryz.func195,Tryz.ntmps195
  go_wp2_with (at_builtin;refine wpList_append_any _ rfl (.tmp 5) (.tmp 6) _ rfl w.heap.size 141 i0 _ 1 8 Tryz.underlying28 hi hz0 hz1 hz2 rfl (by omega) _ 0 [] rfl hown w.heap.size (some ad) l.length c (us l) rfl (hr.alloc (Nat.le_refl _) _) (us_one _) (by unfold maxLen;omega) (by omega) (by simp) ?_;intro v' w' hown' hgrow hat)
  go_ret
  rw[Nat.zero_add,List.nil_append] at hown'
  exact⟨_,rfl,IsL.of_own hown' hbd,Fresh.of_own hown',((Below.refl _ w).alloc (Nat.le_refl _) _).grown hgrow (by simp) (fun g e=>by cases e;exact Nat.le_refl _)⟩
end Go.Proofs.YtdnjdglekifhpaaGreat
namespace Go.Proofs.YtdnjdglekifhpaaGreat
open Go.RowKit
theorem mulL_any (va vb:Value) (a b:List Nat) (w:World) (ha:IsL w va a) (hb:IsL w vb b) (hla:a.length≤1000000) (hlb:b.length≤1000000):
 Calls Tryz.prog 122 #[va,vb] w fun e w'=>∃v',e= .returned v'∧IsN w' v' (num a*num b)∧Below w.heap.size w w':=by
 obtain⟨A,ca,rfl,hac,hca,hba,hra⟩:=ha
 obtain⟨B,cb,rfl,hbc,hcb,hbb,hrb⟩:=hb
 have hmk:=run_make_u64 28 Tryz.underlying28 (a.length+b.length) ((a.length:Int)+(b.length:Int)) (by omega) (by omega)
 have a0:=Arr.new w (zeros (a.length+b.length))
 have hB0:Below w.heap.size w (w.alloc (.cells (us (zeros (a.length+b.length))).toArray 141)):=(Below.refl _ w).alloc (Nat.le_refl _) _
 go_enter Tryz.func122,Tryz.ntmps122
 go_wp2
 go_loopw [22] (fun i wr=>∃(k:Nat) (l:List Nat),k≤a.length∧i= .int .i64 k∧Arr wr w.heap.size l∧Hid (l.length=a.length+b.length)∧Bd l∧Hid (num l=num (a.take k)*num b)∧Hid (∀j,k+b.length≤j→lat l j=0)∧Below w.heap.size w wr) (fun i _=>a.length - (intOf i).toNat)
 case atStart=>exact⟨0,zeros (a.length+b.length),Nat.zero_le _,rfl,a0,zeros_len _,Bd.zeros _,Lib.hid (by rw[num_zeros];simp[num]),Lib.hid (fun j _=>lat_zeros _ _),hB0⟩
 case round=>
  obtain⟨k,l,hk,rfl,hA,hlen,hbl,hnum,hz,hB⟩:=hrel
  by_cases hlt:k<a.length
  ·obtain⟨ad,rfl,_,hxc⟩:=us_cell (hra.below hB) hlt
   have hx64:=hba.lat k
   obtain⟨x,hx⟩:∃x,x=lat a k:=⟨_,rfl⟩
   rw[←hx] at hxc hx64
   have Hx:=Lib.hid hx
   clear hx
   go_wp2
   go_loopw [8,29] (fun cy i wi=>∃(m c:Nat) (l':List Nat),m≤b.length∧cy= .int .u64 c∧i= .int .i64 m∧c<W64∧Arr wi w.heap.size l'∧Hid (l'.length=a.length+b.length)∧Bd l'∧Hid (num l'+W64^(k+m)*c=num (a.take k)*num b+W64^k*(x*num (b.take m)))∧Hid (∀j,k+b.length≤j→lat l' j=0)∧Below w.heap.size w wi) (fun _ i _=>b.length - (intOf i).toNat)
   case atStart=>exact⟨0,0,l,Nat.zero_le _,rfl,rfl,W64_pos,hA,hlen,hbl,Lib.hid (by rw[hnum.out];simp[num]),hz,hB⟩
   case round=>
    obtain⟨m,c,l',hm,rfl,rfl,hc64,hA',hlen',hbl',hinv,hz',hB'⟩:=hrel
    by_cases hmt:m<b.length
    ·obtain⟨bd,rfl,_,hyc⟩:=us_cell (hrb.below hB') hmt
     have hy64:=hbb.lat m
     obtain⟨y,hy⟩:∃y,y=lat b m:=⟨_,rfl⟩
     rw[←hy] at hyc hy64
     have hoc:=hA'.cell (i:=k+m) (by rw[hlen'.out];omega)
     have hof:=hA'.frozen (k+m)
     have ho64:=hbl'.lat (k+m)
     obtain⟨o,ho⟩:∃o,o=lat l' (k+m):=⟨_,rfl⟩
     rw[←ho] at hoc ho64
     obtain⟨hi,ehi⟩:∃hi,hi=x*y / W64:=⟨_,rfl⟩
     obtain⟨lo,elo⟩:∃lo,lo=x*y % W64:=⟨_,rfl⟩
     obtain⟨s1,es1⟩:∃s1,s1=(lo+o) % W64:=⟨_,rfl⟩
     obtain⟨c1,ec1⟩:∃c1,c1=(lo+o) / W64:=⟨_,rfl⟩
     obtain⟨h1,eh1⟩:∃h1,h1=hi+c1:=⟨_,rfl⟩
     obtain⟨s2,es2⟩:∃s2,s2=(s1+c) % W64:=⟨_,rfl⟩
     obtain⟨c2,ec2⟩:∃c2,c2=(s1+c) / W64:=⟨_,rfl⟩
     obtain⟨r,er⟩:∃r,r=h1+c2:=⟨_,rfl⟩
     obtain⟨d1,d2,d3,d4,d5,d6⟩:=mul_digit hx64 hy64 ho64 hc64 ehi elo es1 ec1 eh1 es2 ec2 er
     have M:=Lib.hid (fun W=>mul64_ex x y hi lo hx64 hy64 ehi elo W)
     have r1:=fun W=>run_Add64_ex lo o 0 s1 c1 0 rfl (by omega) es1 ec1 W
     have r2:=fun W=>run_Add64_ex s1 c 0 s2 c2 0 rfl (by omega) es2 ec2 W
     have w1:IntKind.u64.wrap ((hi:Int)+(c1:Int))=(h1:Int):=by
      rw[IntKind.wrap_u64,eh1];unfold W64 at d3;omega
     have w2:IntKind.u64.wrap ((h1:Int)+(c2:Int))=(r:Int):=by
      rw[IntKind.wrap_u64,er];unfold W64 at d2;omega
     have fin:=Lib.hid (mul_inner (i:=k) (by rw[hlen'.out];omega) ho hinv.out (by rw[←hy];exact d1))
     have D:=Lib.hid (And.intro d2 (And.intro d4 d1))
     clear ehi elo es1 ec1 eh1 es2 ec2 er d1 d2 d3 d4 d5 d6 hx64 hy64 ho64 hc64 ho hy
     go_wp2_with ((with_reducible refine (M.out _).mono ?_);rintro e w' ⟨rfl,rfl⟩)
     refine ⟨⟨m+1,r,l'.set (k+m) s2,by omega,rfl,by go_num,D.out.1,hA'.set _ _,by rw[Hid,List.length_set];exact hlen'.out,hbl'.set _ D.out.2.1,fin,?_,hB'.setCell (p:=⟨w.heap.size,k+m,none⟩) (Nat.le_refl _) _⟩,by simp[intOf];omega⟩
     refine Lib.hid (fun j hj=>?_)
     rw[lat_set,if_neg (by omega)]
     exact hz'.out j hj
    ·obtain rfl:m=b.length:=by omega
     have hi2:k+b.length<l'.length:=by rw[hlen'.out];omega
     have hoc:=hA'.cell hi2
     have hof:=hA'.frozen (k+b.length)
     have fin:=mul_outer (a:=a) (b:=b) (i:=k) (c:=c) hi2 (hz'.out _ (Nat.le_refl _)) (by have:=hinv.out;rwa [List.take_length,Hx.out] at this)
     have Fin:=Lib.hid fin
     have C:=Lib.hid hc64
     clear fin hi2 hc64
     go_wp2
     refine ⟨⟨k+1,l'.set (k+b.length) c,by omega,by go_num,hA'.set _ _,by rw[Hid,List.length_set];exact hlen'.out,hbl'.set _ C.out,Fin,?_,hB'.setCell (p:=⟨w.heap.size,k+b.length,none⟩) (Nat.le_refl _) _⟩,by simp[intOf];omega⟩
     refine Lib.hid (fun j hj=>?_)
     rw[lat_set,if_neg (by omega)]
     exact hz'.out j (by omega)
  ·obtain rfl:k=a.length:=by omega
   have hres:=hA.isL hbl (by rw[hlen.out];omega)
   rw[hlen.out] at hres
   have N:=hnum.out
   rw[List.take_length] at N
   have N':=Lib.hid N
   clear N
   go_wp2_with ((with_reducible refine (bare_any _ _ _ hres).mono ?_);rintro e w' ⟨r,rfl,hr,rfl⟩)
   go_ret
   exact⟨_,rfl,by rw[←N'.out];exact hr,hB⟩
theorem mul_any (va vb:Value) (a b:Nat) (w:World) (ha:IsN w va a) (hb:IsN w vb b) (hla:(limbs a).length≤1000000) (hlb:(limbs b).length≤1000000):
 Calls Tryz.prog 122 #[va,vb] w fun e w'=>∃v',e= .returned v'∧IsN w' v' (a*b)∧Below w.heap.size w w':=by
 have:=mulL_any va vb _ _ w ha hb hla hlb
 rwa [num_limbs,num_limbs] at this
end Go.Proofs.YtdnjdglekifhpaaGreat
namespace Go.Proofs.YtdnjdglekifhpaaGreat
open Go.RowKit Go.Shelf
attribute [local go_sem] Oper.semAt_some
abbrev Idx (n:Nat):={ i:Nat // i<n }
def back (n k:Nat):List Nat:=(List.range k).map fun j=>n - 1 - j
theorem back_succ (n k:Nat):back n (k+1)=back n k++[n - 1 - k]:=by simp[back,List.range_succ]
theorem back_length (n k:Nat):(back n k).length=k:=by simp[back]
theorem back1_in (F:Fence) (n:Nat) (h7:F.fn 234) (hro:F.round=none) (hn:1≤n) (lr Bs n₀ c:Nat) (A:Option Addr) (l:List Nat) (hl:l.length≤9223372036854775807) (J Jx:List (Idx l.length)→World→Prop)
 (hY : ∀ pre x W, J pre W → pre.length < l.length → YieldAt F (n - 1) Tryz.prog lr #[.int .i64 (x.1 : Nat), .int .u64 (lat l x.1 : Nat)] W fun e W' =>
  (e= .returned (.bool true)∧J (pre++[x]) W'∧Below n₀ W W')∨(e= .returned (.bool false)∧Jx (pre++[x]) W'))
 (W:World) (hBs:W.cell? ⟨Bs,0,none⟩=some (.slice A l.length c)) (hB:Bs<n₀) (hr:Reads W n₀ 1 A l.length (us l)) (h0:J [] W):
 CallsIn F n Tryz.prog 234 #[.func (.yield lr) #[] #[],.pointer (some ⟨Bs,0,none⟩)] W fun e W'=>(∃v,e= .returned v)∧
  ((∃ys:List (Idx l.length),ys.map (·.1)=back l.length l.length∧J ys W')∨(∃pre:List (Idx l.length),(∃k,k≤l.length∧pre.map (·.1)=back l.length k)∧Jx pre W')):=by
 refine callsIn_of_wp Tryz.func234 rfl h7 ?_ hro
 simp only[Tryz.ntmps234,List.size_toArray,List.length_cons,List.length_nil,Nat.reduceAdd,Nat.reduceSub,Array.replicate_succ,Array.replicate_zero,List.push_toArray,List.append_toArray,List.nil_append,List.cons_append]
 gi_wp2
 gi_loopw [3] (fun i wr=>∃(k:Nat) (pre:List (Idx l.length)),k≤l.length∧i= .int .i64 ((l.length:Int) - 1 - (k:Int))∧Hid (pre.map (·.1)=back l.length k)∧J pre wr∧Below n₀ W wr)
  (fun i _=>(intOf i+1).toNat)
 case atStart=>exact⟨0,[],Nat.zero_le _,by simp,Lib.hid rfl,h0,Below.refl _ _⟩
 case round=>
  obtain⟨k,pre,hk,rfl,hpre,hJs,hnx⟩:=hrel
  by_cases hlt:k<l.length
  ·have hpl:pre.length<l.length:=by have:=congrArg List.length hpre.out;rw[List.length_map,back_length] at this;omega
   have hnew:∀h:l.length - 1 - k<l.length,(pre++[(⟨l.length - 1 - k,h⟩:Idx l.length)]).map (·.1)=back l.length (k+1):=fun h=>by
    rw[List.map_append,hpre.out,back_succ];rfl
   obtain⟨fn,tmps,assign,body,hy,hR⟩:=hY pre ⟨l.length - 1 - k,by omega⟩ wr hJs hpl
   dsimp only at hy
   rw[show ((l.length - 1 - k:Nat):Int)=(l.length:Int) - 1 - (k:Int) from by omega] at hy
   obtain⟨ad,rfl,hb,hcx⟩:=us_cell (hr.below hnx) (k:=l.length - 1 - k) (by omega)
   have hBs':=(hnx.cell (p:=⟨Bs,0,none⟩) hB).trans hBs
   have hnew':=Lib.hid (hnew (by omega))
   clear hnew hpl
   gi_wp2
   refine hR.mono ?_
   rintro e W3 (⟨rfl,hJ3,hk3⟩ | ⟨rfl,hJx3⟩)
   ·gi_wp2
    go_roundw
    case rel=>exact⟨k+1,_,by omega,by go_num,hnew',hJ3,hnx.trans hk3⟩
    case measure=>simp[intOf];omega
   ·gi_wp2
    refine bodyPost_ret (results_none rfl _ _ _) rfl ?_
    exact⟨⟨_,rfl⟩,.inr ⟨_,⟨k+1,by omega,hnew'.out⟩,hJx3⟩⟩
  ·obtain rfl:k=l.length:=by omega
   gi_wp2
   go_end0
   exact⟨⟨_,rfl⟩,.inl ⟨_,hpre.out,hJs⟩⟩
theorem backward_in (F:Fence) (n:Nat) (h5:F.fn 198) (hro:F.round=none) (A:Option Addr) (m c:Nat) (w:World):
 CallsIn F n Tryz.prog 198 #[.slice A m c] w fun e w'=>e= .returned (.func (.func 234) #[] #[.pointer (some ⟨w.heap.size,0,none⟩)])∧w'=w.alloc (.cells #[.slice A m c] 28):=by
 refine callsIn_of_wp Tryz.func198 rfl h5 ?_ hro
 simp only[Tryz.ntmps198,List.size_toArray,List.length_cons,List.length_nil,Nat.reduceAdd,Nat.reduceSub,Array.replicate_succ,Array.replicate_zero,List.push_toArray,List.append_toArray,List.nil_append,List.cons_append]
 gi_wp2
 go_ret
 exact⟨rfl,rfl⟩
theorem backward_stops (F:Fence) (n:Nat) (h7:F.fn 234) (hro:F.round=none) (hn:1≤n) (Bs n₀ c:Nat) (A:Option Addr) (l:List Nat) (hl:l.length≤9223372036854775807) (w:World) (hBs:Bs<n₀) (hn₀:n₀≤w.heap.size)
 (hc:w.cell? ⟨Bs,0,none⟩=some (.slice A l.length c)) (hr:Reads w n₀ 1 A l.length (us l)):
 SeqStopsK F n Tryz.prog 234 #[.pointer (some ⟨Bs,0,none⟩)] (fun x:Idx l.length=> #[Value.int .i64 (x.1:Nat),Value.int .u64 (lat l x.1:Nat)]) (Below n₀) (fun ys=>ys.map (·.1)=back l.length l.length)
  (fun pre=>∃k,k≤l.length∧pre.map (·.1)=back l.length k) l.length w:=fun lr J Jx W hW _ _ hY h0=>
 back1_in F n h7 hro hn lr Bs n₀ c A l hl J Jx hY W ((hW.cell (p:=⟨Bs,0,none⟩) (by simp;omega)).trans hc) hBs (hr.below (hW.mono hn₀)) h0
end Go.Proofs.YtdnjdglekifhpaaGreat
namespace Go.Proofs.YtdnjdglekifhpaaGreat
open Go.RowKit Go.Shelf
attribute [local go_sem] Oper.semAt_some
theorem boxed_kept {W W':World} {row:Option Nat} {B:Nat} {t:TypeId} {v:Value} (h:Boxed W B t v) (hg:W.grownBy W' row) (hr:∀r,row=some r→∃o:Obj,W.heap[r]?=some o∧o.isCells=false):Boxed W' B t v:=
 h.kept hg (fun e=>by obtain⟨o,ho,hc⟩:=hr B e.symm;rw[show W.heap[B]?=_ from h] at ho;cases ho;cases hc)
theorem compare_int_in (n:Nat) (a b:Int) (w:World):
 CallsIn Fence.wide n Tryz.prog 231 #[.int .i64 a,.int .i64 b] w fun e w'=>e= .returned (.int .i64 (cmpI a b))∧w=w':=callsIn_wide.2 (compare_int a b w)
theorem compare_u64_in (n:Nat) (a b:Int) (w:World):
 CallsIn Fence.wide n Tryz.prog 232 #[.int .u64 a,.int .u64 b] w fun e w'=>e= .returned (.int .i64 (cmpI a b))∧w=w':=callsIn_wide.2 (compare_u64 a b w)
theorem cmpL_eq_of {a b:List Nat} {pre:List (Idx a.length)} (hl:a.length=b.length) (hp:∀x∈pre,lat b x.1=lat a x.1) (hd:pre.map (·.1)=back a.length a.length):cmpL a b=0:=by
 have :a=b:=by
  apply List.ext_getElem hl
  intro i h1 h2
  have hm:i∈back a.length a.length:=by
   simp only[back,List.mem_map,List.mem_range]
   exact⟨a.length - 1 - i,by omega,by omega⟩
  rw[←hd,List.mem_map] at hm
  obtain⟨x,hx,rfl⟩:=hm
  have:=hp x hx
  simp[lat,h1,h2] at this
  exact this.symm
 subst this
 simp[cmpL,cmpI]
theorem cmpL_ne_of {a b:List Nat} {pre:List (Idx a.length)} {x:Idx a.length} (hba:Bd a) (hbb:Bd b) (hl:a.length=b.length) (hd:∃k,k≤a.length∧(pre++[x]).map (·.1)=back a.length k)
 (hp:∀y∈pre,lat b y.1=lat a y.1) (hne:lat b x.1≠lat a x.1):cmpL a b=cmpI (lat a x.1) (lat b x.1):=by
 obtain⟨k,hk,hd⟩:=hd
 have hx:=x.2
 have hlen:=congrArg List.length hd
 rw[List.length_map,back_length,List.length_append,List.length_singleton] at hlen
 subst hlen
 rw[List.map_append,back_succ] at hd
 obtain⟨h1,h2⟩:=List.append_inj' hd rfl
 simp at h2
 have htop:a.drop (x.1+1)=b.drop (x.1+1):=by
  apply List.ext_getElem (by simp;omega)
  intro j h3 h4
  simp at h3 h4
  have hm:x.1+1+j∈back a.length pre.length:=by
   simp only[back,List.mem_map,List.mem_range]
   exact⟨a.length - 1 - (x.1+1+j),by omega,by omega⟩
  rw[←h1,List.mem_map] at hm
  obtain⟨y,hy,hye⟩:=hm
  have:=hp y hy
  rw[hye] at this
  have e1:x.1+1+j<a.length:=by omega
  have e2:x.1+1+j<b.length:=by omega
  simp[lat,e1,e2] at this
  simp[this]
 unfold cmpL
 rw[if_pos hl]
 rcases Nat.lt_or_gt_of_ne hne with h | h
 ·have:=num_lt_of_top hbb hba x.1 (by omega) hl.symm htop.symm h
  rw[cmpI_gt (by omega),cmpI_gt (by omega)]
 ·have:=num_lt_of_top hba hbb x.1 (by omega) hl htop h
  rw[cmpI_lt (by omega),cmpI_lt (by omega)]
theorem cmp_in (va vb:Value) (a b:List Nat) (w:World) (ha:IsL w va a) (hb:IsL w vb b):
 CallsIn Fence.wide 9 Tryz.prog 194 #[va,vb] w fun e w'=>e= .returned (.int .i64 (cmpL a b))∧Below w.heap.size w w':=by
 obtain⟨A,ca,rfl,hac,hca,hba,hra⟩:=ha
 obtain⟨B,cb,rfl,hbc,hcb,hbb,hrb⟩:=hb
 refine callsIn_of_wp_marks Tryz.func194 rfl trivial ?_ rfl
 simp only[Tryz.ntmps194,List.size_toArray,List.length_cons,List.length_nil,Nat.reduceAdd,Nat.reduceSub,Array.replicate_succ,Array.replicate_zero,List.push_toArray,List.append_toArray,List.nil_append,List.cons_append]
 by_cases hlen:a.length=b.length
 ·have z:(cmpI (a.length:Int) (b.length:Int) != 0)=false:=by rw[hlen,cmpI_eq];rfl
  have hl:=Lib.hid hlen
  clear hlen
  gi_wp2_with (first | (refine ⟨trivial,?_⟩;gi_at_call 231;refine (compare_int_in _ _ _ _).mono ?_;rintro e w' ⟨rfl,rfl⟩) | (refine ⟨trivial,?_⟩;gi_at_call 198;refine (backward_in Fence.wide _ trivial rfl _ _ _ _).mono ?_;rintro e w' ⟨rfl,rfl⟩))
  have bB:=Boxed.new w 28 (.slice B b.length cb)
  have bR:=Boxed.new (w.alloc (.cells #[.slice B b.length cb] 28)) 3 (.int .i64 0)
  have bI:=Boxed.new ((w.alloc (.cells #[.slice B b.length cb] 28)).alloc (.cells #[.int .i64 0] 3)) 28 (.slice A a.length ca)
  simp only[World.size_alloc] at bR bI
  have hB0:Below w.heap.size w (((w.alloc (.cells #[.slice B b.length cb] 28)).alloc (.cells #[.int .i64 0] 3)).alloc (.cells #[.slice A a.length ca] 28)):=(((Below.refl _ w).alloc (Nat.le_refl _) _).alloc (by simp) _).alloc (by simp;omega) _
  obtain⟨W0,hW0⟩:∃W0,W0=(((w.alloc (.cells #[.slice B b.length cb] 28)).alloc (.cells #[.int .i64 0] 3)).alloc (.cells #[.slice A a.length ca] 28)):=⟨_,rfl⟩
  have hsz:W0.heap.size=w.heap.size+3:=by rw[hW0];simp
  have bB':Boxed W0 w.heap.size 28 (.slice B b.length cb):=by rw[hW0];exact (bB.alloc _).alloc _
  have bR':Boxed W0 (w.heap.size+1) 3 (.int .i64 0):=by rw[hW0];exact bR.alloc _
  rw[←hW0] at bI hB0 ⊢
  clear bB bR hW0
  refine wpIn_rangeFunc_ownF (n:=9) rfl (by omega) (gf:=234) (lb:= #[.pointer (some ⟨w.heap.size+1+1,0,none⟩)]) rfl trivial (enters_of Tryz.func234 (by kernel_rfl) rfl)
   (backward_stops Fence.wide 8 trivial rfl (by omega) (w.heap.size+1+1) W0.heap.size ca A a (by omega) W0 (by omega) (Nat.le_refl _) bI.cell ((hra.below hB0).more (by omega))) belowK_t (belowK_b (Nat.le_refl _)) (Below.refl _ _) (fun _=>rfl)
   (fun pre W=>((∀x∈pre,lat b x.1=lat a x.1)∧Boxed W w.heap.size 28 (.slice B b.length cb)∧Boxed W (w.heap.size+1) 3 (.int .i64 0))∧Below w.heap.size w W)
   (fun c pre W=>(c= .ret∧(∃pre' x,pre=pre'++[x]∧(∀x∈pre',lat b x.1=lat a x.1)∧lat b x.1≠lat a x.1∧Boxed W (w.heap.size+1) 3 (.int .i64 (cmpI (lat a x.1) (lat b x.1)))))∧Below w.heap.size w W)
   ?oI ?oX ?st ?a1 ?assign ?body ?done ?stop
  case assign=>
   intro l x W K hK
   gi_wp2
   exact hK
  case oI=>exact OwnFrom.and (Own.from (fun s X Y row hs hg hr=>⟨hs.1,boxed_kept hs.2.1 hg hr,boxed_kept hs.2.2 hg hr⟩) _) (ownFrom_below (by omega) (by omega))
  case oX=>exact fun c=>OwnFrom.and (Own.from (fun s X Y row hs hg hr=>⟨hs.1,by obtain⟨p,x,h1,h2,h3,h4⟩:=hs.2;exact⟨p,x,h1,h2,h3,boxed_kept h4 hg hr⟩⟩) _) (ownFrom_below (by omega) (by omega))
  case st=>exact⟨⟨by simp,bB',bR'⟩,hB0⟩
  case body=>
   rintro l pre x W ⟨⟨hp,hBx,hRx⟩,hBel⟩ hlt
   have hc1:=hBx.cell
   have hc2:=hRx.cell
   have hf2:=hRx.frozen
   have hxl:=x.2
   have hl':x.1<b.length:=by have:=hl.out;omega
   obtain⟨ad,rfl,hbb',hcx⟩:=us_cell (hrb.below hBel) hl'
   by_cases he:lat b x.1=lat a x.1
   ·have z:(cmpI (lat a x.1:Nat) (lat b x.1:Nat) != 0)=false:=by rw[he,cmpI_eq];rfl
    have he':=Lib.hid he
    clear he
    gi_wp2_with (first | (refine ⟨trivial,?_⟩;gi_at_call 232;refine (CallsIn.inRound l (compare_u64_in _ _ _ _)).mono ?_;rintro e w' ⟨rfl,rfl⟩))
    exact⟨KeepsOthers.refl _,Below.refl _ _,⟨fun y hy=>(List.mem_append.1 hy).elim (hp y) (fun e=>by simp at e;subst e;exact he'.out),hBx,hRx⟩,hBel⟩
   ·have z:(cmpI (lat a x.1:Nat) (lat b x.1:Nat) != 0)=true:=by rw[bne_iff_ne];intro h;have:=cmpI_zero.1 h;omega
    gi_wp2_with (first | (refine ⟨trivial,?_⟩;gi_at_call 232;refine (CallsIn.inRound l (compare_u64_in _ _ _ _)).mono ?_;rintro e w' ⟨rfl,rfl⟩))
    exact⟨KeepsOthers.setCell _ _ _,⟨rfl,pre,x,rfl,hp,he,hRx.set _⟩,hBel.setCell (p:=⟨w.heap.size+1,0,none⟩) (by simp) _⟩
  case done=>
   rintro D ys W hD hD2 ⟨⟨hp,hBx,hRx⟩,hBel⟩ hK
   have hc2:=hRx.cell
   have hf2:=hRx.frozen
   gi_wp2
   have hK':=(KeepsOthers.setCell W ⟨w.heap.size+1,0,none⟩ (.int .i64 0)).same D _ hK rfl
   refine ⟨by simp,.inl ⟨_,_,rfl,run_takeDeferred hK',?_⟩⟩
   have hc5:=(boxed_kept (hRx.set (.int .i64 0)) (grownBy_putObj' _ D (.deferred none)) (fun r e=>by cases e;exact⟨_,hK',rfl⟩)).cell
   refine ⟨.int .i64 0,?_,?_,(hBel.setCell (p:=⟨w.heap.size+1,0,none⟩) (by simp) _).trans (belowK_b (w:=w) (Nat.le_refl _) _ D _ _ (by omega) hK' rfl rfl)⟩
   ·simp[results,Tryz.f194,go_sem,hc5]
   ·exact ret_int (by rw[cmpL_eq_of hl.out hp hD2])
  case stop=>
   rintro D c pre W hD hpre ⟨⟨rfl,p,x,rfl,hp,hne,hRx⟩,hBel⟩ hK
   gi_wp2
   refine ⟨by simp,.inl ⟨_,_,rfl,run_takeDeferred hK,?_⟩⟩
   have hc5:=(boxed_kept hRx (grownBy_putObj' _ D (.deferred none)) (fun r e=>by cases e;exact⟨_,hK,rfl⟩)).cell
   refine ⟨.int .i64 (cmpI (lat a x.1) (lat b x.1)),?_,?_,hBel.trans (belowK_b (w:=w) (Nat.le_refl _) W D _ _ (by omega) hK rfl rfl)⟩
   ·simp[results,Tryz.f194,go_sem,hc5]
   ·exact ret_int (by rw[cmpL_ne_of hba hbb hl.out hpre hp hne])
 ·have z:(cmpI (a.length:Int) (b.length:Int) != 0)=true:=by rw[bne_iff_ne];intro h;have:=cmpI_zero.1 h;omega
  have hl:=Lib.hid hlen
  clear hlen
  gi_wp2_with (first | (refine ⟨trivial,?_⟩;gi_at_call 231;refine (compare_int_in _ _ _ _).mono ?_;rintro e w' ⟨rfl,rfl⟩))
  have hc5:=(Boxed.new (w.alloc (.cells #[.slice B b.length cb] 28)) 3 (.int .i64 (cmpI a.length b.length))).cell
  rw[World.size_alloc] at hc5
  refine ⟨.int .i64 (cmpI a.length b.length),?_,?_,((Below.refl _ w).alloc (Nat.le_refl _) _).alloc (by simp) _⟩
  ·simp[results,Tryz.f194,go_sem,hc5]
  ·exact ret_int (by rw[cmpL,if_neg hl.out])
theorem cmp_any (va vb:Value) (a b:Nat) (w:World) (ha:IsN w va a) (hb:IsN w vb b):
 Calls Tryz.prog 194 #[va,vb] w fun e w'=>e= .returned (.int .i64 (cmpI a b))∧Below w.heap.size w w':=by
 rw[←cmpL_limbs]
 exact callsIn_wide.1 (cmp_in va vb _ _ w ha hb)
end Go.Proofs.YtdnjdglekifhpaaGreat
namespace Go.Proofs.YtdnjdglekifhpaaGreat
open Go.RowKit
def shrF (s:Nat) (p:List Nat×Nat) (i:Nat):List Nat×Nat:=(p.1.set i (lat p.1 i / 2^s+p.2),lat p.1 i*2^(64 - s) % W64)
def shrS (s:Nat) (d is:List Nat):List Nat×Nat:=is.foldl (shrF s) (d,0)
theorem shrS_snoc (s:Nat) (d is:List Nat) (i:Nat):shrS s d (is++[i])=shrF s (shrS s d is) i:=by unfold shrS;rw[List.foldl_append];rfl
theorem shrS_ok {s:Nat} (hs:s≤64) {d:List Nat} (hd:Bd d) (is:List Nat):(shrS s d is).1.length=d.length∧Bd (shrS s d is).1∧∃z,z<2^s∧(shrS s d is).2=z*2^(64 - s):=by
 refine snocI (p:=fun is=>(shrS s d is).1.length=d.length∧Bd (shrS s d is).1∧∃z,z<2^s∧(shrS s d is).2=z*2^(64 - s)) ⟨rfl,hd,0,Nat.pow_pos (by omega),by simp[shrS]⟩ ?_ is
 rintro is i ⟨h1,h2,z,h3,h4⟩
 rw[shrS_snoc]
 generalize shrS s d is=p at *
 refine ⟨by simp[shrF,h1],?_,lat p.1 i % 2^s,Nat.mod_lt _ (Nat.pow_pos (by omega)),shr_carry hs _⟩
 refine h2.set _ ?_
 rw[h4]
 exact (shr_digit hs (h2.lat i)).2 z h3
theorem shrS_back {s:Nat} (d:List Nat):∀k,k≤d.length→shrS s d (back d.length k)=(d.take (d.length - k)++shrL s (d.drop (d.length - k)),lat (d.drop (d.length - k)) 0*2^(64 - s) % W64)
 | 0, _ => by
   unfold shrS back
   simp[shrL,lat]
 | k + 1, h => by
   rw[back_succ,shrS_snoc,shrS_back d k (by omega)]
   unfold shrF
   simp only
   have e:d.length - k=(d.length - 1 - k)+1:=by omega
   have e2:d.length - (k+1)=d.length - 1 - k:=by omega
   rw[e,e2]
   have hi:d.length - 1 - k<d.length:=by omega
   generalize d.length - 1 - k=i at *
   rw[take_more hi]
   have hl:(d.take i).length=i:=by rw[List.length_take];omega
   have e3:lat (d.take i++[lat d i]++shrL s (d.drop (i+1))) i=lat d i:=by
    unfold lat
    rw[List.append_assoc,List.getElem?_append_right (by omega),hl,Nat.sub_self]
    rfl
   have e4:lat (d.drop i) 0=lat d i:=by rw[lat_drop,Nat.add_zero]
   rw[e3,e4,shrL_at s d i hi,List.append_assoc,List.set_append_right _ _ (by omega),hl,Nat.sub_self]
   rfl
theorem shrS_all {s:Nat} (d:List Nat):(shrS s d (back d.length d.length)).1=shrL s d:=by
 rw[shrS_back d _ (Nat.le_refl _),Nat.sub_self]
 rfl
theorem clone_own (ad:Addr) (c:Nat) (l:List Nat) (w:World) (h:IsL w (.slice (some ad) l.length c) l) (hl:l.length≤1000000):
 Calls Tryz.prog 195 #[.slice (some ad) l.length c] w fun e w'=>(∃v',e= .returned v'∧w'.ownsRow w.heap.size 141 1 v' l.length (us l))∧Below w.heap.size w w':=by
 obtain⟨i0,hi,hz0,hz1,hz2⟩:=info_parts info_u64
 have q22:∀(w:World) (a:Option Addr) (n c n' c':Nat),(binOp .eql 28 (.slice a n c) (.slice none n' c')).run Tryz.prog w= .ok (.bool a.isNone) w:=fun w a n c n' c'=>Lib.run_eql_slice_nil w _ _ a n c n' c' Tryz.underlying28
 obtain⟨A',c',e,h1,h2,hbd,hr⟩:=h
 obtain⟨rfl,_,rfl⟩:=Value.slice.inj e
 clear e
 have hown:=World.ownsRow_lit w #[] 0 (base:=w.heap.size) (e:=141) (size:=1) (Nat.le_refl _) (by unfold maxLen;omega) rfl
 go_enter Tryz.func195,Tryz.ntmps195
 go_wp2_with (at_builtin;refine wpList_append_any _ rfl (.tmp 5) (.tmp 6) _ rfl w.heap.size 141 i0 _ 1 8 Tryz.underlying28 hi hz0 hz1 hz2 rfl (by omega) _ 0 [] rfl hown w.heap.size (some ad) l.length c (us l) rfl (hr.alloc (Nat.le_refl _) _) (us_one _) (by unfold maxLen;omega) (by omega) (by simp) ?_;intro v' w' hown' hgrow hat)
 go_ret
 rw[Nat.zero_add,List.nil_append] at hown'
 exact⟨⟨_,rfl,hown'⟩,((Below.refl _ w).alloc (Nat.le_refl _) _).grown hgrow (by simp) (fun g e=>by cases e;exact Nat.le_refl _)⟩
end Go.Proofs.YtdnjdglekifhpaaGreat
