/- A part of the proof of: ADAM: against the real moments of the same gradients, from noughts on, kept moments are never farther away than their bounds, step by step. No conditions: every input. -/
import Derived.Deep.DeepMust
import Derived.Laws.OwnMore
import Derived.Deep.DeepCutAuto
import Derived.Test.YtdnjdglekifhpaaGreatTgc
set_option maxRecDepth 100000
set_option maxHeartbeats 8000000
namespace Go.Proofs.YtdnjdglekifhpaaGreat
open Go.RowKit
attribute [local go_sem ↓] Go.wp_at_zero Go.wp_at_succ
def pW (pl:Nat→Option (Int×Int×Int)) (i:Nat):Int:=((pl i).getD (0,0,0)).1
def pM (pl:Nat→Option (Int×Int×Int)) (i:Nat):Int:=((pl i).getD (0,0,0)).2.1
def pV (pl:Nat→Option (Int×Int×Int)) (i:Nat):Int:=((pl i).getD (0,0,0)).2.2
theorem aplaces_any (lr b1 b2 eps wd:Int) (apart:Bool) (p0 p1:Int) (f:Nat) (vW vM vV vG:Value) (Ws Ms Vs Gs:List Int) (pl:Nat→Option (Int×Int×Int)) (w:World) (jW:IsI w vW Ws) (jM:IsI w vM Ms) (jV:IsI w vV Vs) (jG:IsI w vG Gs) (hs:Ms.length=Ws.length∧Vs.length=Ws.length∧Gs.length=Ws.length) (hn:Ws.length≤1000000)
 (hPl:∀i,i<Ws.length→∀w,Calls Tryz.prog 174 #[.agg #[.int .i64 f],.agg #[.int .i64 lr,.int .i64 b1,.int .i64 b2,.int .i64 eps,.int .i64 wd,.bool apart],.agg #[.int .i64 p0,.int .i64 p1],.int .i64 (iat Ws i),.int .i64 (iat Ms i),.int .i64 (iat Vs i),.int .i64 (iat Gs i)] w fun e w'=>OutP (pl i) e∧Below w.heap.size w w'):
 Calls Tryz.prog 112 #[.agg #[.int .i64 f],.agg #[.int .i64 lr,.int .i64 b1,.int .i64 b2,.int .i64 eps,.int .i64 wd,.bool apart],.agg #[.int .i64 p0,.int .i64 p1],.agg #[vW,vM,vV,vG]] w fun e w'=>
  ((( ∀ i, i < Ws.length → pl i ≠ none) ∧ ∃ a b c, e = .returned (.tuple #[.agg #[a, b, c, .slice none 0 0], .int .i64 0]) ∧ ArrI w' a ((List.range Ws.length).map (pW pl)) ∧ ArrI w' b ((List.range Ws.length).map (pM pl)) ∧ ArrI w' c ((List.range Ws.length).map (pV pl))) ∨
   ((∃i,i<Ws.length∧pl i=none)∧e= .returned (.tuple #[.agg #[.slice none 0 0,.slice none 0 0,.slice none 0 0,.slice none 0 0],.int .i64 2])))∧Below w.heap.size w w':=by
 obtain⟨AW,cW,rfl,_,_,hRW⟩:=jW
 obtain⟨AM,cM,rfl,_,_,hRM⟩:=jM
 obtain⟨AV,cV,rfl,_,_,hRV⟩:=jV
 obtain⟨AG,cG,rfl,_,_,hRG⟩:=jG
 obtain⟨hsM,hsV,hsG⟩:=hs
 rw[hsM] at hRM ⊢
 rw[hsV] at hRV ⊢
 rw[hsG] at hRG ⊢
 clear hsM hsV hsG
 generalize Ws.length=n at *
 have hmk:=run_make_i64 62 Tryz.underlying62 n n rfl (by omega)
 have hmf:∀(fn:Fn) (first cap:Array Value) (w:World),(Instr.makeFunc fn first cap).run Tryz.prog w= .ok (.func fn first cap) w:=fun _ _ _ _=>rfl
 obtain⟨g,Y5,hr,hA,hP,h7,hR,hE,hB,hgw,EY⟩:=boxes6 w 148 #[.int .i64 f] 61 #[.int .i64 lr,.int .i64 b1,.int .i64 b2,.int .i64 eps,.int .i64 wd,.bool apart] 34 #[.int .i64 p0,.int .i64 p1] 64 #[.slice AW n cW,.slice AM n cM,.slice AV n cV,.slice AG n cG] 64 #[.slice none 0 0,.slice none 0 0,.slice none 0 0,.slice none 0 0] 42 #[.int .i64 0]
 have c0:=hr.q1
 obtain⟨c1,c2,c3,c4,c5,c6⟩:=hA.q6
 obtain⟨c7,c8⟩:=hP.q2
 obtain⟨c9,c10,c11,c12⟩:=h7.q4
 obtain⟨c13,c14,c15,c16⟩:=hR.q4
 have c17:=hE.q1
 go_enter_defers Tryz.func112,Tryz.ntmps112
 go_upto_region 3 with fail
 rw[←EY.out.2,←EY.out.1]
 replace hB:=hB.drew
 replace hr:=hr.drew
 replace hA:=hA.drew
 replace hP:=hP.drew
 replace h7:=h7.drew
 replace hR:=hR.drew
 replace hE:=hE.drew
 clear c0 c1 c2 c3 c4 c5 c6 c7 c8 c9 c10 c11 c12 c13 c14 c15 c16 c17
 go_cut [10] from 16 to 22 (fun s10 wx=>∃BW BM BV,s10= .int .i64 n∧Blk wx g 148 #[.int .i64 f]∧Blk wx (g+1) 61 #[.int .i64 lr,.int .i64 b1,.int .i64 b2,.int .i64 eps,.int .i64 wd,.bool apart]∧Blk wx (g+1+1) 34 #[.int .i64 p0,.int .i64 p1]∧Blk wx (g+1+1+1) 64 #[.slice AW n cW,.slice AM n cM,.slice AV n cV,.slice AG n cG]∧Blk wx (g+1+1+1+1) 64 #[.slice (some ⟨BW,0,none⟩) n n,.slice (some ⟨BM,0,none⟩) n n,.slice (some ⟨BV,0,none⟩) n n,.slice none 0 0]∧Blk wx (g+1+1+1+1+1) 42 #[.int .i64 0]∧Blk wx BW 2 ((is (List.replicate n 0)).toArray)∧Blk wx BM 2 ((is (List.replicate n 0)).toArray)∧Blk wx BV 2 ((is (List.replicate n 0)).toArray)∧Below w.heap.size w wx∧w.heap.size≤BW∧w.heap.size≤BM∧w.heap.size≤BV∧g≠BW∧g+1≠BW∧g+1+1≠BW∧g+1+1+1≠BW∧g+1+1+1+1≠BW∧g+1+1+1+1+1≠BW∧g≠BM∧g+1≠BM∧g+1+1≠BM∧g+1+1+1≠BM∧g+1+1+1+1≠BM∧g+1+1+1+1+1≠BM∧g≠BV∧g+1≠BV∧g+1+1≠BV∧g+1+1+1≠BV∧g+1+1+1+1≠BV∧g+1+1+1+1+1≠BV∧BW≠BM∧BW≠BV∧BM≠BV)
 case first=>
  refine wp_region_noPanic ?_
  refine wp_region_held_drew (S:=fun w'=>True) (by kernel_rfl) ?_ (fun hHeld=>?_)
  ·trivial
  obtain⟨wd3_1,hwd⟩:∃q,q=Y5.drew:=⟨_,rfl⟩
  rw[←hwd] at hB hr hA hP h7 hR hE ⊢
  clear hwd
  refine tkA 0 rfl ?_
  refine tkA 2 rfl ?_
  refine tkA 4 rfl ?_
  try simp only[Act.put,lay]
  refine wpAnyH_ready (rs:=[1,3,5]) (by kernel_rfl) (by simp) (AllReadyH.cons rfl (fun K hK=>?_) (AllReadyH.cons rfl (fun K hK=>?_) (AllReadyH.cons rfl (fun K hK=>?_) AllReadyH.nil)))
  ·obtain⟨u3_1,eu,hX1,b3_1⟩:=box1 wd3_1 2 ((is (List.replicate n 0)).toArray)
   obtain⟨BW,en⟩:∃X,X=wd3_1.heap.size:=⟨_,rfl⟩
   rw[←en] at hX1
   have lBW:w.heap.size≤BW:=by rw[en];exact hB.size
   have dBW_hr:g≠BW:=by have:=hr.lt;omega
   have dBW_hA:g+1≠BW:=by have:=hA.lt;omega
   have dBW_hP:g+1+1≠BW:=by have:=hP.lt;omega
   have dBW_h7:g+1+1+1≠BW:=by have:=h7.lt;omega
   have dBW_hR:g+1+1+1+1≠BW:=by have:=hR.lt;omega
   have dBW_hE:g+1+1+1+1+1≠BW:=by have:=hE.lt;omega
   have EUBW:=Lib.hid (And.intro eu en)
   clear eu en
   go_simp
   rw[←EUBW.out.1,←EUBW.out.2]
   replace hr:=hr.b b3_1
   replace hA:=hA.b b3_1
   replace hP:=hP.b b3_1
   replace h7:=h7.b b3_1
   replace hR:=hR.b b3_1
   replace hE:=hE.b b3_1
   replace hB:=bOn hB b3_1
   refine hK.out _ _ ?_ fun hHeld=>?_
   ·trivial
   clear hK K
   try simp only[Act.put,lay]
   refine rd2 3 5 rfl rfl (fun K hK=>?_) fun K hK=>?_
   ·obtain⟨u3_2,eu,hX2,b3_2⟩:=box1 u3_1 2 ((is (List.replicate n 0)).toArray)
    obtain⟨BM,en⟩:∃X,X=u3_1.heap.size:=⟨_,rfl⟩
    rw[←en] at hX2
    have lBM:w.heap.size≤BM:=by rw[en];exact hB.size
    have dBM_hr:g≠BM:=by have:=hr.lt;omega
    have dBM_hA:g+1≠BM:=by have:=hA.lt;omega
    have dBM_hP:g+1+1≠BM:=by have:=hP.lt;omega
    have dBM_h7:g+1+1+1≠BM:=by have:=h7.lt;omega
    have dBM_hR:g+1+1+1+1≠BM:=by have:=hR.lt;omega
    have dBM_hE:g+1+1+1+1+1≠BM:=by have:=hE.lt;omega
    have dBM_hX1:BW≠BM:=by have:=hX1.lt;omega
    have EUBM:=Lib.hid (And.intro eu en)
    clear eu en
    go_simp
    rw[←EUBM.out.1,←EUBM.out.2]
    replace hr:=hr.b b3_2
    replace hA:=hA.b b3_2
    replace hP:=hP.b b3_2
    replace h7:=h7.b b3_2
    replace hR:=hR.b b3_2
    replace hE:=hE.b b3_2
    replace hX1:=hX1.b b3_2
    replace hB:=bOn hB b3_2
    refine hK.out _ _ ?_ fun hHeld=>?_
    ·trivial
    clear hK K
    try simp only[Act.put,lay]
    refine rd1 5 rfl fun K hK=>?_
    obtain⟨u3_3,eu,hX3,b3_3⟩:=box1 u3_2 2 ((is (List.replicate n 0)).toArray)
    obtain⟨BV,en⟩:∃X,X=u3_2.heap.size:=⟨_,rfl⟩
    rw[←en] at hX3
    have lBV:w.heap.size≤BV:=by rw[en];exact hB.size
    have dBV_hr:g≠BV:=by have:=hr.lt;omega
    have dBV_hA:g+1≠BV:=by have:=hA.lt;omega
    have dBV_hP:g+1+1≠BV:=by have:=hP.lt;omega
    have dBV_h7:g+1+1+1≠BV:=by have:=h7.lt;omega
    have dBV_hR:g+1+1+1+1≠BV:=by have:=hR.lt;omega
    have dBV_hE:g+1+1+1+1+1≠BV:=by have:=hE.lt;omega
    have dBV_hX1:BW≠BV:=by have:=hX1.lt;omega
    have dBV_hX2:BM≠BV:=by have:=hX2.lt;omega
    have EUBV:=Lib.hid (And.intro eu en)
    clear eu en
    go_simp
    rw[←EUBV.out.1,←EUBV.out.2]
    replace hr:=hr.b b3_3
    replace hA:=hA.b b3_3
    replace hP:=hP.b b3_3
    replace h7:=h7.b b3_3
    replace hR:=hR.b b3_3
    replace hE:=hE.b b3_3
    replace hX1:=hX1.b b3_3
    replace hX2:=hX2.b b3_3
    replace hB:=bOn hB b3_3
    refine hK.out _ _ ?_ fun hHeld=>?_
    ·trivial
    clear hK K
    refine tkA 6 rfl ?_
    try simp only[Act.put,lay]
    refine rd1 7 rfl fun K hK=>?_
    obtain⟨u3_4,eu,hR',kz,kb,kB⟩:=fill4 hR (.slice (some ⟨BW,0,none⟩) n n) (.slice (some ⟨BM,0,none⟩) n n) (.slice (some ⟨BV,0,none⟩) n n) (.slice none 0 0) (by simp[noU])
    obtain⟨x0,x1,x2,x3⟩:=hR.q4
    have xf:=hR.frozen
    go_simp
    rw[←eu]
    replace hr:=kb _ _ _ hr (by omega)
    replace hA:=kb _ _ _ hA (by omega)
    replace hP:=kb _ _ _ hP (by omega)
    replace h7:=kb _ _ _ h7 (by omega)
    replace hE:=kb _ _ _ hE (by omega)
    replace hX1:=kb _ _ _ hX1 (by omega)
    replace hX2:=kb _ _ _ hX2 (by omega)
    replace hX3:=kb _ _ _ hX3 (by omega)
    replace hB:=kB _ _ (by omega) hB
    replace hR:=hR'
    clear hR' kz kb kB eu xf x0 x1 x2 x3
    refine hK.out _ _ ?_ fun hHeld=>?_
    ·trivial
    clear hK K
    try simp only[Act.put,lay]
    try dsimp only
    try simp only[Act.put,lay]
    refine wpAnyH_done (by kernel_rfl) ?_ _
    refine NoPanic.normal ?_
    go_wp2_with fail
    go_meet
    exact⟨BW,BM,BV,rfl,hr,hA,hP,h7,hR,hE,hX1,hX2,hX3,hB,lBW,lBM,lBV,(by assumption),(by assumption),(by assumption),(by assumption),(by assumption),(by assumption),(by assumption),(by assumption),(by assumption),(by assumption),(by assumption),(by assumption),(by assumption),(by assumption),(by assumption),(by assumption),(by assumption),(by assumption),(by first | assumption | exact Ne.symm (by assumption)),(by first | assumption | exact Ne.symm (by assumption)),(by first | assumption | exact Ne.symm (by assumption))⟩
   ·obtain⟨u3_5,eu,hX3,b3_5⟩:=box1 u3_1 2 ((is (List.replicate n 0)).toArray)
    obtain⟨BV,en⟩:∃X,X=u3_1.heap.size:=⟨_,rfl⟩
    rw[←en] at hX3
    have lBV:w.heap.size≤BV:=by rw[en];exact hB.size
    have dBV_hr:g≠BV:=by have:=hr.lt;omega
    have dBV_hA:g+1≠BV:=by have:=hA.lt;omega
    have dBV_hP:g+1+1≠BV:=by have:=hP.lt;omega
    have dBV_h7:g+1+1+1≠BV:=by have:=h7.lt;omega
    have dBV_hR:g+1+1+1+1≠BV:=by have:=hR.lt;omega
    have dBV_hE:g+1+1+1+1+1≠BV:=by have:=hE.lt;omega
    have dBV_hX1:BW≠BV:=by have:=hX1.lt;omega
    have EUBV:=Lib.hid (And.intro eu en)
    clear eu en
    go_simp
    rw[←EUBV.out.1,←EUBV.out.2]
    replace hr:=hr.b b3_5
    replace hA:=hA.b b3_5
    replace hP:=hP.b b3_5
    replace h7:=h7.b b3_5
    replace hR:=hR.b b3_5
    replace hE:=hE.b b3_5
    replace hX1:=hX1.b b3_5
    replace hB:=bOn hB b3_5
    refine hK.out _ _ ?_ fun hHeld=>?_
    ·trivial
    clear hK K
    try simp only[Act.put,lay]
    refine rd1 3 rfl fun K hK=>?_
    obtain⟨u3_6,eu,hX2,b3_6⟩:=box1 u3_5 2 ((is (List.replicate n 0)).toArray)
    obtain⟨BM,en⟩:∃X,X=u3_5.heap.size:=⟨_,rfl⟩
    rw[←en] at hX2
    have lBM:w.heap.size≤BM:=by rw[en];exact hB.size
    have dBM_hr:g≠BM:=by have:=hr.lt;omega
    have dBM_hA:g+1≠BM:=by have:=hA.lt;omega
    have dBM_hP:g+1+1≠BM:=by have:=hP.lt;omega
    have dBM_h7:g+1+1+1≠BM:=by have:=h7.lt;omega
    have dBM_hR:g+1+1+1+1≠BM:=by have:=hR.lt;omega
    have dBM_hE:g+1+1+1+1+1≠BM:=by have:=hE.lt;omega
    have dBM_hX1:BW≠BM:=by have:=hX1.lt;omega
    have dBM_hX3:BV≠BM:=by have:=hX3.lt;omega
    have EUBM:=Lib.hid (And.intro eu en)
    clear eu en
    go_simp
    rw[←EUBM.out.1,←EUBM.out.2]
    replace hr:=hr.b b3_6
    replace hA:=hA.b b3_6
    replace hP:=hP.b b3_6
    replace h7:=h7.b b3_6
    replace hR:=hR.b b3_6
    replace hE:=hE.b b3_6
    replace hX1:=hX1.b b3_6
    replace hX3:=hX3.b b3_6
    replace hB:=bOn hB b3_6
    refine hK.out _ _ ?_ fun hHeld=>?_
    ·trivial
    clear hK K
    refine tkA 6 rfl ?_
    try simp only[Act.put,lay]
    refine rd1 7 rfl fun K hK=>?_
    obtain⟨u3_7,eu,hR',kz,kb,kB⟩:=fill4 hR (.slice (some ⟨BW,0,none⟩) n n) (.slice (some ⟨BM,0,none⟩) n n) (.slice (some ⟨BV,0,none⟩) n n) (.slice none 0 0) (by simp[noU])
    obtain⟨x0,x1,x2,x3⟩:=hR.q4
    have xf:=hR.frozen
    go_simp
    rw[←eu]
    replace hr:=kb _ _ _ hr (by omega)
    replace hA:=kb _ _ _ hA (by omega)
    replace hP:=kb _ _ _ hP (by omega)
    replace h7:=kb _ _ _ h7 (by omega)
    replace hE:=kb _ _ _ hE (by omega)
    replace hX1:=kb _ _ _ hX1 (by omega)
    replace hX3:=kb _ _ _ hX3 (by omega)
    replace hX2:=kb _ _ _ hX2 (by omega)
    replace hB:=kB _ _ (by omega) hB
    replace hR:=hR'
    clear hR' kz kb kB eu xf x0 x1 x2 x3
    refine hK.out _ _ ?_ fun hHeld=>?_
    ·trivial
    clear hK K
    try simp only[Act.put,lay]
    try dsimp only
    try simp only[Act.put,lay]
    refine wpAnyH_done (by kernel_rfl) ?_ _
    refine NoPanic.normal ?_
    go_wp2_with fail
    go_meet
    exact⟨BW,BM,BV,rfl,hr,hA,hP,h7,hR,hE,hX1,hX2,hX3,hB,lBW,lBM,lBV,(by assumption),(by assumption),(by assumption),(by assumption),(by assumption),(by assumption),(by assumption),(by assumption),(by assumption),(by assumption),(by assumption),(by assumption),(by assumption),(by assumption),(by assumption),(by assumption),(by assumption),(by assumption),(by first | assumption | exact Ne.symm (by assumption)),(by first | assumption | exact Ne.symm (by assumption)),(by first | assumption | exact Ne.symm (by assumption))⟩
  ·obtain⟨u3_8,eu,hX2,b3_8⟩:=box1 wd3_1 2 ((is (List.replicate n 0)).toArray)
   obtain⟨BM,en⟩:∃X,X=wd3_1.heap.size:=⟨_,rfl⟩
   rw[←en] at hX2
   have lBM:w.heap.size≤BM:=by rw[en];exact hB.size
   have dBM_hr:g≠BM:=by have:=hr.lt;omega
   have dBM_hA:g+1≠BM:=by have:=hA.lt;omega
   have dBM_hP:g+1+1≠BM:=by have:=hP.lt;omega
   have dBM_h7:g+1+1+1≠BM:=by have:=h7.lt;omega
   have dBM_hR:g+1+1+1+1≠BM:=by have:=hR.lt;omega
   have dBM_hE:g+1+1+1+1+1≠BM:=by have:=hE.lt;omega
   have EUBM:=Lib.hid (And.intro eu en)
   clear eu en
   go_simp
   rw[←EUBM.out.1,←EUBM.out.2]
   replace hr:=hr.b b3_8
   replace hA:=hA.b b3_8
   replace hP:=hP.b b3_8
   replace h7:=h7.b b3_8
   replace hR:=hR.b b3_8
   replace hE:=hE.b b3_8
   replace hB:=bOn hB b3_8
   refine hK.out _ _ ?_ fun hHeld=>?_
   ·trivial
   clear hK K
   try simp only[Act.put,lay]
   refine rd2 1 5 rfl rfl (fun K hK=>?_) fun K hK=>?_
   ·obtain⟨u3_9,eu,hX1,b3_9⟩:=box1 u3_8 2 ((is (List.replicate n 0)).toArray)
    obtain⟨BW,en⟩:∃X,X=u3_8.heap.size:=⟨_,rfl⟩
    rw[←en] at hX1
    have lBW:w.heap.size≤BW:=by rw[en];exact hB.size
    have dBW_hr:g≠BW:=by have:=hr.lt;omega
    have dBW_hA:g+1≠BW:=by have:=hA.lt;omega
    have dBW_hP:g+1+1≠BW:=by have:=hP.lt;omega
    have dBW_h7:g+1+1+1≠BW:=by have:=h7.lt;omega
    have dBW_hR:g+1+1+1+1≠BW:=by have:=hR.lt;omega
    have dBW_hE:g+1+1+1+1+1≠BW:=by have:=hE.lt;omega
    have dBW_hX2:BM≠BW:=by have:=hX2.lt;omega
    have EUBW:=Lib.hid (And.intro eu en)
    clear eu en
    go_simp
    rw[←EUBW.out.1,←EUBW.out.2]
    replace hr:=hr.b b3_9
    replace hA:=hA.b b3_9
    replace hP:=hP.b b3_9
    replace h7:=h7.b b3_9
    replace hR:=hR.b b3_9
    replace hE:=hE.b b3_9
    replace hX2:=hX2.b b3_9
    replace hB:=bOn hB b3_9
    refine hK.out _ _ ?_ fun hHeld=>?_
    ·trivial
    clear hK K
    try simp only[Act.put,lay]
    refine rd1 5 rfl fun K hK=>?_
    obtain⟨u3_10,eu,hX3,b3_10⟩:=box1 u3_9 2 ((is (List.replicate n 0)).toArray)
    obtain⟨BV,en⟩:∃X,X=u3_9.heap.size:=⟨_,rfl⟩
    rw[←en] at hX3
    have lBV:w.heap.size≤BV:=by rw[en];exact hB.size
    have dBV_hr:g≠BV:=by have:=hr.lt;omega
    have dBV_hA:g+1≠BV:=by have:=hA.lt;omega
    have dBV_hP:g+1+1≠BV:=by have:=hP.lt;omega
    have dBV_h7:g+1+1+1≠BV:=by have:=h7.lt;omega
    have dBV_hR:g+1+1+1+1≠BV:=by have:=hR.lt;omega
    have dBV_hE:g+1+1+1+1+1≠BV:=by have:=hE.lt;omega
    have dBV_hX2:BM≠BV:=by have:=hX2.lt;omega
    have dBV_hX1:BW≠BV:=by have:=hX1.lt;omega
    have EUBV:=Lib.hid (And.intro eu en)
    clear eu en
    go_simp
    rw[←EUBV.out.1,←EUBV.out.2]
    replace hr:=hr.b b3_10
    replace hA:=hA.b b3_10
    replace hP:=hP.b b3_10
    replace h7:=h7.b b3_10
    replace hR:=hR.b b3_10
    replace hE:=hE.b b3_10
    replace hX2:=hX2.b b3_10
    replace hX1:=hX1.b b3_10
    replace hB:=bOn hB b3_10
    refine hK.out _ _ ?_ fun hHeld=>?_
    ·trivial
    clear hK K
    refine tkA 6 rfl ?_
    try simp only[Act.put,lay]
    refine rd1 7 rfl fun K hK=>?_
    obtain⟨u3_11,eu,hR',kz,kb,kB⟩:=fill4 hR (.slice (some ⟨BW,0,none⟩) n n) (.slice (some ⟨BM,0,none⟩) n n) (.slice (some ⟨BV,0,none⟩) n n) (.slice none 0 0) (by simp[noU])
    obtain⟨x0,x1,x2,x3⟩:=hR.q4
    have xf:=hR.frozen
    go_simp
    rw[←eu]
    replace hr:=kb _ _ _ hr (by omega)
    replace hA:=kb _ _ _ hA (by omega)
    replace hP:=kb _ _ _ hP (by omega)
    replace h7:=kb _ _ _ h7 (by omega)
    replace hE:=kb _ _ _ hE (by omega)
    replace hX2:=kb _ _ _ hX2 (by omega)
    replace hX1:=kb _ _ _ hX1 (by omega)
    replace hX3:=kb _ _ _ hX3 (by omega)
    replace hB:=kB _ _ (by omega) hB
    replace hR:=hR'
    clear hR' kz kb kB eu xf x0 x1 x2 x3
    refine hK.out _ _ ?_ fun hHeld=>?_
    ·trivial
    clear hK K
    try simp only[Act.put,lay]
    try dsimp only
    try simp only[Act.put,lay]
    refine wpAnyH_done (by kernel_rfl) ?_ _
    refine NoPanic.normal ?_
    go_wp2_with fail
    go_meet
    exact⟨BW,BM,BV,rfl,hr,hA,hP,h7,hR,hE,hX1,hX2,hX3,hB,lBW,lBM,lBV,(by assumption),(by assumption),(by assumption),(by assumption),(by assumption),(by assumption),(by assumption),(by assumption),(by assumption),(by assumption),(by assumption),(by assumption),(by assumption),(by assumption),(by assumption),(by assumption),(by assumption),(by assumption),(by first | assumption | exact Ne.symm (by assumption)),(by first | assumption | exact Ne.symm (by assumption)),(by first | assumption | exact Ne.symm (by assumption))⟩
   ·obtain⟨u3_12,eu,hX3,b3_12⟩:=box1 u3_8 2 ((is (List.replicate n 0)).toArray)
    obtain⟨BV,en⟩:∃X,X=u3_8.heap.size:=⟨_,rfl⟩
    rw[←en] at hX3
    have lBV:w.heap.size≤BV:=by rw[en];exact hB.size
    have dBV_hr:g≠BV:=by have:=hr.lt;omega
    have dBV_hA:g+1≠BV:=by have:=hA.lt;omega
    have dBV_hP:g+1+1≠BV:=by have:=hP.lt;omega
    have dBV_h7:g+1+1+1≠BV:=by have:=h7.lt;omega
    have dBV_hR:g+1+1+1+1≠BV:=by have:=hR.lt;omega
    have dBV_hE:g+1+1+1+1+1≠BV:=by have:=hE.lt;omega
    have dBV_hX2:BM≠BV:=by have:=hX2.lt;omega
    have EUBV:=Lib.hid (And.intro eu en)
    clear eu en
    go_simp
    rw[←EUBV.out.1,←EUBV.out.2]
    replace hr:=hr.b b3_12
    replace hA:=hA.b b3_12
    replace hP:=hP.b b3_12
    replace h7:=h7.b b3_12
    replace hR:=hR.b b3_12
    replace hE:=hE.b b3_12
    replace hX2:=hX2.b b3_12
    replace hB:=bOn hB b3_12
    refine hK.out _ _ ?_ fun hHeld=>?_
    ·trivial
    clear hK K
    try simp only[Act.put,lay]
    refine rd1 1 rfl fun K hK=>?_
    obtain⟨u3_13,eu,hX1,b3_13⟩:=box1 u3_12 2 ((is (List.replicate n 0)).toArray)
    obtain⟨BW,en⟩:∃X,X=u3_12.heap.size:=⟨_,rfl⟩
    rw[←en] at hX1
    have lBW:w.heap.size≤BW:=by rw[en];exact hB.size
    have dBW_hr:g≠BW:=by have:=hr.lt;omega
    have dBW_hA:g+1≠BW:=by have:=hA.lt;omega
    have dBW_hP:g+1+1≠BW:=by have:=hP.lt;omega
    have dBW_h7:g+1+1+1≠BW:=by have:=h7.lt;omega
    have dBW_hR:g+1+1+1+1≠BW:=by have:=hR.lt;omega
    have dBW_hE:g+1+1+1+1+1≠BW:=by have:=hE.lt;omega
    have dBW_hX2:BM≠BW:=by have:=hX2.lt;omega
    have dBW_hX3:BV≠BW:=by have:=hX3.lt;omega
    have EUBW:=Lib.hid (And.intro eu en)
    clear eu en
    go_simp
    rw[←EUBW.out.1,←EUBW.out.2]
    replace hr:=hr.b b3_13
    replace hA:=hA.b b3_13
    replace hP:=hP.b b3_13
    replace h7:=h7.b b3_13
    replace hR:=hR.b b3_13
    replace hE:=hE.b b3_13
    replace hX2:=hX2.b b3_13
    replace hX3:=hX3.b b3_13
    replace hB:=bOn hB b3_13
    refine hK.out _ _ ?_ fun hHeld=>?_
    ·trivial
    clear hK K
    refine tkA 6 rfl ?_
    try simp only[Act.put,lay]
    refine rd1 7 rfl fun K hK=>?_
    obtain⟨u3_14,eu,hR',kz,kb,kB⟩:=fill4 hR (.slice (some ⟨BW,0,none⟩) n n) (.slice (some ⟨BM,0,none⟩) n n) (.slice (some ⟨BV,0,none⟩) n n) (.slice none 0 0) (by simp[noU])
    obtain⟨x0,x1,x2,x3⟩:=hR.q4
    have xf:=hR.frozen
    go_simp
    rw[←eu]
    replace hr:=kb _ _ _ hr (by omega)
    replace hA:=kb _ _ _ hA (by omega)
    replace hP:=kb _ _ _ hP (by omega)
    replace h7:=kb _ _ _ h7 (by omega)
    replace hE:=kb _ _ _ hE (by omega)
    replace hX2:=kb _ _ _ hX2 (by omega)
    replace hX3:=kb _ _ _ hX3 (by omega)
    replace hX1:=kb _ _ _ hX1 (by omega)
    replace hB:=kB _ _ (by omega) hB
    replace hR:=hR'
    clear hR' kz kb kB eu xf x0 x1 x2 x3
    refine hK.out _ _ ?_ fun hHeld=>?_
    ·trivial
    clear hK K
    try simp only[Act.put,lay]
    try dsimp only
    try simp only[Act.put,lay]
    refine wpAnyH_done (by kernel_rfl) ?_ _
    refine NoPanic.normal ?_
    go_wp2_with fail
    go_meet
    exact⟨BW,BM,BV,rfl,hr,hA,hP,h7,hR,hE,hX1,hX2,hX3,hB,lBW,lBM,lBV,(by assumption),(by assumption),(by assumption),(by assumption),(by assumption),(by assumption),(by assumption),(by assumption),(by assumption),(by assumption),(by assumption),(by assumption),(by assumption),(by assumption),(by assumption),(by assumption),(by assumption),(by assumption),(by first | assumption | exact Ne.symm (by assumption)),(by first | assumption | exact Ne.symm (by assumption)),(by first | assumption | exact Ne.symm (by assumption))⟩
  ·obtain⟨u3_15,eu,hX3,b3_15⟩:=box1 wd3_1 2 ((is (List.replicate n 0)).toArray)
   obtain⟨BV,en⟩:∃X,X=wd3_1.heap.size:=⟨_,rfl⟩
   rw[←en] at hX3
   have lBV:w.heap.size≤BV:=by rw[en];exact hB.size
   have dBV_hr:g≠BV:=by have:=hr.lt;omega
   have dBV_hA:g+1≠BV:=by have:=hA.lt;omega
   have dBV_hP:g+1+1≠BV:=by have:=hP.lt;omega
   have dBV_h7:g+1+1+1≠BV:=by have:=h7.lt;omega
   have dBV_hR:g+1+1+1+1≠BV:=by have:=hR.lt;omega
   have dBV_hE:g+1+1+1+1+1≠BV:=by have:=hE.lt;omega
   have EUBV:=Lib.hid (And.intro eu en)
   clear eu en
   go_simp
   rw[←EUBV.out.1,←EUBV.out.2]
   replace hr:=hr.b b3_15
   replace hA:=hA.b b3_15
   replace hP:=hP.b b3_15
   replace h7:=h7.b b3_15
   replace hR:=hR.b b3_15
   replace hE:=hE.b b3_15
   replace hB:=bOn hB b3_15
   refine hK.out _ _ ?_ fun hHeld=>?_
   ·trivial
   clear hK K
   try simp only[Act.put,lay]
   refine rd2 1 3 rfl rfl (fun K hK=>?_) fun K hK=>?_
   ·obtain⟨u3_16,eu,hX1,b3_16⟩:=box1 u3_15 2 ((is (List.replicate n 0)).toArray)
    obtain⟨BW,en⟩:∃X,X=u3_15.heap.size:=⟨_,rfl⟩
    rw[←en] at hX1
    have lBW:w.heap.size≤BW:=by rw[en];exact hB.size
    have dBW_hr:g≠BW:=by have:=hr.lt;omega
    have dBW_hA:g+1≠BW:=by have:=hA.lt;omega
    have dBW_hP:g+1+1≠BW:=by have:=hP.lt;omega
    have dBW_h7:g+1+1+1≠BW:=by have:=h7.lt;omega
    have dBW_hR:g+1+1+1+1≠BW:=by have:=hR.lt;omega
    have dBW_hE:g+1+1+1+1+1≠BW:=by have:=hE.lt;omega
    have dBW_hX3:BV≠BW:=by have:=hX3.lt;omega
    have EUBW:=Lib.hid (And.intro eu en)
    clear eu en
    go_simp
    rw[←EUBW.out.1,←EUBW.out.2]
    replace hr:=hr.b b3_16
    replace hA:=hA.b b3_16
    replace hP:=hP.b b3_16
    replace h7:=h7.b b3_16
    replace hR:=hR.b b3_16
    replace hE:=hE.b b3_16
    replace hX3:=hX3.b b3_16
    replace hB:=bOn hB b3_16
    refine hK.out _ _ ?_ fun hHeld=>?_
    ·trivial
    clear hK K
    try simp only[Act.put,lay]
    refine rd1 3 rfl fun K hK=>?_
    obtain⟨u3_17,eu,hX2,b3_17⟩:=box1 u3_16 2 ((is (List.replicate n 0)).toArray)
    obtain⟨BM,en⟩:∃X,X=u3_16.heap.size:=⟨_,rfl⟩
    rw[←en] at hX2
    have lBM:w.heap.size≤BM:=by rw[en];exact hB.size
    have dBM_hr:g≠BM:=by have:=hr.lt;omega
    have dBM_hA:g+1≠BM:=by have:=hA.lt;omega
    have dBM_hP:g+1+1≠BM:=by have:=hP.lt;omega
    have dBM_h7:g+1+1+1≠BM:=by have:=h7.lt;omega
    have dBM_hR:g+1+1+1+1≠BM:=by have:=hR.lt;omega
    have dBM_hE:g+1+1+1+1+1≠BM:=by have:=hE.lt;omega
    have dBM_hX3:BV≠BM:=by have:=hX3.lt;omega
    have dBM_hX1:BW≠BM:=by have:=hX1.lt;omega
    have EUBM:=Lib.hid (And.intro eu en)
    clear eu en
    go_simp
    rw[←EUBM.out.1,←EUBM.out.2]
    replace hr:=hr.b b3_17
    replace hA:=hA.b b3_17
    replace hP:=hP.b b3_17
    replace h7:=h7.b b3_17
    replace hR:=hR.b b3_17
    replace hE:=hE.b b3_17
    replace hX3:=hX3.b b3_17
    replace hX1:=hX1.b b3_17
    replace hB:=bOn hB b3_17
    refine hK.out _ _ ?_ fun hHeld=>?_
    ·trivial
    clear hK K
    refine tkA 6 rfl ?_
    try simp only[Act.put,lay]
    refine rd1 7 rfl fun K hK=>?_
    obtain⟨u3_18,eu,hR',kz,kb,kB⟩:=fill4 hR (.slice (some ⟨BW,0,none⟩) n n) (.slice (some ⟨BM,0,none⟩) n n) (.slice (some ⟨BV,0,none⟩) n n) (.slice none 0 0) (by simp[noU])
    obtain⟨x0,x1,x2,x3⟩:=hR.q4
    have xf:=hR.frozen
    go_simp
    rw[←eu]
    replace hr:=kb _ _ _ hr (by omega)
    replace hA:=kb _ _ _ hA (by omega)
    replace hP:=kb _ _ _ hP (by omega)
    replace h7:=kb _ _ _ h7 (by omega)
    replace hE:=kb _ _ _ hE (by omega)
    replace hX3:=kb _ _ _ hX3 (by omega)
    replace hX1:=kb _ _ _ hX1 (by omega)
    replace hX2:=kb _ _ _ hX2 (by omega)
    replace hB:=kB _ _ (by omega) hB
    replace hR:=hR'
    clear hR' kz kb kB eu xf x0 x1 x2 x3
    refine hK.out _ _ ?_ fun hHeld=>?_
    ·trivial
    clear hK K
    try simp only[Act.put,lay]
    try dsimp only
    try simp only[Act.put,lay]
    refine wpAnyH_done (by kernel_rfl) ?_ _
    refine NoPanic.normal ?_
    go_wp2_with fail
    go_meet
    exact⟨BW,BM,BV,rfl,hr,hA,hP,h7,hR,hE,hX1,hX2,hX3,hB,lBW,lBM,lBV,(by assumption),(by assumption),(by assumption),(by assumption),(by assumption),(by assumption),(by assumption),(by assumption),(by assumption),(by assumption),(by assumption),(by assumption),(by assumption),(by assumption),(by assumption),(by assumption),(by assumption),(by assumption),(by first | assumption | exact Ne.symm (by assumption)),(by first | assumption | exact Ne.symm (by assumption)),(by first | assumption | exact Ne.symm (by assumption))⟩
   ·obtain⟨u3_19,eu,hX2,b3_19⟩:=box1 u3_15 2 ((is (List.replicate n 0)).toArray)
    obtain⟨BM,en⟩:∃X,X=u3_15.heap.size:=⟨_,rfl⟩
    rw[←en] at hX2
    have lBM:w.heap.size≤BM:=by rw[en];exact hB.size
    have dBM_hr:g≠BM:=by have:=hr.lt;omega
    have dBM_hA:g+1≠BM:=by have:=hA.lt;omega
    have dBM_hP:g+1+1≠BM:=by have:=hP.lt;omega
    have dBM_h7:g+1+1+1≠BM:=by have:=h7.lt;omega
    have dBM_hR:g+1+1+1+1≠BM:=by have:=hR.lt;omega
    have dBM_hE:g+1+1+1+1+1≠BM:=by have:=hE.lt;omega
    have dBM_hX3:BV≠BM:=by have:=hX3.lt;omega
    have EUBM:=Lib.hid (And.intro eu en)
    clear eu en
    go_simp
    rw[←EUBM.out.1,←EUBM.out.2]
    replace hr:=hr.b b3_19
    replace hA:=hA.b b3_19
    replace hP:=hP.b b3_19
    replace h7:=h7.b b3_19
    replace hR:=hR.b b3_19
    replace hE:=hE.b b3_19
    replace hX3:=hX3.b b3_19
    replace hB:=bOn hB b3_19
    refine hK.out _ _ ?_ fun hHeld=>?_
    ·trivial
    clear hK K
    try simp only[Act.put,lay]
    refine rd1 1 rfl fun K hK=>?_
    obtain⟨u3_20,eu,hX1,b3_20⟩:=box1 u3_19 2 ((is (List.replicate n 0)).toArray)
    obtain⟨BW,en⟩:∃X,X=u3_19.heap.size:=⟨_,rfl⟩
    rw[←en] at hX1
    have lBW:w.heap.size≤BW:=by rw[en];exact hB.size
    have dBW_hr:g≠BW:=by have:=hr.lt;omega
    have dBW_hA:g+1≠BW:=by have:=hA.lt;omega
    have dBW_hP:g+1+1≠BW:=by have:=hP.lt;omega
    have dBW_h7:g+1+1+1≠BW:=by have:=h7.lt;omega
    have dBW_hR:g+1+1+1+1≠BW:=by have:=hR.lt;omega
    have dBW_hE:g+1+1+1+1+1≠BW:=by have:=hE.lt;omega
    have dBW_hX3:BV≠BW:=by have:=hX3.lt;omega
    have dBW_hX2:BM≠BW:=by have:=hX2.lt;omega
    have EUBW:=Lib.hid (And.intro eu en)
    clear eu en
    go_simp
    rw[←EUBW.out.1,←EUBW.out.2]
    replace hr:=hr.b b3_20
    replace hA:=hA.b b3_20
    replace hP:=hP.b b3_20
    replace h7:=h7.b b3_20
    replace hR:=hR.b b3_20
    replace hE:=hE.b b3_20
    replace hX3:=hX3.b b3_20
    replace hX2:=hX2.b b3_20
    replace hB:=bOn hB b3_20
    refine hK.out _ _ ?_ fun hHeld=>?_
    ·trivial
    clear hK K
    refine tkA 6 rfl ?_
    try simp only[Act.put,lay]
    refine rd1 7 rfl fun K hK=>?_
    obtain⟨u3_21,eu,hR',kz,kb,kB⟩:=fill4 hR (.slice (some ⟨BW,0,none⟩) n n) (.slice (some ⟨BM,0,none⟩) n n) (.slice (some ⟨BV,0,none⟩) n n) (.slice none 0 0) (by simp[noU])
    obtain⟨x0,x1,x2,x3⟩:=hR.q4
    have xf:=hR.frozen
    go_simp
    rw[←eu]
    replace hr:=kb _ _ _ hr (by omega)
    replace hA:=kb _ _ _ hA (by omega)
    replace hP:=kb _ _ _ hP (by omega)
    replace h7:=kb _ _ _ h7 (by omega)
    replace hE:=kb _ _ _ hE (by omega)
    replace hX3:=kb _ _ _ hX3 (by omega)
    replace hX2:=kb _ _ _ hX2 (by omega)
    replace hX1:=kb _ _ _ hX1 (by omega)
    replace hB:=kB _ _ (by omega) hB
    replace hR:=hR'
    clear hR' kz kb kB eu xf x0 x1 x2 x3
    refine hK.out _ _ ?_ fun hHeld=>?_
    ·trivial
    clear hK K
    try simp only[Act.put,lay]
    try dsimp only
    try simp only[Act.put,lay]
    refine wpAnyH_done (by kernel_rfl) ?_ _
    refine NoPanic.normal ?_
    go_wp2_with fail
    go_meet
    exact⟨BW,BM,BV,rfl,hr,hA,hP,h7,hR,hE,hX1,hX2,hX3,hB,lBW,lBM,lBV,(by assumption),(by assumption),(by assumption),(by assumption),(by assumption),(by assumption),(by assumption),(by assumption),(by assumption),(by assumption),(by assumption),(by assumption),(by assumption),(by assumption),(by assumption),(by assumption),(by assumption),(by assumption),(by first | assumption | exact Ne.symm (by assumption)),(by first | assumption | exact Ne.symm (by assumption)),(by first | assumption | exact Ne.symm (by assumption))⟩
 obtain⟨BW,BM,BV,rfl,hr,hA,hP,h7,hR,hE,hX1,hX2,hX3,hB,lBW,lBM,lBV,dBW_hr,dBW_hA,dBW_hP,dBW_h7,dBW_hR,dBW_hE,dBM_hr,dBM_hA,dBM_hP,dBM_h7,dBM_hR,dBM_hE,dBV_hr,dBV_hA,dBV_hP,dBV_h7,dBV_hR,dBV_hE,nBW_BM,nBW_BV,nBM_BV⟩:=hcut
 have c18:=hr.q1
 obtain⟨c19,c20,c21,c22,c23,c24⟩:=hA.q6
 obtain⟨c25,c26⟩:=hP.q2
 obtain⟨c27,c28,c29,c30⟩:=h7.q4
 obtain⟨c31,c32,c33,c34⟩:=hR.q4
 have c35:=hE.q1
 go_wp2_with fail
 go_loopw [24] (fun iV wr=>∃k:Nat,k≤n∧iV= .int .i64 k∧Hid (∀i,i<k→pl i≠none)∧Blk wr g 148 #[.int .i64 f]∧Blk wr (g+1) 61 #[.int .i64 lr,.int .i64 b1,.int .i64 b2,.int .i64 eps,.int .i64 wd,.bool apart]∧Blk wr (g+1+1) 34 #[.int .i64 p0,.int .i64 p1]∧Blk wr (g+1+1+1) 64 #[.slice AW n cW,.slice AM n cM,.slice AV n cV,.slice AG n cG]∧Blk wr (g+1+1+1+1) 64 #[.slice (some ⟨BW,0,none⟩) n n,.slice (some ⟨BM,0,none⟩) n n,.slice (some ⟨BV,0,none⟩) n n,.slice none 0 0]∧Blk wr (g+1+1+1+1+1) 42 #[.int .i64 0]∧IArr wr BW (outTo (pW pl) k n)∧IArr wr BM (outTo (pM pl) k n)∧IArr wr BV (outTo (pV pl) k n)∧Below w.heap.size w wr) (fun iV _=>n - (intOf iV).toNat)
 case atStart=>exact⟨0,by omega,rfl,Lib.hid (fun i hi=>absurd hi (by omega)),hr,hA,hP,h7,hR,hE,by rw[outTo_zero];exact hX1,by rw[outTo_zero];exact hX2,by rw[outTo_zero];exact hX3,hB⟩
 case round=>
  clear hr hA hP h7 hR hE hX1 hX2 hX3 hB
  obtain⟨k,hk,rfl,hpl,hr,hA,hP,h7,hR,hE,hX1,hX2,hX3,hB⟩:=hrel
  by_cases hlt:k<n
  ·obtain⟨adW,rfl,xW,cWk⟩:=is_cell hRW hlt
   obtain⟨adM,rfl,xM,cMk⟩:=is_cell hRM hlt
   obtain⟨adV,rfl,xV,cVk⟩:=is_cell hRV hlt
   obtain⟨adG,rfl,xG,cGk⟩:=is_cell hRG hlt
   have yW:(adW.add k).block<w.heap.size:=by rw[block_of_add];exact xW
   have yM:(adM.add k).block<w.heap.size:=by rw[block_of_add];exact xM
   have yV:(adV.add k).block<w.heap.size:=by rw[block_of_add];exact xV
   have yG:(adG.add k).block<w.heap.size:=by rw[block_of_add];exact xG
   have cw:=(hB.cell yW).trans cWk
   have cm:=(hB.cell yM).trans cMk
   have cv:=(hB.cell yV).trans cVk
   have cg:=(hB.cell yG).trans cGk
   have hPk:=fun w=>hPl k hlt w
   have i0:(0:Int)≤(k:Int):=by omega
   have i1:(k:Int)<(n:Int):=by omega
   generalize iat Ws k=ew at *
   generalize iat Ms k=em at *
   generalize iat Vs k=ev at *
   generalize iat Gs k=eg at *
   have hl1:=Lib.hid (outTo_len (pW pl) k n)
   have hl2:=Lib.hid (outTo_len (pM pl) k n)
   have hl3:=Lib.hid (outTo_len (pV pl) k n)
   have c36:=hr.q1
   obtain⟨c37,c38,c39,c40,c41,c42⟩:=hA.q6
   obtain⟨c43,c44⟩:=hP.q2
   obtain⟨c45,c46,c47,c48⟩:=h7.q4
   obtain⟨c49,c50,c51,c52⟩:=hR.q4
   have c53:=hE.q1
   go_upto_region 7 with fail
   refine wp_keepQ (fun c w'=>∃nn:Int,nn≠0∧c=[{ v:= .iface 196 (.int .i64 nn),recovered:=false }]∧pl k=none∧Blk w' (g+1+1+1+1) 64 #[.slice (some ⟨BW,0,none⟩) n n,.slice (some ⟨BM,0,none⟩) n n,.slice (some ⟨BV,0,none⟩) n n,.slice none 0 0]∧Blk w' (g+1+1+1+1+1) 42 #[.int .i64 0]∧Below w.heap.size w w') 8 9 (.pointer (some ⟨g+1+1+1+1,0,none⟩)) (.pointer (some ⟨g+1+1+1+1+1,0,none⟩)) [{ target:= .fn (.func 173) #[.pointer (some ⟨g+1+1+1+1,0,none⟩),.pointer (some ⟨g+1+1+1+1+1,0,none⟩)],args:= #[] }] ?_ ?_
   ·rintro ch a' w' ⟨nn,hn,rfl,hz,hRx,hEx,hBx⟩ t8 t9 hd
    refine (show Leaves Tryz.prog Tryz.f112 a'.tmps _ a'.defers (.panicking _) w' from ?_)
    rw[hd]
    refine leaves_cons (f:=173) (args:= #[.pointer (some ⟨g+1+1+1+1,0,none⟩),.pointer (some ⟨g+1+1+1+1+1,0,none⟩)]) (by simp) (by simp[go_sem]) ?_
    refine (acatch_pan (g+1+1+1+1) (g+1+1+1+1+1) nn hn _ _ _ _ w' hRx hEx (by omega) (by simp[noU])).mono ?_
    rintro e u' w2 ⟨rfl,rfl,hR2,hE2,hB2⟩
    have k0:World.cell? w2 ⟨g+1+1+1+1,0,none⟩=some (.slice none 0 0):=hR2.cell 0
    have k1:World.cell? w2 ⟨g+1+1+1+1,1,none⟩=some (.slice none 0 0):=hR2.cell 1
    have k2:World.cell? w2 ⟨g+1+1+1+1,2,none⟩=some (.slice none 0 0):=hR2.cell 2
    have k3:World.cell? w2 ⟨g+1+1+1+1,3,none⟩=some (.slice none 0 0):=hR2.cell 3
    have k4:World.cell? w2 ⟨g+1+1+1+1+1,0,none⟩=some (.int .i64 2):=hE2.cell 0
    refine ⟨.tuple #[.agg #[.slice none 0 0,.slice none 0 0,.slice none 0 0,.slice none 0 0],.int .i64 2],?_,.inr ⟨⟨k,hlt,hz⟩,rfl⟩,hB2 _ _ (by omega) (by omega) hBx⟩
    simp[results,Tryz.results112,go_sem,Array.getD_eq_getD_getElem?,t8,t9,k0,k1,k2,k3,k4]
   replace hB:=hB.drew
   replace hr:=hr.drew
   replace hA:=hA.drew
   replace hP:=hP.drew
   replace h7:=h7.drew
   replace hR:=hR.drew
   replace hE:=hE.drew
   replace hX1:=hX1.drew
   replace hX2:=hX2.drew
   replace hX3:=hX3.drew
   replace cw:=cellAU (bdrew _) cw
   replace cm:=cellAU (bdrew _) cm
   replace cv:=cellAU (bdrew _) cv
   replace cg:=cellAU (bdrew _) cg
   clear c36 c37 c38 c39 c40 c41 c42 c43 c44 c45 c46 c47 c48 c49 c50 c51 c52 c53
   refine wp_region_held_drew (S:=fun w'=>w'.cell? ⟨g,0,none⟩=some (.int .i64 f)∧w'.cell? ⟨g+1,0,none⟩=some (.int .i64 lr)∧w'.cell? ⟨g+1,1,none⟩=some (.int .i64 b1)∧w'.cell? ⟨g+1,2,none⟩=some (.int .i64 b2)∧w'.cell? ⟨g+1,3,none⟩=some (.int .i64 eps)∧w'.cell? ⟨g+1,4,none⟩=some (.int .i64 wd)∧w'.cell? ⟨g+1,5,none⟩=some (.bool apart)∧w'.cell? ⟨g+1+1,0,none⟩=some (.int .i64 p0)∧w'.cell? ⟨g+1+1,1,none⟩=some (.int .i64 p1)∧w'.cell? ⟨g+1+1+1,0,none⟩=some (.slice (some adW) n cW)∧w'.cell? ⟨g+1+1+1,1,none⟩=some (.slice (some adM) n cM)∧w'.cell? ⟨g+1+1+1,2,none⟩=some (.slice (some adV) n cV)∧w'.cell? ⟨g+1+1+1,3,none⟩=some (.slice (some adG) n cG)∧w'.cell? ⟨g+1+1+1+1,0,none⟩=some (.slice (some ⟨BW,0,none⟩) n n)∧w'.cell? ⟨g+1+1+1+1,1,none⟩=some (.slice (some ⟨BM,0,none⟩) n n)∧w'.cell? ⟨g+1+1+1+1,2,none⟩=some (.slice (some ⟨BV,0,none⟩) n n)∧w'.cell? ⟨g+1+1+1+1,3,none⟩=some (.slice none 0 0)∧w'.cell? (adW.add k)=some (.int .i64 ew)∧w'.cell? (adM.add k)=some (.int .i64 em)∧w'.cell? (adV.add k)=some (.int .i64 ev)∧w'.cell? (adG.add k)=some (.int .i64 eg)) (by kernel_rfl) ?_ (fun hHeld=>?_)
   ·exact⟨hr.cell 0,hA.cell 0,hA.cell 1,hA.cell 2,hA.cell 3,hA.cell 4,hA.cell 5,hP.cell 0,hP.cell 1,h7.cell 0,h7.cell 1,h7.cell 2,h7.cell 3,hR.cell 0,hR.cell 1,hR.cell 2,hR.cell 3,cw,cm,cv,cg⟩
   obtain⟨wd7_2,hwd⟩:∃q,q=wr.drew:=⟨_,rfl⟩
   rw[←hwd] at hB hr hA hP h7 hR hE hX1 hX2 hX3 cw cm cv cg hHeld ⊢
   clear hwd
   refine tkK 0 rfl (v:=?v10) ?h10 ?r10
   case h10=>intro w s;(try dsimp only at s);go_simp;try (with_reducible rfl)
   refine tkK 1 rfl (v:=?v11) ?h11 ?r11
   case h11=>intro w s;(try dsimp only at s);go_simp;try (with_reducible rfl)
   refine tkK 2 rfl (v:=?v12) ?h12 ?r12
   case h12=>intro w s;(try dsimp only at s);go_simp;try (with_reducible rfl)
   refine tkK 3 rfl (v:=?v13) ?h13 ?r13
   case h13=>intro w s;(try dsimp only at s);go_simp;try (with_reducible rfl)
   refine tkK 4 rfl (v:=?v14) ?h14 ?r14
   case h14=>intro w s;(try dsimp only at s);go_simp;try (with_reducible rfl)
   refine tkK 5 rfl (v:=?v15) ?h15 ?r15
   case h15=>intro w s;(try dsimp only at s);go_simp;try (with_reducible rfl)
   refine tkK 6 rfl (v:=?v16) ?h16 ?r16
   case h16=>intro w s;(try dsimp only at s);go_simp;try (with_reducible rfl)
   refine tkK 7 rfl (v:=?v17) ?h17 ?r17
   case h17=>intro w s;(try dsimp only at s);go_simp;try (with_reducible rfl)
   refine tkK 8 rfl (v:=?v18) ?h18 ?r18
   case h18=>intro w s;(try dsimp only at s);go_simp;try (with_reducible rfl)
   refine tkK 9 rfl (v:=?v19) ?h19 ?r19
   case h19=>intro w s;(try dsimp only at s);go_simp;try (with_reducible rfl)
   refine tkK 10 rfl (v:=?v20) ?h20 ?r20
   case h20=>intro w s;(try dsimp only at s);go_simp;try (with_reducible rfl)
   refine tkK 11 rfl (v:=?v21) ?h21 ?r21
   case h21=>intro w s;(try dsimp only at s);go_simp;try (with_reducible rfl)
   refine tkK 12 rfl (v:=?v22) ?h22 ?r22
   case h22=>intro w s;(try dsimp only at s);go_simp;try (with_reducible rfl)
   refine tkK 13 rfl (v:=?v23) ?h23 ?r23
   case h23=>intro w s;(try dsimp only at s);go_simp;try (with_reducible rfl)
   refine tkK 14 rfl (v:=?v24) ?h24 ?r24
   case h24=>intro w s;(try dsimp only at s);go_simp;try (with_reducible rfl)
   refine tkK 15 rfl (v:=?v25) ?h25 ?r25
   case h25=>intro w s;(try dsimp only at s);go_simp;try (with_reducible rfl)
   refine tkK 16 rfl (v:=?v26) ?h26 ?r26
   case h26=>intro w s;(try dsimp only at s);go_simp;try (with_reducible rfl)
   refine tkK 17 rfl (v:=?v27) ?h27 ?r27
   case h27=>intro w s;(try dsimp only at s);go_simp;try (with_reducible rfl)
   refine tkK 18 rfl (v:=?v28) ?h28 ?r28
   case h28=>intro w s;(try dsimp only at s);go_simp;try (with_reducible rfl)
   refine tkK 19 rfl (v:=?v29) ?h29 ?r29
   case h29=>intro w s;(try dsimp only at s);go_simp;try (with_reducible rfl)
   refine tkK 20 rfl (v:=?v30) ?h30 ?r30
   case h30=>intro w s;(try dsimp only at s);go_simp;try (with_reducible rfl)
   refine tkK 21 rfl (v:=?v31) ?h31 ?r31
   case h31=>intro w s;(try dsimp only at s);go_simp;try (with_reducible rfl)
   refine tkK 22 rfl (v:=?v32) ?h32 ?r32
   case h32=>intro w s;(try dsimp only at s);go_simp;try (with_reducible rfl)
   refine tkK 23 rfl (v:=?v33) ?h33 ?r33
   case h33=>intro w s;(try dsimp only at s);go_simp;try (with_reducible rfl)
   refine tkK 24 rfl (v:=?v34) ?h34 ?r34
   case h34=>intro w s;(try dsimp only at s);go_simp;try (with_reducible rfl)
   refine tkK 25 rfl (v:=?v35) ?h35 ?r35
   case h35=>intro w s;(try dsimp only at s);go_simp;try (with_reducible rfl)
   refine tkK 26 rfl (v:=?v36) ?h36 ?r36
   case h36=>intro w s;(try dsimp only at s);go_simp;try (with_reducible rfl)
   refine tkK 27 rfl (v:=?v37) ?h37 ?r37
   case h37=>intro w s;(try dsimp only at s);go_simp;try (with_reducible rfl)
   refine tkK 28 rfl (v:=?v38) ?h38 ?r38
   case h38=>intro w s;(try dsimp only at s);go_simp;try (with_reducible rfl)
   refine tkK 29 rfl (v:=?v39) ?h39 ?r39
   case h39=>intro w s;(try dsimp only at s);go_simp;try (with_reducible rfl)
   refine tkK 30 rfl (v:=?v40) ?h40 ?r40
   case h40=>intro w s;(try dsimp only at s);go_simp;try (with_reducible rfl)
   refine tkK 31 rfl (v:=?v41) ?h41 ?r41
   case h41=>intro w s;(try dsimp only at s);go_simp;try (with_reducible rfl)
   try simp only[Act.put,lay]
   refine rd1 32 rfl fun K hK=>?_
   go_simp
   refine (hPk _).mono ?_
   rintro e u7_1 ⟨h9,b7_1⟩
   rcases h9 with ⟨z1,z2,z3,hz,j1,j2,j3,rfl⟩ | ⟨hz,nn,hn,rfl⟩
   rotate_left
   ·exact⟨⟨nn,hn,rfl,hz,hR.below b7_1 hR.lt,hE.below b7_1 hE.lt,hB.trans (b7_1.mono hB.size)⟩,rfl,rfl,rfl⟩
   have HZ:=Lib.hid hz
   clear hz
   replace hr:=hr.b b7_1
   replace hA:=hA.b b7_1
   replace hP:=hP.b b7_1
   replace h7:=h7.b b7_1
   replace hR:=hR.b b7_1
   replace hE:=hE.b b7_1
   replace hX1:=hX1.b b7_1
   replace hX2:=hX2.b b7_1
   replace hX3:=hX3.b b7_1
   replace cw:=cellAU b7_1 cw
   replace cm:=cellAU b7_1 cm
   replace cv:=cellAU b7_1 cv
   replace cg:=cellAU b7_1 cg
   replace hB:=bOn hB b7_1
   go_wp2_with fail
   refine hK.out _ _ ?_ fun hHeld=>?_
   ·exact⟨hr.cell 0,hA.cell 0,hA.cell 1,hA.cell 2,hA.cell 3,hA.cell 4,hA.cell 5,hP.cell 0,hP.cell 1,h7.cell 0,h7.cell 1,h7.cell 2,h7.cell 3,hR.cell 0,hR.cell 1,hR.cell 2,hR.cell 3,cw,cm,cv,cg⟩
   clear hK K
   try simp only[Act.put,lay]
   refine tkK 33 rfl (v:=?v42) ?h42 ?r42
   case h42=>intro w s;(try dsimp only at s);go_simp;try (with_reducible rfl)
   refine tkK 34 rfl (v:=?v43) ?h43 ?r43
   case h43=>intro w s;(try dsimp only at s);go_simp;try (with_reducible rfl)
   refine tkK 35 rfl (v:=?v44) ?h44 ?r44
   case h44=>intro w s;(try dsimp only at s);go_simp;try (with_reducible rfl)
   refine tkK 36 rfl (v:=?v45) ?h45 ?r45
   case h45=>intro w s;(try dsimp only at s);go_simp;try (with_reducible rfl)
   refine tkK 37 rfl (v:=?v46) ?h46 ?r46
   case h46=>intro w s;(try dsimp only at s);go_simp;try (with_reducible rfl)
   try simp only[Act.put,lay]
   refine rd1 38 rfl fun K hK=>?_
   obtain⟨u7_2,eu,f1,f2,f3,f4,f5⟩:=fillAt (k:=k) (show IArr u7_1 BW (outTo (pW pl) k n) from hX1) z1
   have xc:World.cell? u7_1 ⟨BW,k,none⟩=some (.int .i64 (iat (outTo (pW pl) k n) k)):=IArr.cell (show IArr u7_1 BW (outTo (pW pl) k n) from hX1) (by rw[hl1.out];exact hlt)
   have xf:World.frozen? u7_1 ⟨BW,k,none⟩=false:=IArr.frozen (show IArr u7_1 BW (outTo (pW pl) k n) from hX1) k
   go_simp
   rw[←eu]
   replace hr:=f2 _ _ _ hr (by omega)
   replace hA:=f2 _ _ _ hA (by omega)
   replace hP:=f2 _ _ _ hP (by omega)
   replace h7:=f2 _ _ _ h7 (by omega)
   replace hR:=f2 _ _ _ hR (by omega)
   replace hE:=f2 _ _ _ hE (by omega)
   replace hX2:=f2 _ _ _ hX2 (by omega)
   replace hX3:=f2 _ _ _ hX3 (by omega)
   replace cw:=f4 _ _ cw (by omega)
   replace cm:=f4 _ _ cm (by omega)
   replace cv:=f4 _ _ cv (by omega)
   replace cg:=f4 _ _ cg (by omega)
   replace hB:=f5 _ _ (by omega) hB
   replace hX1:=f1
   clear eu f1 f2 f3 f4 f5 xc xf
   refine hK.out _ _ ?_ fun hHeld=>?_
   ·exact⟨hr.cell 0,hA.cell 0,hA.cell 1,hA.cell 2,hA.cell 3,hA.cell 4,hA.cell 5,hP.cell 0,hP.cell 1,h7.cell 0,h7.cell 1,h7.cell 2,h7.cell 3,hR.cell 0,hR.cell 1,hR.cell 2,hR.cell 3,cw,cm,cv,cg⟩
   clear hK K
   try simp only[Act.put,lay]
   refine tkK 39 rfl (v:=?v47) ?h47 ?r47
   case h47=>intro w s;(try dsimp only at s);go_simp;try (with_reducible rfl)
   try simp only[Act.put,lay]
   refine rd1 40 rfl fun K hK=>?_
   obtain⟨u7_3,eu,f1,f2,f3,f4,f5⟩:=fillAt (k:=k) (show IArr u7_2 BM (outTo (pM pl) k n) from hX2) z2
   have xc:World.cell? u7_2 ⟨BM,k,none⟩=some (.int .i64 (iat (outTo (pM pl) k n) k)):=IArr.cell (show IArr u7_2 BM (outTo (pM pl) k n) from hX2) (by rw[hl2.out];exact hlt)
   have xf:World.frozen? u7_2 ⟨BM,k,none⟩=false:=IArr.frozen (show IArr u7_2 BM (outTo (pM pl) k n) from hX2) k
   go_simp
   rw[←eu]
   replace hr:=f2 _ _ _ hr (by omega)
   replace hA:=f2 _ _ _ hA (by omega)
   replace hP:=f2 _ _ _ hP (by omega)
   replace h7:=f2 _ _ _ h7 (by omega)
   replace hR:=f2 _ _ _ hR (by omega)
   replace hE:=f2 _ _ _ hE (by omega)
   replace hX1:=f2 _ _ _ hX1 (by omega)
   replace hX3:=f2 _ _ _ hX3 (by omega)
   replace cw:=f4 _ _ cw (by omega)
   replace cm:=f4 _ _ cm (by omega)
   replace cv:=f4 _ _ cv (by omega)
   replace cg:=f4 _ _ cg (by omega)
   replace hB:=f5 _ _ (by omega) hB
   replace hX2:=f1
   clear eu f1 f2 f3 f4 f5 xc xf
   refine hK.out _ _ ?_ fun hHeld=>?_
   ·exact⟨hr.cell 0,hA.cell 0,hA.cell 1,hA.cell 2,hA.cell 3,hA.cell 4,hA.cell 5,hP.cell 0,hP.cell 1,h7.cell 0,h7.cell 1,h7.cell 2,h7.cell 3,hR.cell 0,hR.cell 1,hR.cell 2,hR.cell 3,cw,cm,cv,cg⟩
   clear hK K
   try simp only[Act.put,lay]
   refine tkK 41 rfl (v:=?v48) ?h48 ?r48
   case h48=>intro w s;(try dsimp only at s);go_simp;try (with_reducible rfl)
   try simp only[Act.put,lay]
   refine rd1 42 rfl fun K hK=>?_
   obtain⟨u7_4,eu,f1,f2,f3,f4,f5⟩:=fillAt (k:=k) (show IArr u7_3 BV (outTo (pV pl) k n) from hX3) z3
   have xc:World.cell? u7_3 ⟨BV,k,none⟩=some (.int .i64 (iat (outTo (pV pl) k n) k)):=IArr.cell (show IArr u7_3 BV (outTo (pV pl) k n) from hX3) (by rw[hl3.out];exact hlt)
   have xf:World.frozen? u7_3 ⟨BV,k,none⟩=false:=IArr.frozen (show IArr u7_3 BV (outTo (pV pl) k n) from hX3) k
   go_simp
   rw[←eu]
   replace hr:=f2 _ _ _ hr (by omega)
   replace hA:=f2 _ _ _ hA (by omega)
   replace hP:=f2 _ _ _ hP (by omega)
   replace h7:=f2 _ _ _ h7 (by omega)
   replace hR:=f2 _ _ _ hR (by omega)
   replace hE:=f2 _ _ _ hE (by omega)
   replace hX1:=f2 _ _ _ hX1 (by omega)
   replace hX2:=f2 _ _ _ hX2 (by omega)
   replace cw:=f4 _ _ cw (by omega)
   replace cm:=f4 _ _ cm (by omega)
   replace cv:=f4 _ _ cv (by omega)
   replace cg:=f4 _ _ cg (by omega)
   replace hB:=f5 _ _ (by omega) hB
   replace hX3:=f1
   clear eu f1 f2 f3 f4 f5 xc xf
   refine hK.out _ _ ?_ fun hHeld=>?_
   ·exact⟨hr.cell 0,hA.cell 0,hA.cell 1,hA.cell 2,hA.cell 3,hA.cell 4,hA.cell 5,hP.cell 0,hP.cell 1,h7.cell 0,h7.cell 1,h7.cell 2,h7.cell 3,hR.cell 0,hR.cell 1,hR.cell 2,hR.cell 3,cw,cm,cv,cg⟩
   clear hK K
   try simp only[Act.put,lay]
   try dsimp only
   try simp only[Act.put,lay]
   refine wpAnyH_done (by kernel_rfl) ?_ _
   refine KeepQ.normal ?_
   skip
   have c54:=hr.q1
   obtain⟨c55,c56,c57,c58,c59,c60⟩:=hA.q6
   obtain⟨c61,c62⟩:=hP.q2
   obtain⟨c63,c64,c65,c66⟩:=h7.q4
   obtain⟨c67,c68,c69,c70⟩:=hR.q4
   have c71:=hE.q1
   have e1:pW pl k=z1:=by unfold pW;rw[HZ.out];rfl
   have e2:pM pl k=z2:=by unfold pM;rw[HZ.out];rfl
   have e3:pV pl k=z3:=by unfold pV;rw[HZ.out];rfl
   rw[←e1,outTo_set] at hX1
   rw[←e2,outTo_set] at hX2
   rw[←e3,outTo_set] at hX3
   have hpl2:Hid (∀i,i<k+1→pl i≠none):=Lib.hid (fun i hi=>by
    rcases Nat.lt_or_ge i k with h | h
    ·exact hpl.out i h
    ·obtain rfl:i=k:=by omega
     rw[HZ.out];simp)
   clear e1 e2 e3
   clear c54 c55 c56 c57 c58 c59 c60 c61 c62 c63 c64 c65 c66 c67 c68 c69 c70 c71
   go_wp2
   exact⟨⟨k+1,by omega,by go_num,hpl2,hr,hA,hP,h7,hR,hE,hX1,hX2,hX3,hB⟩,by simp[intOf];omega⟩
  ·obtain rfl:k=n:=by omega
   obtain⟨W1,e1,r1,r2,r3,r4⟩:=fill4 hR (.slice (some ⟨BW,0,none⟩) k k) (.slice (some ⟨BM,0,none⟩) k k) (.slice (some ⟨BV,0,none⟩) k k) (.slice none 0 0) (by simp[noU])
   have hE1:=r3 _ _ _ hE (by omega)
   obtain⟨W2,e2,s1,s2,s3,s4⟩:=fill1 hE1 (.int .i64 0) (by simp[noU])
   have hR2:=s3 _ _ _ r1 (by omega)
   have hB2:=s4 _ _ (by omega) (r4 _ _ (by omega) hB)
   have hX1':=s3 _ _ _ (r3 _ _ _ (show Blk wr BW 2 _ from hX1) (by omega)) (by omega)
   have hX2':=s3 _ _ _ (r3 _ _ _ (show Blk wr BM 2 _ from hX2) (by omega)) (by omega)
   have hX3':=s3 _ _ _ (r3 _ _ _ (show Blk wr BV 2 _ from hX3) (by omega)) (by omega)
   have q0:World.cell? wr ⟨g+1+1+1+1,0,none⟩=some (.slice (some ⟨BW,0,none⟩) k k):=hR.cell 0
   have q1:World.cell? wr ⟨g+1+1+1+1,1,none⟩=some (.slice (some ⟨BM,0,none⟩) k k):=hR.cell 1
   have q2:World.cell? wr ⟨g+1+1+1+1,2,none⟩=some (.slice (some ⟨BV,0,none⟩) k k):=hR.cell 2
   have q3:World.cell? wr ⟨g+1+1+1+1,3,none⟩=some (.slice none 0 0):=hR.cell 3
   have q4:World.cell? ((((wr.setCell ⟨g+1+1+1+1,0,none⟩ (.slice (some ⟨BW,0,none⟩) k k)).setCell ⟨g+1+1+1+1,1,none⟩ (.slice (some ⟨BM,0,none⟩) k k)).setCell ⟨g+1+1+1+1,2,none⟩ (.slice (some ⟨BV,0,none⟩) k k)).setCell ⟨g+1+1+1+1,3,none⟩ (.slice none 0 0)) ⟨g+1+1+1+1+1,0,none⟩=some (.int .i64 0):=by rw[←e1];exact hE1.cell 0
   have z0:=hR.frozen
   have z1:World.frozen? ((((wr.setCell ⟨g+1+1+1+1,0,none⟩ (.slice (some ⟨BW,0,none⟩) k k)).setCell ⟨g+1+1+1+1,1,none⟩ (.slice (some ⟨BM,0,none⟩) k k)).setCell ⟨g+1+1+1+1,2,none⟩ (.slice (some ⟨BV,0,none⟩) k k)).setCell ⟨g+1+1+1+1,3,none⟩ (.slice none 0 0)) ⟨g+1+1+1+1+1,0,none⟩=false:=by rw[←e1];exact hE1.frozen 0
   have k0:World.cell? W2 ⟨g+1+1+1+1,0,none⟩=some (.slice (some ⟨BW,0,none⟩) k k):=hR2.cell 0
   have k1:World.cell? W2 ⟨g+1+1+1+1,1,none⟩=some (.slice (some ⟨BM,0,none⟩) k k):=hR2.cell 1
   have k2:World.cell? W2 ⟨g+1+1+1+1,2,none⟩=some (.slice (some ⟨BV,0,none⟩) k k):=hR2.cell 2
   have k3:World.cell? W2 ⟨g+1+1+1+1,3,none⟩=some (.slice none 0 0):=hR2.cell 3
   have k4:World.cell? W2 ⟨g+1+1+1+1+1,0,none⟩=some (.int .i64 0):=s1.cell 0
   have HE:=Lib.hid (And.intro e1 e2)
   clear e1 e2
   go_wp2_with fail
   rw[←HE.out.1,←HE.out.2]
   refine leaves_cons (f:=173) (args:= #[.pointer (some ⟨g+1+1+1+1,0,none⟩),.pointer (some ⟨g+1+1+1+1+1,0,none⟩)]) (by simp) (by simp[go_sem]) ?_
   refine (acatch_idle (g+1+1+1+1) (g+1+1+1+1+1) W2).mono ?_
   rintro e u' w2 ⟨rfl,rfl,rfl⟩
   rw[outTo_all] at hX1 hX2 hX3
   refine ⟨.tuple #[.agg #[.slice (some ⟨BW,0,none⟩) k k,.slice (some ⟨BM,0,none⟩) k k,.slice (some ⟨BV,0,none⟩) k k,.slice none 0 0],.int .i64 0],?_,.inl ⟨fun i hi=>hpl.out i hi,_,_,_,rfl,⟨_,_,rfl,by simp,by omega,by rw[←outTo_all];exact hX1'⟩,⟨_,_,rfl,by simp,by omega,by rw[←outTo_all];exact hX2'⟩,⟨_,_,rfl,by simp,by omega,by rw[←outTo_all];exact hX3'⟩⟩,hB2⟩
   simp[results,Tryz.results112,go_sem,k0,k1,k2,k3,k4]
def negB (n:Int):Bool:=decide (n<0)
theorem neg_any (n:Int) (w:World):Calls Tryz.prog 108 #[.int .i64 n] w fun e w'=>e= .returned (.bool (negB n))∧w=w':=by
 unfold negB
 go_enter Tryz.func108,Tryz.ntmps108
 go_wp2
 go_ret
 exact⟨rfl,rfl⟩
theorem indexNeg_any (v:Value) (l:List Int) (w:World) (h:IsI w v l):
 Calls Tryz.prog 172 #[v,.func (.func 108) #[] #[]] w fun e w'=>(∃n:Int,e= .returned (.int .i64 n)∧decide (0≤n)=l.any negB)∧w=w':=by
 obtain⟨A,c,rfl,hc1,hc2,hr⟩:=h
 obtain⟨r,hr0⟩:∃r,r=l.any negB:=⟨_,rfl⟩
 rw[←hr0]
 have HR:=Lib.hid hr0
 clear hr0
 have hO:=fun n=>neg_any n w
 go_enter Tryz.func172,Tryz.ntmps172
 go_wp2
 go_loop [8] (fun i=>∃k:Nat,k≤l.length∧i= .int .i64 k∧Hid ((l.take k).any negB=false)) (fun i=>l.length - (intOf i).toNat)
 case atStart=>exact⟨0,by omega,rfl,Lib.hid (by simp)⟩
 case round=>
  obtain⟨k,hk,rfl,hno⟩:=hrel
  by_cases hlt:k<l.length
  ·obtain⟨ad,rfl,_,hx⟩:=is_cell hr hlt
   have HS:=Lib.hid (iat_snoc_take l k hlt)
   have HM:=Lib.hid (iat_mem hlt)
   generalize iat l k=y at *
   have hOy:=hO y
   cases hp:negB y
   ·have HS2:=Lib.hid (any_take hno.out HS.out hp)
    rw[hp] at hOy
    go_wp2_with fail
    refine hOy.mono ?_
    rintro e w1 ⟨rfl,rfl⟩
    go_wp2
    go_round
    case rel=>exact⟨k+1,by omega,by go_num,HS2⟩
    case measure=>simp[intOf];omega
   ·have HT:=Lib.hid (show l.any negB=true from List.any_eq_true.2 ⟨y,HM.out,hp⟩)
    rw[hp] at hOy
    go_wp2_with fail
    refine hOy.mono ?_
    rintro e w1 ⟨rfl,rfl⟩
    go_wp2
    go_ret
    exact⟨⟨k,rfl,by rw[HR.out,HT.out];simp⟩,rfl⟩
  ·obtain rfl:k=l.length:=by omega
   have HF:=Lib.hid (show l.any negB=false by have:=hno.out;rwa [List.take_length] at this)
   go_wp2
   go_ret
   exact⟨⟨-1,rfl,by rw[HR.out,HF.out];rfl⟩,rfl⟩
theorem containsNeg_any (v:Value) (l:List Int) (w:World) (h:IsI w v l):
 Calls Tryz.prog 111 #[v,.func (.func 108) #[] #[]] w fun e w'=>e= .returned (.bool (l.any negB))∧w=w':=by
 have hI:=fun w h=>indexNeg_any v l w h
 obtain⟨A,c,rfl,_⟩:=id h
 generalize l.any negB=r at *
 go_enter Tryz.func111,Tryz.ntmps111
 go_wp2_with fail
 refine (hI _ h).mono ?_
 rintro e w1 ⟨⟨n,rfl,hn⟩,rfl⟩
 go_wp2
 go_ret
 exact⟨rfl,rfl⟩
def behB (f:Nat) (n:Int):Bool:=decide (0≤n) && decide (n<(2^f:Nat))
theorem behind_any (n:Int) (f C:Nat) (w:World) (hf:f≤40) (hC:Blk w C 3 #[.int .i64 f]):Calls Tryz.prog 109 #[.int .i64 n,.pointer (some ⟨C,0,none⟩)] w fun e w'=>e= .returned (.bool (behB f n))∧w=w':=by
 have hO:=fun w=>aone_any f w hf
 have hc:=hC.q1
 unfold behB
 generalize ((2^f:Nat):Int)=P at *
 by_cases h:0≤n
 ·have hd:decide (0≤n)=true:=decide_eq_true h
  rw[hd,Bool.true_and]
  clear h
  go_enter Tryz.func109,Tryz.ntmps109
  go_wp2_with fail
  refine (hO _).mono ?_
  rintro e w' ⟨rfl,rfl⟩
  go_wp2
  go_ret
  exact⟨rfl,rfl⟩
 ·have hd:decide (0≤n)=false:=decide_eq_false h
  rw[hd,Bool.false_and]
  clear h
  go_enter Tryz.func109,Tryz.ntmps109
  go_wp2
  go_ret
  exact⟨rfl,rfl⟩
theorem aStep_w (lr b1 b2 eps wd:Int) (apart:Bool) (p0 p1:Int) (vW vM vV vG:Value) (Ws Ms Vs Gs:List Int) (w:World) (jW:IsI w vW Ws) (jM:IsI w vM Ms) (jV:IsI w vV Vs) (jG:IsI w vG Gs) (f:Nat) (hf:f≤40) (hr:rightA lr b1 b2 eps wd f=true) (hn:Ws.length≤1000000) (pl:Nat→Option (Int×Int×Int))
 (hPl:behB f p0=true→behB f p1=true→∀i,i<Ws.length→∀w,Calls Tryz.prog 174 #[.agg #[.int .i64 f],.agg #[.int .i64 lr,.int .i64 b1,.int .i64 b2,.int .i64 eps,.int .i64 wd,.bool apart],.agg #[.int .i64 p0,.int .i64 p1],.int .i64 (iat Ws i),.int .i64 (iat Ms i),.int .i64 (iat Vs i),.int .i64 (iat Gs i)] w fun e w'=>OutP (pl i) e∧Below w.heap.size w w'):
 Calls Tryz.prog 44 #[.agg #[.int .i64 lr,.int .i64 b1,.int .i64 b2,.int .i64 eps,.int .i64 wd,.bool apart],.int .i64 f,.agg #[.int .i64 p0,.int .i64 p1],.agg #[vW,vM,vV,vG]] w fun e w'=>(((Ms.length=Ws.length∧Vs.length=Ws.length∧Gs.length=Ws.length)∧((∀i,i<Ws.length→pl i≠none)∧∃a b c,e= .returned (.tuple #[.agg #[a,b,c,.slice none 0 0],.int .i64 0])∧ArrI w' a ((List.range Ws.length).map (pW pl))∧ArrI w' b ((List.range Ws.length).map (pM pl))∧ArrI w' c ((List.range Ws.length).map (pV pl))))∨∃r:Int,r≠0∧e= .returned (.tuple #[.agg #[.slice none 0 0,.slice none 0 0,.slice none 0 0,.slice none 0 0],.int .i64 r]))∧Below w.heap.size w w':=by
 obtain⟨AW,cW,rfl,_⟩:=id jW
 obtain⟨AM,cM,rfl,_⟩:=id jM
 obtain⟨AV,cV,rfl,_⟩:=id jV
 obtain⟨AG,cG,rfl,_⟩:=id jG
 have hmf:∀(fn:Fn) (first cap:Array Value) (w:World),(Instr.makeFunc fn first cap).run Tryz.prog w= .ok (.func fn first cap) w:=fun _ _ _ _=>rfl
 have hRi:=fun w=>aright_any lr b1 b2 eps wd f apart w
 rw[hr] at hRi
 have h1:=fun C w h=>behind_any p0 f C w hf h
 have h2:=fun C w h=>behind_any p1 f C w hf h
 have h3:=fun v w h=>containsNeg_any v Vs w h
 clear hr
 obtain⟨g,Y4,hA,hF,hP,h7,hR,hB,hgw,EY⟩:=boxes5 w 61 #[.int .i64 lr,.int .i64 b1,.int .i64 b2,.int .i64 eps,.int .i64 wd,.bool apart] 3 #[.int .i64 f] 34 #[.int .i64 p0,.int .i64 p1] 64 #[.slice AW Ws.length cW,.slice AM Ms.length cM,.slice AV Vs.length cV,.slice AG Gs.length cG] 64 #[.slice none 0 0,.slice none 0 0,.slice none 0 0,.slice none 0 0]
 replace jW:=jW.b hB
 replace jM:=jM.b hB
 replace jV:=jV.b hB
 replace jG:=jG.b hB
 obtain⟨c0,c1,c2,c3,c4,c5⟩:=hA.q6
 have c6:=hF.q1
 obtain⟨c7,c8⟩:=hP.q2
 obtain⟨c9,c10,c11,c12⟩:=h7.q4
 obtain⟨c13,c14,c15,c16⟩:=hR.q4
 go_enter Tryz.func44,Tryz.ntmps44
 go_wp2_with fail
 rw[←EY.out.2,←EY.out.1]
 refine (hRi _).mono ?_
 rintro e w22 ⟨rfl,b22⟩
 replace jW:=jW.b b22
 replace jM:=jM.b b22
 replace jV:=jV.b b22
 replace jG:=jG.b b22
 replace hA:=hA.b b22
 replace hF:=hF.b b22
 replace hP:=hP.b b22
 replace h7:=h7.b b22
 replace hR:=hR.b b22
 replace hB:=bOn hB b22
 clear c0 c1 c2 c3 c4 c5 c6 c7 c8 c9 c10 c11 c12 c13 c14 c15 c16
 obtain⟨c17,c18,c19,c20,c21,c22⟩:=hA.q6
 have c23:=hF.q1
 obtain⟨c24,c25⟩:=hP.q2
 obtain⟨c26,c27,c28,c29⟩:=h7.q4
 obtain⟨c30,c31,c32,c33⟩:=hR.q4
 cases c1:behB f p0
 ·rw[c1] at h1
  clear c1 hPl
  go_wp2_with fail
  refine (h1 _ _ hF).mono ?_
  rintro e w24 ⟨rfl,rfl⟩
  obtain⟨W9,e9,r1,r2,r3,r4⟩:=fill4 hR (.slice none 0 0) (.slice none 0 0) (.slice none 0 0) (.slice none 0 0) (by simp[noU])
  have hB9:=r4 _ _ (by omega) hB
  have rc0:World.cell? _ ⟨g+1+1+1+1,0,none⟩=some (.slice none 0 0):=hR.cell 0
  have rf0:=hR.frozen 0
  have rq0:World.cell? W9 ⟨g+1+1+1+1,0,none⟩=some (.slice none 0 0):=r1.cell 0
  have rc1:World.cell? _ ⟨g+1+1+1+1,1,none⟩=some (.slice none 0 0):=hR.cell 1
  have rf1:=hR.frozen 1
  have rq1:World.cell? W9 ⟨g+1+1+1+1,1,none⟩=some (.slice none 0 0):=r1.cell 1
  have rc2:World.cell? _ ⟨g+1+1+1+1,2,none⟩=some (.slice none 0 0):=hR.cell 2
  have rf2:=hR.frozen 2
  have rq2:World.cell? W9 ⟨g+1+1+1+1,2,none⟩=some (.slice none 0 0):=r1.cell 2
  have rc3:World.cell? _ ⟨g+1+1+1+1,3,none⟩=some (.slice none 0 0):=hR.cell 3
  have rf3:=hR.frozen 3
  have rq3:World.cell? W9 ⟨g+1+1+1+1,3,none⟩=some (.slice none 0 0):=r1.cell 3
  have HE9:=Lib.hid e9
  clear e9
  go_wp2_with fail
  rw[←HE9.out]
  exact bodyPost_ret (v:= .tuple #[.agg #[.slice none 0 0,.slice none 0 0,.slice none 0 0,.slice none 0 0],.int .i64 1]) (by simp[results,Tryz.results44,go_sem,rq0,rq1,rq2,rq3]) rfl ⟨.inr ⟨_,by decide,rfl⟩,hB9⟩
 rw[c1] at h1
 go_wp2_with fail
 refine (h1 _ _ hF).mono ?_
 rintro e w24 ⟨rfl,rfl⟩
 cases c2:behB f p1
 ·rw[c2] at h2
  clear c1 c2 hPl
  go_wp2_with fail
  refine (h2 _ _ hF).mono ?_
  rintro e w25 ⟨rfl,rfl⟩
  obtain⟨W9,e9,r1,r2,r3,r4⟩:=fill4 hR (.slice none 0 0) (.slice none 0 0) (.slice none 0 0) (.slice none 0 0) (by simp[noU])
  have hB9:=r4 _ _ (by omega) hB
  have rc0:World.cell? _ ⟨g+1+1+1+1,0,none⟩=some (.slice none 0 0):=hR.cell 0
  have rf0:=hR.frozen 0
  have rq0:World.cell? W9 ⟨g+1+1+1+1,0,none⟩=some (.slice none 0 0):=r1.cell 0
  have rc1:World.cell? _ ⟨g+1+1+1+1,1,none⟩=some (.slice none 0 0):=hR.cell 1
  have rf1:=hR.frozen 1
  have rq1:World.cell? W9 ⟨g+1+1+1+1,1,none⟩=some (.slice none 0 0):=r1.cell 1
  have rc2:World.cell? _ ⟨g+1+1+1+1,2,none⟩=some (.slice none 0 0):=hR.cell 2
  have rf2:=hR.frozen 2
  have rq2:World.cell? W9 ⟨g+1+1+1+1,2,none⟩=some (.slice none 0 0):=r1.cell 2
  have rc3:World.cell? _ ⟨g+1+1+1+1,3,none⟩=some (.slice none 0 0):=hR.cell 3
  have rf3:=hR.frozen 3
  have rq3:World.cell? W9 ⟨g+1+1+1+1,3,none⟩=some (.slice none 0 0):=r1.cell 3
  have HE9:=Lib.hid e9
  clear e9
  go_wp2_with fail
  rw[←HE9.out]
  exact bodyPost_ret (v:= .tuple #[.agg #[.slice none 0 0,.slice none 0 0,.slice none 0 0,.slice none 0 0],.int .i64 1]) (by simp[results,Tryz.results44,go_sem,rq0,rq1,rq2,rq3]) rfl ⟨.inr ⟨_,by decide,rfl⟩,hB9⟩
 rw[c2] at h2
 go_wp2_with fail
 refine (h2 _ _ hF).mono ?_
 rintro e w25 ⟨rfl,rfl⟩
 replace hPl:=hPl c1 c2
 clear c1 c2
 cases c3:Vs.any negB;rotate_left
 ·rw[c3] at h3
  clear c3 hPl
  go_wp2_with fail
  refine (h3 _ _ jV).mono ?_
  rintro e w26 ⟨rfl,rfl⟩
  obtain⟨W9,e9,r1,r2,r3,r4⟩:=fill4 hR (.slice none 0 0) (.slice none 0 0) (.slice none 0 0) (.slice none 0 0) (by simp[noU])
  have hB9:=r4 _ _ (by omega) hB
  have rc0:World.cell? _ ⟨g+1+1+1+1,0,none⟩=some (.slice none 0 0):=hR.cell 0
  have rf0:=hR.frozen 0
  have rq0:World.cell? W9 ⟨g+1+1+1+1,0,none⟩=some (.slice none 0 0):=r1.cell 0
  have rc1:World.cell? _ ⟨g+1+1+1+1,1,none⟩=some (.slice none 0 0):=hR.cell 1
  have rf1:=hR.frozen 1
  have rq1:World.cell? W9 ⟨g+1+1+1+1,1,none⟩=some (.slice none 0 0):=r1.cell 1
  have rc2:World.cell? _ ⟨g+1+1+1+1,2,none⟩=some (.slice none 0 0):=hR.cell 2
  have rf2:=hR.frozen 2
  have rq2:World.cell? W9 ⟨g+1+1+1+1,2,none⟩=some (.slice none 0 0):=r1.cell 2
  have rc3:World.cell? _ ⟨g+1+1+1+1,3,none⟩=some (.slice none 0 0):=hR.cell 3
  have rf3:=hR.frozen 3
  have rq3:World.cell? W9 ⟨g+1+1+1+1,3,none⟩=some (.slice none 0 0):=r1.cell 3
  have HE9:=Lib.hid e9
  clear e9
  go_wp2_with fail
  rw[←HE9.out]
  exact bodyPost_ret (v:= .tuple #[.agg #[.slice none 0 0,.slice none 0 0,.slice none 0 0,.slice none 0 0],.int .i64 1]) (by simp[results,Tryz.results44,go_sem,rq0,rq1,rq2,rq3]) rfl ⟨.inr ⟨_,by decide,rfl⟩,hB9⟩
 rw[c3] at h3
 clear c3
 go_wp2_with fail
 refine (h3 _ _ jV).mono ?_
 rintro e w26 ⟨rfl,rfl⟩
 by_cases hs:Ms.length=Ws.length∧Vs.length=Ws.length∧Gs.length=Ws.length;rotate_left
 ·have HS:((Ms.length:Int) != (Ws.length:Int))=true∨(((Ms.length:Int) != (Ws.length:Int))=false∧((Vs.length:Int) != (Ws.length:Int))=true)∨(((Ms.length:Int) != (Ws.length:Int))=false∧((Vs.length:Int) != (Ws.length:Int))=false∧((Gs.length:Int) != (Ws.length:Int))=true):=by
   simp only[bne_iff_ne,ne_eq,bne_eq_false_iff_eq]
   omega
  have HS:=Lib.hid HS
  clear hs hPl
  rcases HS.out with y1 | ⟨y1,y2⟩ | ⟨y1,y2,y3⟩
  all_goals
   obtain⟨W9,e9,r1,r2,r3,r4⟩:=fill4 hR (.slice none 0 0) (.slice none 0 0) (.slice none 0 0) (.slice none 0 0) (by simp[noU])
   have hB9:=r4 _ _ (by omega) hB
   have rc0:World.cell? _ ⟨g+1+1+1+1,0,none⟩=some (.slice none 0 0):=hR.cell 0
   have rf0:=hR.frozen 0
   have rq0:World.cell? W9 ⟨g+1+1+1+1,0,none⟩=some (.slice none 0 0):=r1.cell 0
   have rc1:World.cell? _ ⟨g+1+1+1+1,1,none⟩=some (.slice none 0 0):=hR.cell 1
   have rf1:=hR.frozen 1
   have rq1:World.cell? W9 ⟨g+1+1+1+1,1,none⟩=some (.slice none 0 0):=r1.cell 1
   have rc2:World.cell? _ ⟨g+1+1+1+1,2,none⟩=some (.slice none 0 0):=hR.cell 2
   have rf2:=hR.frozen 2
   have rq2:World.cell? W9 ⟨g+1+1+1+1,2,none⟩=some (.slice none 0 0):=r1.cell 2
   have rc3:World.cell? _ ⟨g+1+1+1+1,3,none⟩=some (.slice none 0 0):=hR.cell 3
   have rf3:=hR.frozen 3
   have rq3:World.cell? W9 ⟨g+1+1+1+1,3,none⟩=some (.slice none 0 0):=r1.cell 3
   have HE9:=Lib.hid e9
   clear e9
   go_wp2_with fail
   rw[←HE9.out]
   exact bodyPost_ret (v:= .tuple #[.agg #[.slice none 0 0,.slice none 0 0,.slice none 0 0,.slice none 0 0],.int .i64 5]) (by simp[results,Tryz.results44,go_sem,rq0,rq1,rq2,rq3]) rfl ⟨.inr ⟨_,by decide,rfl⟩,hB9⟩
 have HSL:=Lib.hid hs
 have hPs:=fun u v x y w h1 h2 h3 h4=>aplaces_any lr b1 b2 eps wd apart p0 p1 f u v x y Ws Ms Vs Gs pl w h1 h2 h3 h4 hs hn hPl
 have y1:((Ms.length:Int) != (Ws.length:Int))=false:=by rw[hs.1];simp
 have y2:((Vs.length:Int) != (Ws.length:Int))=false:=by rw[hs.2.1];simp
 have y3:((Gs.length:Int) != (Ws.length:Int))=false:=by rw[hs.2.2];simp
 clear hs hn hPl
 go_wp2_with fail
 refine (hPs _ _ _ _ _ jW jM jV jG).mono ?_
 rintro e w27 ⟨h9,b27⟩
 replace jW:=jW.b b27
 replace jM:=jM.b b27
 replace jV:=jV.b b27
 replace jG:=jG.b b27
 replace hA:=hA.b b27
 replace hF:=hF.b b27
 replace hP:=hP.b b27
 replace h7:=h7.b b27
 replace hR:=hR.b b27
 replace hB:=bOn hB b27
 clear c17 c18 c19 c20 c21 c22 c23 c24 c25 c26 c27 c28 c29 c30 c31 c32 c33
 obtain⟨c34,c35,c36,c37,c38,c39⟩:=hA.q6
 have c40:=hF.q1
 obtain⟨c41,c42⟩:=hP.q2
 obtain⟨c43,c44,c45,c46⟩:=h7.q4
 obtain⟨c47,c48,c49,c50⟩:=hR.q4
 rcases h9 with ⟨ha,va,vb,vc,rfl,iA,iB,iC⟩ | ⟨ha,rfl⟩;rotate_left
 ·clear ha
  obtain⟨W9,e9,r1,r2,r3,r4⟩:=fill4 hR (.slice none 0 0) (.slice none 0 0) (.slice none 0 0) (.slice none 0 0) (by simp[noU])
  have hB9:=r4 _ _ (by omega) hB
  have rc0:World.cell? _ ⟨g+1+1+1+1,0,none⟩=some (.slice none 0 0):=hR.cell 0
  have rf0:=hR.frozen 0
  have rq0:World.cell? W9 ⟨g+1+1+1+1,0,none⟩=some (.slice none 0 0):=r1.cell 0
  have rc1:World.cell? _ ⟨g+1+1+1+1,1,none⟩=some (.slice none 0 0):=hR.cell 1
  have rf1:=hR.frozen 1
  have rq1:World.cell? W9 ⟨g+1+1+1+1,1,none⟩=some (.slice none 0 0):=r1.cell 1
  have rc2:World.cell? _ ⟨g+1+1+1+1,2,none⟩=some (.slice none 0 0):=hR.cell 2
  have rf2:=hR.frozen 2
  have rq2:World.cell? W9 ⟨g+1+1+1+1,2,none⟩=some (.slice none 0 0):=r1.cell 2
  have rc3:World.cell? _ ⟨g+1+1+1+1,3,none⟩=some (.slice none 0 0):=hR.cell 3
  have rf3:=hR.frozen 3
  have rq3:World.cell? W9 ⟨g+1+1+1+1,3,none⟩=some (.slice none 0 0):=r1.cell 3
  have HE9:=Lib.hid e9
  clear e9
  go_wp2_with fail
  rw[←HE9.out]
  exact bodyPost_ret (v:= .tuple #[.agg #[.slice none 0 0,.slice none 0 0,.slice none 0 0,.slice none 0 0],.int .i64 2]) (by simp[results,Tryz.results44,go_sem,rq0,rq1,rq2,rq3]) rfl ⟨.inr ⟨_,by decide,rfl⟩,hB9⟩
 obtain⟨ga,na,rfl,ka1,ka2,ka3⟩:=iA
 obtain⟨gb,nb,rfl,kb1,kb2,kb3⟩:=iB
 obtain⟨gc,nc,rfl,kc1,kc2,kc3⟩:=iC
 have HA:=Lib.hid ha
 have HK:=Lib.hid (And.intro (And.intro ka1 ka2) (And.intro (And.intro kb1 kb2) (And.intro kc1 kc2)))
 clear ha ka1 ka2 kb1 kb2 kc1 kc2
 have neR:∀(y:Nat) (l:List Int),IArr w27 y l→y≠g+1+1+1+1:=fun y l h e=>by
  rw[e] at h
  have h3:w27.heap[g+1+1+1+1]?=some (.cells #[.slice none 0 0,.slice none 0 0,.slice none 0 0,.slice none 0 0] 64 (0,0)):=hR
  unfold IArr at h
  rw[h3] at h
  injection h with h
  injection h with _ h
  exact absurd h (by decide)
 have na1:=neR _ _ ka3
 have nb1:=neR _ _ kb3
 have nc1:=neR _ _ kc3
 clear neR
 obtain⟨W9,e9,r1,r2,r3,r4⟩:=fill4 hR (.slice (some ⟨ga,0,none⟩) na na) (.slice (some ⟨gb,0,none⟩) nb nb) (.slice (some ⟨gc,0,none⟩) nc nc) (.slice none 0 0) (by simp[noU])
 have hB9:=r4 _ _ (by omega) hB
 have rc0:World.cell? _ ⟨g+1+1+1+1,0,none⟩=some (.slice none 0 0):=hR.cell 0
 have rf0:=hR.frozen 0
 have rq0:World.cell? W9 ⟨g+1+1+1+1,0,none⟩=some (.slice (some ⟨ga,0,none⟩) na na):=r1.cell 0
 have rc1:World.cell? _ ⟨g+1+1+1+1,1,none⟩=some (.slice none 0 0):=hR.cell 1
 have rf1:=hR.frozen 1
 have rq1:World.cell? W9 ⟨g+1+1+1+1,1,none⟩=some (.slice (some ⟨gb,0,none⟩) nb nb):=r1.cell 1
 have rc2:World.cell? _ ⟨g+1+1+1+1,2,none⟩=some (.slice none 0 0):=hR.cell 2
 have rf2:=hR.frozen 2
 have rq2:World.cell? W9 ⟨g+1+1+1+1,2,none⟩=some (.slice (some ⟨gc,0,none⟩) nc nc):=r1.cell 2
 have rc3:World.cell? _ ⟨g+1+1+1+1,3,none⟩=some (.slice none 0 0):=hR.cell 3
 have rf3:=hR.frozen 3
 have rq3:World.cell? W9 ⟨g+1+1+1+1,3,none⟩=some (.slice none 0 0):=r1.cell 3
 have HE9:=Lib.hid e9
 clear e9
 go_wp2_with fail
 rw[←HE9.out]
 exact bodyPost_ret (v:= .tuple #[.agg #[.slice (some ⟨ga,0,none⟩) na na,.slice (some ⟨gb,0,none⟩) nb nb,.slice (some ⟨gc,0,none⟩) nc nc,.slice none 0 0],.int .i64 0]) (by simp[results,Tryz.results44,go_sem,rq0,rq1,rq2,rq3]) rfl ⟨.inl ⟨HSL.out,HA.out,_,_,_,rfl,⟨_,_,rfl,HK.out.1.1,HK.out.1.2,r3 _ _ _ ka3 na1⟩,⟨_,_,rfl,HK.out.2.1.1,HK.out.2.1.2,r3 _ _ _ kb3 nb1⟩,⟨_,_,rfl,HK.out.2.2.1,HK.out.2.2.2,r3 _ _ _ kc3 nc1⟩⟩,hB9⟩
end Go.Proofs.YtdnjdglekifhpaaGreat
namespace Go.Proofs.YtdnjdglekifhpaaGreat
open Go.RowKit
theorem fitO_some {z r:Int} (h:fitO z=some r):r=z:=by
 unfold fitO at h
 split at h
 ·cases h;rfl
 ·cases h
theorem bind_some {α β:Type _} {x:Option α} {f:α→Option β} {r:β} (h:x.bind f=some r):∃a,x=some a∧f a=some r:=by
 cases x with
 | none=>cases h
 | some a=>exact⟨a,rfl,h⟩
theorem mixO_some {beta a b r:Int} {f:Nat} (h:mixO beta a b f=some r):r=mulZ beta a f+mulZ ((2^f:Nat) - beta) b f:=by
 unfold mixO at h
 obtain⟨x,hx,h⟩:=bind_some h
 obtain⟨y,hy,h⟩:=bind_some h
 rw[←fitO_some (show fitO _=some x from hx),←fitO_some (show fitO _=some y from hy)]
 exact fitO_some (show fitO _=some r from h)
theorem placeA_mv {lr b1 b2 eps wd p0 p1 x m v g a m' v':Int} {f:Nat} (h:placeA lr b1 b2 eps wd true p0 p1 f x m v g=some (a,m',v')):
 (m'=mulZ b1 m f+mulZ ((2^f:Nat) - b1) g f∧v'=mulZ b2 v f+mulZ ((2^f:Nat) - b2) (mulZ g g f) f)∧In64 a∧In64 m'∧In64 v':=by
 unfold placeA at h
 obtain⟨d,hd,h⟩:=bind_some h
 cases (show some g=some d from hd)
 obtain⟨m1,hm,h⟩:=bind_some h
 obtain⟨q,hq,h⟩:=bind_some h
 obtain⟨v1,hv,h⟩:=bind_some h
 obtain⟨_,_,h⟩:=bind_some h
 obtain⟨_,_,h⟩:=bind_some h
 obtain⟨_,_,h⟩:=bind_some h
 obtain⟨_,_,h⟩:=bind_some h
 obtain⟨_,_,h⟩:=bind_some h
 obtain⟨_,_,h⟩:=bind_some h
 obtain⟨_,_,h⟩:=bind_some h
 obtain⟨n',hn,h⟩:=bind_some h
 injection h with h
 injection h with h0 h
 injection h with h1 h2
 rw[←h0,←h1,←h2]
 obtain⟨y1,_,hn⟩:=bind_some (show (mulO lr wd f).bind _=some n' from hn)
 obtain⟨y2,_,hn⟩:=bind_some hn
 refine ⟨⟨mixO_some hm,?_⟩,fitO_in (show fitO _=some n' from hn),mixO_in hm,mixO_in hv⟩
 rw[←fitO_some (show fitO _=some q from hq)]
 exact mixO_some hv
def GoodB (F j:Nat) (n:Int) (r b:Rat):Prop:=0≤b∧stepsQ n F r≤b∧BQ r (24*2^j - 23)∧BQ b (116*2^j - 115)
theorem GoodB.start (F:Nat):GoodB F 0 0 0 0:=by
 obtain⟨h1,h2,h3,h4⟩:=Good.start F
 exact⟨h1,h2,h3.more (by omega),h4⟩
theorem GoodB.on {F j:Nat} {beta n v h:Int} {R B q gr:Rat} (H:GoodB F j n R B) (hF:F≤40) (ib:In64 beta) (h0:0≤beta) (ih:In64 h) (hh:0≤h) (sg:BQ gr 3) (q0:0≤q) (sq:BQ q 20)
 (hs:stepsQ v F (realQ beta F R gr)≤nextQ beta F B (q+mkRat h 2)):GoodB F (j+1) v (realQ beta F R gr) (nextQ beta F B (q+mkRat h 2)):=by
 obtain⟨b0,b1,b2,b3⟩:=H
 have hP:1≤2^j:=Nat.one_le_two_pow
 have e:2^(j+1)=2*2^j:=by rw[Nat.pow_succ];omega
 have sone:BQ (1:Rat) 1:=BQ.int (n:=1) (by unfold W64;omega)
 have sb:=sz_man1 ib hF
 refine ⟨next_nonneg h0 b0 (Rat.add_nonneg q0 (half_pos h hh)),hs,?_,?_⟩
 ·have sm:BQ (1 - mkRat beta (2^F)) 5:=by rw[Rat.sub_eq_add_neg];exact (sone.add sb.neg).more (by omega)
  have:=(sb.mul b2).add (sm.mul sg)
  exact this.more (by rw[e];omega)
 ·have:=next_sz ib hF b3 (sq.add (half_sz h ih))
  exact this.more (by rw[e];omega)
theorem GoodB.small {F j:Nat} {n:Int} {r b:Rat} (h:GoodB F j n r b) (hj:j≤3):BQ r 300∧BQ b 1000:=by
 have hP:2^j≤2^3:=Nat.pow_le_pow_right (by omega) hj
 exact⟨h.2.2.1.more (by omega),h.2.2.2.more (by omega)⟩
def GoodL (F j:Nat) (ns:List Int) (rs bs:List Rat):Prop:=∀i,i<ns.length→GoodB F j (iat ns i) (qat rs i) (qat bs i)
theorem GoodL.start (F n:Nat):GoodL F 0 (List.replicate n 0) (List.replicate n 0) (List.replicate n 0):=fun i hi=>by
 rw[List.length_replicate] at hi
 have e1:iat (List.replicate n 0) i=0:=by unfold iat;simp[hi]
 have e2:qat (List.replicate n 0) i=0:=by unfold qat;simp[hi]
 rw[e1,e2];exact GoodB.start F
theorem qat_map (g:Nat→Rat) (n i:Nat) (h:i<n):qat ((List.range n).map g) i=g i:=by unfold qat;simp[h]
def numQ (sq:Bool) (F:Nat) (g:Int):Rat:=if sq then mkRat g (2^F)*mkRat g (2^F) else mkRat g (2^F)
theorem numQ_sz {sq:Bool} {F:Nat} {g:Int} (ig:In64 g) (hF:F≤40):BQ (numQ sq F g) 3:=by
 have:=sz_man1 ig hF
 unfold numQ
 split
 ·exact (this.mul this).more (by omega)
 ·exact this.more (by omega)
def newR (beta:Int) (F:Nat) (rs gs:List Rat) (i:Nat):Rat:=realQ beta F (qat rs i) (qat gs i)
def newB (beta:Int) (F:Nat) (h:Int) (bs qs:List Rat) (i:Nat):Rat:=nextQ beta F (qat bs i) (qat qs i+mkRat h 2)
def OnOk (beta:Int) (F:Nat) (h:Int) (rs bs gs qs:List Rat) (ns:List Int) (n:Nat):Prop:=∀i,i<n→(0≤qat bs i∧0≤qat qs i∧BQ (qat rs i) 300∧BQ (qat bs i) 1000∧BQ (qat gs i) 3∧BQ (qat qs i) 20)∧stepsQ (iat ns i) F (newR beta F rs gs i)≤newB beta F h bs qs i
theorem GoodL.next {F j:Nat} {beta h:Int} {ns vs:List Int} {rs bs gs qs:List Rat} (H:GoodL F j ns rs bs) (hF:F≤40) (ib:In64 beta) (h0:0≤beta) (ih:In64 h) (hh:0≤h) (hl:vs.length=ns.length) (ok:OnOk beta F h rs bs gs qs vs vs.length):
 GoodL F (j+1) vs ((List.range vs.length).map (newR beta F rs gs)) ((List.range vs.length).map (newB beta F h bs qs)):=fun i hi=>by
 rw[qat_map _ _ _ hi,qat_map _ _ _ hi]
 obtain⟨⟨_,k2,_,_,k5,k6⟩,k7⟩:=ok i hi
 exact GoodB.on (H i (by omega)) hF ib h0 ih hh k5 k2 k6 k7
theorem on_first {F j:Nat} {b:Int} {ns ms vs gs:List Int} {rs bs qs:List Rat} (H:GoodL F j ns rs bs) (hj:j≤3) (hF:F≤40) (h0:0≤b) (iG:AllIn gs) (hl:ms.length=ns.length) (hg:gs.length=ns.length)
 (hn:NearTo ms vs qs) (hq:∀q∈qs,BQ q 20) (hm:∀i,i<ms.length→iat ms i=mulZ b (iat ns i) F+mulZ ((2^F:Nat) - b) (iat gs i) F):
 OnOk b F 2 rs bs ((List.range gs.length).map fun i=>numQ false F (iat gs i)) qs vs ms.length:=fun i hi=>by
 obtain⟨q0,kq⟩:=kept_at hn hi
 have g0:=H i (by omega)
 obtain⟨s1,s2⟩:=g0.small hj
 have sq:BQ (qat qs i) 20:=by rw[←qat_at (by have:=hn.2.1;omega)];exact hq _ (List.getElem_mem _)
 unfold newR newB
 rw[qat_map _ _ _ (by omega)]
 refine ⟨⟨g0.1,q0,s1,s2,numQ_sz (iG i) hF,sq⟩,?_⟩
 rw[hm i hi] at kq
 exact first_on h0 g0.2.1 kq
theorem on_second {F j:Nat} {b:Int} {ns ms vs gs:List Int} {rs bs qs:List Rat} (H:GoodL F j ns rs bs) (hj:j≤3) (hF:F≤40) (h0:0≤b) (hb:b≤(2^F:Nat)) (iG:AllIn gs) (hl:ms.length=ns.length) (hg:gs.length=ns.length)
 (hn:NearTo ms vs qs) (hq:∀q∈qs,BQ q 20) (hm:∀i,i<ms.length→iat ms i=mulZ b (iat ns i) F+mulZ ((2^F:Nat) - b) (mulZ (iat gs i) (iat gs i) F) F):
 OnOk b F 3 rs bs ((List.range gs.length).map fun i=>numQ true F (iat gs i)) qs vs ms.length:=fun i hi=>by
 obtain⟨q0,kq⟩:=kept_at hn hi
 have g0:=H i (by omega)
 obtain⟨s1,s2⟩:=g0.small hj
 have sq:BQ (qat qs i) 20:=by rw[←qat_at (by have:=hn.2.1;omega)];exact hq _ (List.getElem_mem _)
 unfold newR newB
 rw[qat_map _ _ _ (by omega)]
 refine ⟨⟨g0.1,q0,s1,s2,numQ_sz (iG i) hF,sq⟩,?_⟩
 rw[hm i hi] at kq
 exact second_on h0 hb g0.2.1 kq
theorem first_all {F j n:Nat} {b:Int} {ns ms vs gs:List Int} {rs bs qs:List Rat} (H:GoodL F j ns rs bs) (hj:j≤3) (hF:F≤40) (h0:0≤b) (ib:In64 b) (iG:AllIn gs) (l1:ns.length=n) (l2:ms.length=n) (l3:gs.length=n) (l4:vs.length=n)
 (hn:NearTo ms vs qs) (hq:∀q∈qs,BQ q 20) (hm:∀i,i<ms.length→iat ms i=mulZ b (iat ns i) F+mulZ ((2^F:Nat) - b) (iat gs i) F):
 OnOk b F 2 rs bs ((List.range n).map fun i=>numQ false F (iat gs i)) qs vs n∧GoodL F (j+1) vs ((List.range n).map (newR b F rs ((List.range n).map fun i=>numQ false F (iat gs i)))) ((List.range n).map (newB b F 2 bs qs)):=by
 have ok:=on_first H hj hF h0 iG (by omega) (by omega) hn hq hm
 rw[l2,l3] at ok
 have gn:=H.next hF ib h0 (h:=2) ⟨by omega,by omega⟩ (by omega) (vs:=vs) (by omega) (by rw[l4];exact ok)
 rw[l4] at gn
 exact⟨ok,gn⟩
theorem second_all {F j n:Nat} {b:Int} {ns ms vs gs:List Int} {rs bs qs:List Rat} (H:GoodL F j ns rs bs) (hj:j≤3) (hF:F≤40) (h0:0≤b) (hb:b≤(2^F:Nat)) (ib:In64 b) (iG:AllIn gs) (l1:ns.length=n) (l2:ms.length=n) (l3:gs.length=n) (l4:vs.length=n)
 (hn:NearTo ms vs qs) (hq:∀q∈qs,BQ q 20) (hm:∀i,i<ms.length→iat ms i=mulZ b (iat ns i) F+mulZ ((2^F:Nat) - b) (mulZ (iat gs i) (iat gs i) F) F):
 OnOk b F 3 rs bs ((List.range n).map fun i=>numQ true F (iat gs i)) qs vs n∧GoodL F (j+1) vs ((List.range n).map (newR b F rs ((List.range n).map fun i=>numQ true F (iat gs i)))) ((List.range n).map (newB b F 3 bs qs)):=by
 have ok:=on_second H hj hF h0 hb iG (by omega) (by omega) hn hq hm
 rw[l2,l3] at ok
 have gn:=H.next hF ib h0 (h:=3) ⟨by omega,by omega⟩ (by omega) (vs:=vs) (by omega) (by rw[l4];exact ok)
 rw[l4] at gn
 exact⟨ok,gn⟩
theorem aStep_all (lr b1 b2 eps wd:Int) (p0 p1:Int) (vW vM vV vG:Value) (Ws Ms Vs Gs:List Int) (w:World) (jW:IsI w vW Ws) (jM:IsI w vM Ms) (jV:IsI w vV Vs) (jG:IsI w vG Gs) (f:Nat) (hf:f≤40) (hr:rightA lr b1 b2 eps wd f=true)
 (ilr:In64 lr) (ib1:In64 b1) (ib2:In64 b2) (ieps:In64 eps) (iwd:In64 wd) (ip0:In64 p0) (ip1:In64 p1) (aW:AllIn Ws) (aM:AllIn Ms) (aV:AllIn Vs) (aG:AllIn Gs) (hn:Ws.length≤1000000):
 Calls Tryz.prog 44 #[.agg #[.int .i64 lr,.int .i64 b1,.int .i64 b2,.int .i64 eps,.int .i64 wd,.bool true],.int .i64 f,.agg #[.int .i64 p0,.int .i64 p1],.agg #[vW,vM,vV,vG]] w fun e w'=>((∃(a b c:Value) (Wn Mn Vn:List Int),e= .returned (.tuple #[.agg #[a,b,c,.slice none 0 0],.int .i64 0])∧ArrI w' a Wn∧ArrI w' b Mn∧ArrI w' c Vn∧Wn.length=Ws.length∧Mn.length=Ws.length∧Vn.length=Ws.length∧Gs.length=Ws.length∧AllIn Wn∧AllIn Mn∧AllIn Vn∧
  (∀i,i<Mn.length→iat Mn i=mulZ b1 (iat Ms i) f+mulZ ((2^f:Nat) - b1) (iat Gs i) f)∧(∀i,i<Vn.length→iat Vn i=mulZ b2 (iat Vs i) f+mulZ ((2^f:Nat) - b2) (mulZ (iat Gs i) (iat Gs i) f) f))∨
  ∃r:Int,r≠0∧e= .returned (.tuple #[.agg #[.slice none 0 0,.slice none 0 0,.slice none 0 0,.slice none 0 0],.int .i64 r]))∧Below w.heap.size w w':=by
 have hr':=of_decide_eq_true hr
 obtain⟨_,_,_,_,⟨h1,_⟩,⟨h2,_⟩,_⟩:=hr'
 refine (aStep_w lr b1 b2 eps wd true p0 p1 vW vM vV vG Ws Ms Vs Gs w jW jM jV jG f hf hr hn (fun i=>placeA lr b1 b2 eps wd true p0 p1 f (iat Ws i) (iat Ms i) (iat Vs i) (iat Gs i)) (fun c1 c2 i _ w=>aplace_true lr b1 b2 eps wd p0 p1 f _ _ _ _ w hf ilr ib1 ib2 ieps iwd h1 h2 (by unfold behB at c1;simp at c1;exact c1.1) (by unfold behB at c2;simp at c2;exact c2.1) ip0 ip1 (aW i) (aM i) (aV i) (aG i))).mono ?_
 rintro e w' ⟨(⟨hs,hp,a,b,c,e1,ra,rb,rc⟩ | ⟨r,hr0,e1⟩),hB⟩
 ·have key:∀i,i<Ws.length→∃x m v,placeA lr b1 b2 eps wd true p0 p1 f (iat Ws i) (iat Ms i) (iat Vs i) (iat Gs i)=some (x,m,v):=fun i hi=>by
   cases h:placeA lr b1 b2 eps wd true p0 p1 f (iat Ws i) (iat Ms i) (iat Vs i) (iat Gs i) with
   | none=>exact absurd h (hp i hi)
   | some t=>exact⟨t.1,t.2.1,t.2.2,rfl⟩
  have aW':∀i,i<Ws.length→In64 (pW (fun i=>placeA lr b1 b2 eps wd true p0 p1 f (iat Ws i) (iat Ms i) (iat Vs i) (iat Gs i)) i):=fun i hi=>by
   obtain⟨x,m,v,e⟩:=key i hi
   unfold pW;simp only[e,Option.getD_some];exact (placeA_mv e).2.1
  have aM':∀i,i<Ws.length→In64 (pM (fun i=>placeA lr b1 b2 eps wd true p0 p1 f (iat Ws i) (iat Ms i) (iat Vs i) (iat Gs i)) i):=fun i hi=>by
   obtain⟨x,m,v,e⟩:=key i hi
   unfold pM;simp only[e,Option.getD_some];exact (placeA_mv e).2.2.1
  have aV':∀i,i<Ws.length→In64 (pV (fun i=>placeA lr b1 b2 eps wd true p0 p1 f (iat Ws i) (iat Ms i) (iat Vs i) (iat Gs i)) i):=fun i hi=>by
   obtain⟨x,m,v,e⟩:=key i hi
   unfold pV;simp only[e,Option.getD_some];exact (placeA_mv e).2.2.2
  have mem:∀(g:Nat→Int),(∀i,i<Ws.length→In64 (g i))→AllIn ((List.range Ws.length).map g):=fun g hg=>AllIn.of_mem fun x hx=>by
   obtain⟨i,hi,rfl⟩:=List.mem_map.1 hx
   exact hg i (List.mem_range.1 hi)
  refine ⟨.inl ⟨a,b,c,_,_,_,e1,ra,rb,rc,by simp,by simp,by simp,hs.2.2,mem _ aW',mem _ aM',mem _ aV',fun i hi=>?_,fun i hi=>?_⟩,hB⟩
  ·rw[List.length_map,List.length_range] at hi
   rw[iat_map _ _ _ hi]
   obtain⟨x,m,v,e⟩:=key i hi
   unfold pM;simp only[e,Option.getD_some];exact (placeA_mv e).1.1
  ·rw[List.length_map,List.length_range] at hi
   rw[iat_map _ _ _ hi]
   obtain⟨x,m,v,e⟩:=key i hi
   unfold pV;simp only[e,Option.getD_some];exact (placeA_mv e).1.2
 ·exact⟨.inr ⟨r,hr0,e1⟩,hB⟩
attribute [local go_sem ↓] Go.wp_at_zero Go.wp_at_succ
theorem flatQ_set:∀(es:List Eq3) (i:Nat) (s:Bool) (p q:Value),i<es.length→flatQ (es.set i (s,p,q))=(((flatQ es).set (i*3) (.bool s)).set (i*3+1) p).set (i*3+2) q
 | [],i,_,_,_,h=>by simp at h
 | e :: r, 0, s, p, q, _ => by
   obtain⟨a,b,c⟩:=e
   simp[flatQ,cellsQ]
 | e :: r, i + 1, s, p, q, h => by
   obtain⟨a,b,c⟩:=e
   have ih:=flatQ_set r i s p q (by simpa using h)
   have e1:flatQ ((a,b,c)::r)= .bool a::b::c::flatQ r:=by simp[flatQ,cellsQ]
   have e2:flatQ (((a,b,c)::r).set (i+1) (s,p,q))= .bool a::b::c::flatQ (r.set i (s,p,q)):=by simp[flatQ,cellsQ]
   rw[e1,e2,ih,show (i+1)*3=i*3+1+1+1 by omega]
   simp only[List.set_cons_succ]
theorem all_set (a:Array Value) (ha:a.all noU=true) (i:Nat) (x:Value) (hx:noU x=true):(a.setIfInBounds i x).all noU=true:=by
 rw[Array.all_eq_true_iff_forall_mem] at *
 intro u hu
 rcases Array.mem_or_eq_of_mem_setIfInBounds hu with h | h
 ·exact ha u h
 ·rw[h];exact hx
theorem NoUB.set {w:World} {g n c:Nat} (h:NoUB w (.slice (some ⟨g,0,none⟩) n c)) (i:Nat) (x:Value) (hx:noU x=true):NoUB (w.setCell ⟨g,i,none⟩ x) (.slice (some ⟨g,0,none⟩) n c):=by
 intro g' cs t fr e1 e2
 obtain rfl:g=g':=by simpa [Value.ownBlock] using e1
 unfold World.setCell at e2
 simp only[Array.getElem?_modify,if_true] at e2
 cases hc:w.heap[g]? with
 | none=>rw[hc] at e2;simp at e2
 | some o =>
   rw[hc] at e2
   cases o with
   | cells cs0 t0 fr0 =>
     simp only[Option.map_some,Option.some.injEq,Obj.cells.injEq] at e2
     obtain⟨rfl,rfl,rfl⟩:=e2
     exact all_set _ (h g cs0 _ _ rfl hc) _ _ hx
   | _=>simp at e2
theorem OwnQs.put {w:World} {base i:Nat} {v:Value} {rs:List Rat} {s:Bool} {A D:Option Addr} {L C M E:Nat} {r:Rat} (h:OwnQs w base v rs) (hi:i<rs.length)
 (hq:IsQ w (.agg #[.bool s,.slice A L C,.slice D M E]) r):
 ∃g c,v= .slice (some ⟨g,0,none⟩) rs.length c∧base≤g∧g<w.heap.size∧(∀j,w.frozen? ⟨g,j,none⟩=false)∧(∀j,j<3→∃u,w.cell? ⟨g,i*3+j,none⟩=some u∧u.oneCell'=true)∧
  ∃W,W=((w.setCell ⟨g,i*3,none⟩ (.bool s)).setCell ⟨g,i*3+1,none⟩ (.slice A L C)).setCell ⟨g,i*3+2,none⟩ (.slice D M E)∧OwnQs W base v (rs.set i r)∧w.grownBy W (some g)∧(∀u l,IsL w u l→IsL W u l):=by
 obtain⟨es,k1,k2,k3⟩:=h
 have hl:=k1.1
 obtain⟨g,c,rfl,hb,hg⟩:∃g c,v= .slice (some ⟨g,0,none⟩) rs.length c∧base≤g∧g<w.heap.size:=by
  rcases k2.2 with ⟨rfl,hn⟩ | ⟨g,cap,cur,rfl,hb,hg,_⟩
  ·omega
  ·exact⟨g,cap,rfl,hb,(Array.getElem?_eq_some_iff.1 hg).1⟩
 have hfl:=flatQ_len es
 refine ⟨g,c,rfl,hb,hg,fun j=>k2.frozenAt j,fun j hj=>?_,_,rfl,?_⟩
 ·have hlt:i*3+j<(flatQ es).length:=by omega
  refine ⟨(flatQ es)[i*3+j],?_,(k1.cell _ (List.getElem_mem hlt)).1⟩
  rw[k2.cellAt _ (by omega)]
  exact List.getElem?_eq_getElem hlt
 obtain⟨o1,g1⟩:=k2.stored (i*3) (.bool s)
 obtain⟨o2,g2⟩:=o1.stored (i*3+1) (.slice A L C)
 obtain⟨o3,g3⟩:=o2.stored (i*3+2) (.slice D M E)
 have n3:=((k3.set (i*3) (.bool s) rfl).set (i*3+1) (.slice A L C) rfl).set (i*3+2) (.slice D M E) rfl
 have hgr:=(g1.trans g2).trans g3
 have hk:∀u l,IsL w u l→IsL (((w.setCell ⟨g,i*3,none⟩ (.bool s)).setCell ⟨g,i*3+1,none⟩ (.slice A L C)).setCell ⟨g,i*3+2,none⟩ (.slice D M E)) u l:=fun u l hu=>IsL.noUB hu k3 k2 hgr
 refine ⟨⟨es.set i (s,.slice A L C,.slice D M E),?_,?_,n3⟩,hgr,hk⟩
 ·refine ⟨by simp[hl],fun j e q h1 h2=>?_⟩
  by_cases hj:i=j
  ·subst hj
   rw[List.getElem?_set_self (by omega)] at h1 h2
   cases h1;cases h2
   exact hq.filled hk
  ·rw[List.getElem?_set_ne hj] at h1 h2
   exact (k1.2 j e q h1 h2).filled hk
 ·rw[flatQ_set es i s _ _ (by omega),List.length_set]
  exact o3
theorem noughts_any (n:Nat) (hn:n≤1000) (w:World):
 Calls Tryz.prog 42 #[.int .i64 n] w fun e w'=>∃v',e= .returned v'∧OwnQs w' w.heap.size v' (List.replicate n 0)∧Below w.heap.size w w':=by
 obtain⟨i0,hi,hz0,hz1,hz2⟩:=info_parts info_rat
 obtain⟨X,hX⟩:∃X,X=w.heap.size:=⟨_,rfl⟩
 obtain⟨W1,hW1,hO,hB1⟩:=box1 w 32 #[]
 rw[←hX] at hO hB1
 have own0:OwnQs W1 X (.slice (some ⟨X,0,none⟩) 0 0) []:=by
  refine ⟨[],OkQ.nil _,?_,fun g cs t fr e1 e2=>?_⟩
  ·have:=World.ownsRow_lit w #[] 0 (base:=X) (e:=32) (size:=3) (by omega) (by unfold maxLen;omega) rfl
   rw[←hX,←hW1] at this;exact this
  ·have e3:g=X:=by simpa [Value.ownBlock] using e1.symm
   subst e3
   have hO':W1.heap[g]?=_:=hO
   rw[hO'] at e2;cases e2;simp
 have hO0:=fun w=>rqof_any 0 (by omega) (by omega) w
 rw[show ((0:Int):Rat)=0 from rfl] at hO0
 have hXs:X≤W1.heap.size:=by have:=hO.lt;omega
 have HW:=Lib.hid (And.intro hW1 hX)
 rw[←hX]
 clear hW1 hO hX
 go_enter Tryz.func42,Tryz.ntmps42
 go_upto_region 2 with fail
 rw[←HW.out.1,←HW.out.2]
 go_wp2_with fail
 go_loopw [4,3] (fun i o wr=>∃(j:Nat) (vo:Value),vo=o∧i= .int .i64 j∧j≤n∧OwnQs wr X vo (List.replicate j 0)∧Below X w wr∧X≤wr.heap.size) (fun i _ _=>n - (intOf i).toNat)
 case atStart=>exact⟨0,_,rfl,rfl,by omega,own0,hB1,hXs⟩
 case round=>
  clear own0 hB1 hXs
  obtain⟨j,vo,rfl,rfl,hj,ho,bl,hXs⟩:=hrel
  by_cases hlt:j<n
  ·have j0:(j:Int)<(n:Int):=by omega
   go_wp2_with fail
   refine (hO0 _).mono ?_
   rintro e w1 ⟨v4,rfl,q4,b1⟩
   obtain⟨s4,A4,L4,C4,D4,M4,E4,rfl,q4⟩:=q4.opn
   replace ho:=ho.b b1
   replace bl:=bl.trans (b1.mono hXs)
   replace hXs:=Nat.le_trans hXs b1.size
   obtain⟨es,k1,k2,k3⟩:=ho
   have HRR:=Lib.hid (show List.replicate (j+1) (0:Rat)=List.replicate j 0++[0] from List.replicate_succ')
   have HL:=Lib.hid (show j=(List.replicate j (0:Rat)).length from List.length_replicate.symm)
   generalize List.replicate j (0:Rat)=rl at *
   rw[←HL.out] at k2
   obtain⟨A9,c9,rfl,_,_,_⟩:=own3_form k2
   have hnoA:NoUB (w1.alloc (.cells #[.bool s4,.slice A4 L4 C4,.slice D4 M4 E4] 32)) (.slice A9 j c9):=k3.below k2 ((Below.refl _ _).alloc (Nat.le_refl _) _)
   have hkA:OkQ (w1.alloc (.cells #[.bool s4,.slice A4 L4 C4,.slice D4 M4 E4] 32)) es rl:=k1.below ((Below.refl _ _).alloc (Nat.le_refl _) _)
   have hqA:IsQ (w1.alloc (.cells #[.bool s4,.slice A4 L4 C4,.slice D4 M4 E4] 32)) (.agg #[.bool s4,.slice A4 L4 C4,.slice D4 M4 E4]) 0:=q4.below ((Below.refl _ _).alloc (Nat.le_refl _) _)
   clear b1 j0
   go_wp2_with (at_builtin;go_must (refine wpList_append_noU _ rfl _ _ 40 rfl X 32 i0 _ 3 56 Tryz.underlying40 hi hz0 hz1 hz2 rfl (by omega) (by simp[Value.cells,noU]) _ j (flatQ es) rfl (k2.alloc _) hnoA ⟨w1.heap.size,0,none⟩ 1 1 (cellsQ (s4,.slice A4 L4 C4,.slice D4 M4 E4)) rfl rfl (lit3_cells _ _ _ _ _) (by simp[cellsQ,Value.oneCell']) (by simp[cellsQ,noU]) (by omega) (by unfold maxLen;omega) (by omega) (by simp;omega) ?_;intro v' w2 hown' hgrow hno' hat;obtain⟨A8,c8,ev8,_,_,_⟩:=own3_form hown';subst ev8))
   have hpush:OwnQs w2 X (.slice A8 (j+1) c8) (rl++[0]):=OwnQs.push (e:=(s4,.slice A4 L4 C4,.slice D4 M4 E4)) hkA hnoA (by rw[←HL.out];exact k2.alloc _) hqA (by rw[←HL.out];exact hown') hgrow hno'
   have hBw:Below X w w2:=bl.trans (((Below.refl X w1).alloc (by omega) _).grown hgrow (by simp;omega) (fun k e=>by have:=(k2.lt k e).1;omega))
   refine ⟨⟨j+1,_,rfl,congrArg (Value.int .i64) (by omega),by omega,by rw[HRR.out];exact hpush,hBw,by have:=hgrow.size;simp at this;omega⟩,by simp[intOf];omega⟩
  ·obtain rfl:j=n:=by omega
   go_wp2
   go_ret
   exact⟨_,rfl,ho,bl⟩
theorem kept_no (k z m o:Int) (A:Option Addr) (C:Nat) (l:List Int) (w:World) (h:IsI w (.slice A l.length C) l) (hi:∀x∈l,I64 x) (he:ofE k z m o l=1):
 Calls Tryz.prog 45 #[.agg #[.int .i64 k,.int .i64 z,.int .i64 m,.int .i64 o],.slice A l.length C] w fun e w'=>e= .returned (.tuple #[.slice none 0 0,.slice none 0 0,.bool false])∧Below w.heap.size w w':=by
 have hO:=fun w h=>tof_any k z m o (.slice A l.length C) l w h hi
 have e2:ofS k z m o l=(0,0,0,0,0,[]):=if_neg (by rw[he];decide)
 rw[he,e2] at hO
 clear he e2
 obtain⟨g,hg⟩:∃g,g=w.heap.size:=⟨_,rfl⟩
 obtain⟨Y0,eY0,hKp,bY0⟩:=box1 w 23 #[.int .i64 k,.int .i64 z,.int .i64 m,.int .i64 o]
 have zY0:Y0.heap.size=g+1:=by rw[eY0,World.size_alloc,←hg]
 rw[←hg] at hKp
 replace h:=h.b bY0
 have hB:=bY0
 have hgw:w.heap.size≤g:=by omega
 have EY:=Lib.hid (And.intro hg eY0)
 clear hg eY0 zY0
 obtain⟨c0,c1,c2,c3⟩:=hKp.q4
 go_enter Tryz.func45,Tryz.ntmps45
 go_wp2_with fail
 rw[←EY.out.2,←EY.out.1]
 refine (hO _ h).mono ?_
 rintro e w2 ⟨s,rfl,⟨x,rfl,hbs⟩,b2⟩
 replace h:=h.b b2
 replace hKp:=hKp.b b2
 replace hB:=bOn hB b2
 clear c0 c1 c2 c3
 obtain⟨c4,c5,c6,c7⟩:=hKp.q4
 obtain⟨A1,C1,rfl,_,_⟩:=id hbs.len
 obtain⟨V4,eV,hS,bV4⟩:=box1 w2 26 #[.int .i64 0,.int .i64 0,.int .i64 0,.int .i64 0,.int .i64 0,.slice A1 0 C1]
 obtain⟨X4,eX⟩:∃X,X=w2.heap.size:=⟨_,rfl⟩
 rw[←eX] at hS
 have lX4:w.heap.size≤X4:=by rw[eX];exact hB.size
 have dX4_hKp:g≠X4:=by have:=hKp.lt;omega
 have EV4:=Lib.hid (And.intro eV eX)
 clear eV eX
 go_upto_region 2 with fail
 rw[←EV4.out.1,←EV4.out.2]
 replace h:=h.b bV4
 replace hKp:=hKp.b bV4
 replace hbs:=hbs.b bV4
 replace hB:=bOn hB bV4
 clear c4 c5 c6 c7
 obtain⟨c8,c9,c10,c11⟩:=hKp.q4
 obtain⟨c12,c13,c14,c15,c16,c17⟩:=hS.q6
 go_wp2
 exact bodyPost_ret (v:= .tuple #[.slice none 0 0,.slice none 0 0,.bool false]) (by simp[results,Tryz.results45,go_sem]) rfl ⟨rfl,hB⟩
theorem kept_yes (k z m o:Int) (A:Option Addr) (C:Nat) (l:List Int) (w:World) (h:IsI w (.slice A l.length C) l) (hi:∀x∈l,I64 x) (hn:l.length≤4000) (he:ofE k z m o l=0):
 Calls Tryz.prog 45 #[.agg #[.int .i64 k,.int .i64 z,.int .i64 m,.int .i64 o],.slice A l.length C] w fun e w'=>∃vm vq,e= .returned (.tuple #[vm,vq,.bool true])∧w'.ownsRow w.heap.size 2 1 vm (loadS (bksTo k z m o l (partN z.toNat l.length))).length (is (loadS (bksTo k z m o l (partN z.toNat l.length))))∧OwnQs w' w.heap.size vq (quantS (bksTo k z m o l (partN z.toNat l.length)))∧Below w.heap.size w w':=by
 have hO:=fun w h=>tof_any k z m o (.slice A l.length C) l w h hi
 have e2:ofS k z m o l=(k,z,m,o,(l.length:Int),bksTo k z m o l (partN z.toNat l.length)):=if_pos he
 rw[he,e2] at hO
 obtain⟨hfb,hlb,hld⟩:=few_of hi he
 have hnear:=near_all he
 generalize bksTo k z m o l (partN z.toNat l.length)=bs at *
 have hqn:=quantS_len bs
 have hq1:=hnear.2.1
 have hm1:=hnear.1
 have hQu:∀v w0,IsSt w0 v (k,z,m,o,(l.length:Int),bs)→w.heap.size≤w0.heap.size→Calls Tryz.prog 15 #[v] w0 fun e w'=>∃v',e= .returned v'∧OwnQs w' w.heap.size v' (quantS bs)∧Below w0.heap.size w0 w':=fun v w0 h hz=>
  (quant_own v (k,z,m,o,(l.length:Int),bs) w0 h hfb (by simp only;omega) hld).mono fun _ _ ⟨v',e,ho,hb⟩=>⟨v',e,ho.lower hz,hb⟩
 have hLd:∀v w0,IsSt w0 v (k,z,m,o,(l.length:Int),bs)→w.heap.size≤w0.heap.size→Calls Tryz.prog 38 #[v] w0 fun e w'=>∃v',e= .returned v'∧w'.ownsRow w.heap.size 2 1 v' (loadS bs).length (is (loadS bs))∧Below w0.heap.size w0 w':=fun v w0 h hz=>
  (tload_own v (k,z,m,o,(l.length:Int),bs) w0 h hfb hld).mono fun _ _ ⟨v',e,ho,hb⟩=>⟨v',e,own_lower ho hz,hb⟩
 generalize quantS bs=qs at *
 generalize loadS bs=ms at *
 rw[hm1] at hLd ⊢
 clear he e2 hfb hlb hld hqn hnear
 obtain⟨g,hg⟩:∃g,g=w.heap.size:=⟨_,rfl⟩
 obtain⟨Y0,eY0,hKp,bY0⟩:=box1 w 23 #[.int .i64 k,.int .i64 z,.int .i64 m,.int .i64 o]
 have zY0:Y0.heap.size=g+1:=by rw[eY0,World.size_alloc,←hg]
 rw[←hg] at hKp
 replace h:=h.b bY0
 have hB:=bY0
 have hgw:w.heap.size≤g:=by omega
 have EY:=Lib.hid (And.intro hg eY0)
 clear hg eY0 zY0
 obtain⟨c0,c1,c2,c3⟩:=hKp.q4
 go_enter Tryz.func45,Tryz.ntmps45
 go_wp2_with fail
 rw[←EY.out.2,←EY.out.1]
 refine (hO _ h).mono ?_
 rintro e w2 ⟨s,rfl,⟨x,rfl,hbs⟩,b2⟩
 replace h:=h.b b2
 replace hKp:=hKp.b b2
 replace hB:=bOn hB b2
 clear c0 c1 c2 c3
 obtain⟨c4,c5,c6,c7⟩:=hKp.q4
 simp only at hbs
 obtain⟨A1,C1,rfl,_,_⟩:=id hbs.len
 have hst:IsSt w2 (.agg #[.int .i64 k,.int .i64 z,.int .i64 m,.int .i64 o,.int .i64 (l.length:Int),.slice A1 bs.length C1]) (k,z,m,o,(l.length:Int),bs):=⟨_,rfl,hbs⟩
 obtain⟨V4,eV,hS,bV4⟩:=box1 w2 26 #[.int .i64 k,.int .i64 z,.int .i64 m,.int .i64 o,.int .i64 (l.length:Int),.slice A1 bs.length C1]
 obtain⟨X4,eX⟩:∃X,X=w2.heap.size:=⟨_,rfl⟩
 rw[←eX] at hS
 have lX4:w.heap.size≤X4:=by rw[eX];exact hB.size
 have dX4_hKp:g≠X4:=by have:=hKp.lt;omega
 have EV4:=Lib.hid (And.intro eV eX)
 clear eV eX
 go_upto_region 2 with fail
 rw[←EV4.out.1,←EV4.out.2]
 replace h:=h.b bV4
 replace hKp:=hKp.b bV4
 replace hst:=hst.b bV4
 replace hB:=bOn hB bV4
 clear c4 c5 c6 c7
 obtain⟨c8,c9,c10,c11⟩:=hKp.q4
 obtain⟨c12,c13,c14,c15,c16,c17⟩:=hS.q6
 go_upto_region 4 with fail
 replace hB:=hB.drew
 replace h:=h.b (bdrew _)
 replace hKp:=hKp.drew
 replace hst:=hst.b (bdrew _)
 replace hS:=hS.drew
 clear c8 c9 c10 c11 c12 c13 c14 c15 c16 c17
 refine wp_region_noPanic ?_
 refine wp_region_held_drew (S:=fun w'=>w'.cell? ⟨X4,0,none⟩=some (.int .i64 k)∧w'.cell? ⟨X4,1,none⟩=some (.int .i64 z)∧w'.cell? ⟨X4,2,none⟩=some (.int .i64 m)∧w'.cell? ⟨X4,3,none⟩=some (.int .i64 o)∧w'.cell? ⟨X4,4,none⟩=some (.int .i64 (l.length:Int))∧w'.cell? ⟨X4,5,none⟩=some (.slice A1 bs.length C1)) (by kernel_rfl) ?_ (fun hHeld=>?_)
 ·exact⟨hS.cell 0,hS.cell 1,hS.cell 2,hS.cell 3,hS.cell 4,hS.cell 5⟩
 obtain⟨wd4_1,hwd⟩:∃q,q=V4.drew:=⟨_,rfl⟩
 rw[←hwd] at hB h hKp hst hS hHeld ⊢
 clear hwd
 refine tkA 0 rfl ?_
 refine tkA 2 rfl ?_
 try simp only[Act.put,lay]
 refine rd1 1 rfl fun K hK=>?_
 go_simp
 refine (hLd _ _ hst hB.size).mono ?_
 rintro e u4_1 ⟨v5,rfl,h5,b4_1⟩
 replace h:=h.b b4_1
 replace hKp:=hKp.b b4_1
 replace hst:=hst.b b4_1
 replace hS:=hS.b b4_1
 replace hB:=bOn hB b4_1
 obtain⟨A5,C5,rfl,_,_,_⟩:=own_form h5
 go_wp2_with fail
 refine hK.out _ _ ?_ fun hHeld=>?_
 ·exact⟨hS.cell 0,hS.cell 1,hS.cell 2,hS.cell 3,hS.cell 4,hS.cell 5⟩
 clear hK K
 try simp only[Act.put,lay]
 refine rd1 3 rfl fun K hK=>?_
 go_simp
 refine (hQu _ _ hst hB.size).mono ?_
 rintro e u4_2 ⟨v6,rfl,h6,b4_2⟩
 replace h:=h.b b4_2
 replace hKp:=hKp.b b4_2
 replace hst:=hst.b b4_2
 replace hS:=hS.b b4_2
 replace hB:=bOn hB b4_2
 replace h5:=own_below h5 b4_2
 obtain⟨A6,C6,e6,_,_⟩:=id h6.is.len
 rw[hq1] at e6
 subst e6
 go_wp2_with fail
 refine hK.out _ _ ?_ fun hHeld=>?_
 ·exact⟨hS.cell 0,hS.cell 1,hS.cell 2,hS.cell 3,hS.cell 4,hS.cell 5⟩
 clear hK K
 refine tkA 4 rfl ?_
 refine tkA 5 rfl ?_
 try simp only[Act.put,lay]
 try dsimp only
 try simp only[Act.put,lay]
 refine wpAnyH_done (by kernel_rfl) ?_ _
 refine NoPanic.normal ?_
 skip
 obtain⟨c18,c19,c20,c21⟩:=hKp.q4
 obtain⟨c22,c23,c24,c25,c26,c27⟩:=hS.q6
 go_wp2
 exact bodyPost_ret (v:= .tuple #[.slice A5 l.length C5,.slice A6 l.length C6,.bool true]) (by simp[results,Tryz.results45,go_sem]) rfl ⟨_,_,rfl,h5,h6,hB⟩
end Go.Proofs.YtdnjdglekifhpaaGreat
namespace Go.Proofs.YtdnjdglekifhpaaGreat
open Go.RowKit
def TypI (w:World) (v:Value):Prop:=∀g,v.ownBlock=some g→∃cs fr,w.heap[g]?=some (.cells cs 2 fr)
section
variable {w w' W:World} {v u:Value} {l:List Int} {g:Nat}
theorem TypI.nil (w:World):TypI w (.slice none 0 0):=fun g e=>by simp[Value.ownBlock] at e
end
end Go.Proofs.YtdnjdglekifhpaaGreat
namespace Go.Proofs.YtdnjdglekifhpaaGreat
open Go.ChangeShapes Go.WideShapes Go.ChangeAt Go.RowKit
section
variable {H:Type} {enc:TypeId×Value→H} {W:World}
theorem cells_i64q:Tryz.prog.cellsOf 2=1:=by kernel_rfl
theorem okWide_arr {P:Program} {w:World} {r:Reach} {t e:TypeId} {n b0:Nat} {v:Value} (ht:P.underlying t=some (.array n e)) (h:Value.okWide P w r b0 t v):∃cs,v= .agg cs∧cs.size=P.cellsOf t:=by
 simp only[Value.okWide,ht] at h
 obtain⟨cs,h1,h2,_⟩:=h
 exact⟨cs,h1,h2⟩
end
end Go.Proofs.YtdnjdglekifhpaaGreat
namespace Go.Proofs.YtdnjdglekifhpaaGreat
open Go.ChangeShapes Go.WideShapes Go.ChangeAt Go.RowKit Go.Joins Go.Deep
section
variable {H:Type} {enc:TypeId×Value→H} {W:World}
theorem cells_pair:Tryz.prog.cellsOf 34=2:=by kernel_rfl
theorem cells_boolm:Tryz.prog.cellsOf 4=1:=by kernel_rfl
theorem open_pair {fuel:Nat} {x y:Value} {d:DataW H×List MemPlace} (h:DataW.trod enc Tryz.prog W 0 (fun _=>true) true fuel 34 [x,y]=some d):
 ∃p:Int×Int,x= .int .i64 p.1∧y= .int .i64 p.2∧I64 p.1∧I64 p.2:=by
 obtain⟨xs,m,_,hxp,_,hl,h1⟩:=DataW.trod_array Tryz.underlying34 h
 match xs,hl with
 | [y0, y1], _ =>
   have a0:DataW.trod enc Tryz.prog W 0 (fun _=>true) true m 2 (([x,y].drop (0*Tryz.prog.cellsOf 2)).take (Tryz.prog.cellsOf 2))=some y0:=h1 0 (by omega)
   have a1:DataW.trod enc Tryz.prog W 0 (fun _=>true) true m 2 (([x,y].drop (1*Tryz.prog.cellsOf 2)).take (Tryz.prog.cellsOf 2))=some y1:=h1 1 (by omega)
   rw[cells_i64q] at a0 a1
   obtain⟨n,e1,_,w1⟩:=DataW.trod_int Tryz.underlying2 a0
   obtain⟨n',e2,_,w2⟩:=DataW.trod_int Tryz.underlying2 a1
   simp at e1 e2
   subst e1 e2
   exact⟨(n,n'),rfl,rfl,wf_I64 w1,wf_I64 w2⟩
end
end Go.Proofs.YtdnjdglekifhpaaGreat
namespace Go.Proofs.YtdnjdglekifhpaaGreat
open Go.RowKit
attribute [local go_sem ↓] Go.wp_at_zero Go.wp_at_succ
theorem fillLast {w:World} {R:Nat} {t:TypeId} {a b c d:Value} (hR:Blk w R t #[a,b,c,d]) (x:Value) (hcs:(#[a,b,c,d]:Array Value).all noU=true):∃W,W=w.setCell ⟨R,3,none⟩ x∧Filled w W R t #[a,b,c,x]∧(∀k,k≠R→W.heap[k]?=w.heap[k]?)∧w.heap.size≤W.heap.size:=
 ⟨_,rfl,⟨by simpa using hR.set_ 3 x,fun v l h=>h.keepBlk hR hcs (fun k hk=>Below.heap_setCell w ⟨R,3,none⟩ x k hk) (by simp[World.setCell]),fun g t' cs h hne=>h.far (p:=⟨R,3,none⟩) hne x,fun B w0 hBR hB=>hB.setCell (p:=⟨R,3,none⟩) hBR x⟩,fun k hk=>Below.heap_setCell w ⟨R,3,none⟩ x k hk,by simp[World.setCell]⟩
theorem fillFour {w:World} {R:Nat} {t:TypeId} {a b c d:Value} (hR:Blk w R t #[a,b,c,d]) (x y z u:Value) (hcs:(#[a,b,c,d]:Array Value).all noU=true):∃W,W=(((w.setCell ⟨R,0,none⟩ x).setCell ⟨R,1,none⟩ y).setCell ⟨R,2,none⟩ z).setCell ⟨R,3,none⟩ u∧Filled w W R t #[x,y,z,u]∧(∀k,k≠R→W.heap[k]?=w.heap[k]?)∧w.heap.size≤W.heap.size:=by
 have hk:∀k,k≠R→((((w.setCell ⟨R,0,none⟩ x).setCell ⟨R,1,none⟩ y).setCell ⟨R,2,none⟩ z).setCell ⟨R,3,none⟩ u).heap[k]?=w.heap[k]?:=fun k hk=>(Below.heap_setCell _ ⟨R,3,none⟩ u k hk).trans ((Below.heap_setCell _ ⟨R,2,none⟩ z k hk).trans ((Below.heap_setCell _ ⟨R,1,none⟩ y k hk).trans (Below.heap_setCell w ⟨R,0,none⟩ x k hk)))
 exact⟨_,rfl,⟨by simpa using (((hR.set_ 0 x).set_ 1 y).set_ 2 z).set_ 3 u,fun v l h=>h.keepBlk hR hcs hk (by simp[World.setCell]),fun g t' cs h hne=>(((h.far (p:=⟨R,0,none⟩) hne x).far (p:=⟨R,1,none⟩) hne y).far (p:=⟨R,2,none⟩) hne z).far (p:=⟨R,3,none⟩) hne u,fun B w0 hBR hB=>(((hB.setCell (p:=⟨R,0,none⟩) hBR x).setCell (p:=⟨R,1,none⟩) hBR y).setCell (p:=⟨R,2,none⟩) hBR z).setCell (p:=⟨R,3,none⟩) hBR u⟩,hk,by simp[World.setCell]⟩
theorem ofE_or {k z m o:Int} {l:List Int} (h:l.length≤4096):ofE k z m o l=0∨ofE k z m o l=1:=ofE_cases h
theorem OwnQs.grow {w W:World} {base:Nat} {v:Value} {rs:List Rat} {row:Option Nat} (h:OwnQs w base v rs) (hg:w.grownBy W row) (hR:∀x,v.ownBlock=some x→row≠some x) (kz:∀v l,IsL w v l→IsL W v l):OwnQs W base v rs:=by
 obtain⟨es,h1,h2,h3⟩:=h
 rcases h2.2 with ⟨rfl,e⟩ | ⟨g,cap,cur,rfl,hb,hh,hr⟩
 ·exact⟨es,h1.kept (fun v n hn=>kz v _ hn),⟨h2.1,.inl ⟨rfl,e⟩⟩,fun g cs t fr e1 _=>by simp[Value.ownBlock] at e1⟩
 ·have hW:W.heap[g]?=_:=(hg.block g (Array.getElem?_eq_some_iff.1 hh).1 (Ne.symm (hR g rfl))).trans hh
  refine ⟨es,h1.kept (fun v n hn=>kz v _ hn),⟨h2.1,.inr ⟨g,cap,cur,rfl,hb,hW,hr⟩⟩,fun g' cs t fr e1 e2=>h3 g' cs t fr e1 ?_⟩
  have e3:g'=g:=by simpa [Value.ownBlock] using e1.symm
  subst e3
  rw[hW] at e2;rw[hh];exact e2
theorem IsQs.at2 {w:World} {A:Option Addr} {n c i:Nat} {rs:List Rat} (h:IsQs w (.slice A n c) rs) (hi:i<rs.length):∃(ad:Addr) (s:Bool) (B:Option Addr) (L C:Nat) (D:Option Addr) (M E:Nat),A=some ad∧
 w.cell? (ad.add (i*3))=some (.bool s)∧w.cell? ⟨(ad.add (i*3)).block,(ad.add (i*3)).off+1,none⟩=some (.slice B L C)∧w.cell? ⟨(ad.add (i*3)).block,(ad.add (i*3)).off+2,none⟩=some (.slice D M E)∧IsQ w (.agg #[.bool s,.slice B L C,.slice D M E]) (qat rs i):=by
 obtain⟨ad,c',s,p,q,e,_,x0,x1,x2,hq⟩:=h.at_ hi
 rw[qat_at hi] at hq
 obtain⟨s1,A1,L1,C1,D1,M1,E1,e3,q1⟩:=hq.opn
 injection e3 with e3
 simp only[Array.mk.injEq,List.cons.injEq,and_true] at e3
 obtain⟨e4,rfl,rfl⟩:=e3
 injection e4 with e4
 subst e4
 obtain⟨rfl,_,_⟩:=Value.slice.inj e
 exact⟨ad,_,_,_,_,_,_,_,rfl,x0,x1,x2,q1⟩
theorem IsQs.len2 {w:World} {v:Value} {rs:List Rat} {n:Nat} (h:IsQs w v rs) (e:rs.length=n):∃A c,v= .slice A n c:=by
 obtain⟨A,c,rfl,_⟩:=h.len
 exact⟨A,c,by rw[e]⟩
theorem OwnQs.len2 {w:World} {B:Nat} {v:Value} {rs:List Rat} {n:Nat} (h:OwnQs w B v rs) (e:rs.length=n):∃A c,v= .slice A n c:=h.is.len2 e
theorem bne_self_int (n:Int):(n != n)=false:=by simp
theorem fillL2 {w:World} {R:Nat} {t:TypeId} {a b c d:Value} (hR:Blk w R t #[a,b,c,d]) (x:Value) (hcs:(#[a,b,c,d]:Array Value).all noU=true):∃W,W=w.setCell ⟨R,2,none⟩ x∧Filled w W R t #[a,b,x,d]:=
 ⟨_,rfl,by simpa using hR.set_ 2 x,fun v l h=>h.keepBlk hR hcs (fun k hk=>Below.heap_setCell w ⟨R,2,none⟩ x k hk) (by simp[World.setCell]),fun g t' cs h hne=>h.far (p:=⟨R,2,none⟩) hne x,fun B w0 hBR hB=>hB.setCell (p:=⟨R,2,none⟩) hBR x⟩
theorem fillL3 {w:World} {R:Nat} {t:TypeId} {a b c d:Value} (hR:Blk w R t #[a,b,c,d]) (x:Value) (hcs:(#[a,b,c,d]:Array Value).all noU=true):∃W,W=w.setCell ⟨R,3,none⟩ x∧Filled w W R t #[a,b,c,x]:=
 ⟨_,rfl,by simpa using hR.set_ 3 x,fun v l h=>h.keepBlk hR hcs (fun k hk=>Below.heap_setCell w ⟨R,3,none⟩ x k hk) (by simp[World.setCell]),fun g t' cs h hne=>h.far (p:=⟨R,3,none⟩) hne x,fun B w0 hBR hB=>hB.setCell (p:=⟨R,3,none⟩) hBR x⟩
theorem on_any (beta h:Int) (f:Nat) (vr vb vg vq vn:Value) (rs bs gs qs:List Rat) (ns:List Int) (n:Nat) (w:World) (hf:f≤40) (ib:In64 beta) (b0:0≤beta) (b1:beta≤((2^f:Nat):Int)) (hh:0≤h) (h3:h≤3) (hr:IsQs w vr rs) (hb:IsQs w vb bs) (hg:IsQs w vg gs) (hq:IsQs w vq qs) (hn:IsI w vn ns) (i64:AllIn ns)
 (l0:ns.length=n) (l1:rs.length=n) (l2:bs.length=n) (l3:gs.length=n) (l4:qs.length=n) (hl:n≤1000) (ok:OnOk beta f h rs bs gs qs ns n):
 Calls Tryz.prog 46 #[.agg #[.int .i64 beta,.int .i64 f,vr,vb],vg,vn,vq,.int .i64 h] w fun e w'=>∃v1 v2,e= .returned (.tuple #[.agg #[.int .i64 beta,.int .i64 f,v1,v2],.bool true])∧OwnQs w' w.heap.size v1 ((List.range n).map (newR beta f rs gs))∧OwnQs w' w.heap.size v2 ((List.range n).map (newB beta f h bs qs))∧Below w.heap.size w w':=by
 obtain⟨i0,hi0,hz0,hz1,hz2⟩:=info_parts info_rat
 obtain⟨Ar,Cr,rfl⟩:=hr.len2 l1
 obtain⟨Ab,Cb,rfl⟩:=hb.len2 l2
 obtain⟨Ag,Cg,rfl⟩:=hg.len2 l3
 obtain⟨Aq,Cq,rfl⟩:=hq.len2 l4
 obtain⟨An,Cn,rfl,hc1,hc2,hnr⟩:=hn
 rw[l0] at *
 have ih:In64 h:=⟨by omega,by omega⟩
 have hN:=fun (i:Int)=>bne_self_int i
 obtain⟨R,hR⟩:∃R:Nat→Rat,R=newR beta f rs gs:=⟨_,rfl⟩
 obtain⟨N,hNw⟩:∃N:Nat→Rat,N=newB beta f h bs qs:=⟨_,rfl⟩
 have HR:=Lib.hid hR
 have HN:=Lib.hid hNw
 have OK:=Lib.hid ok
 rw[←hR,←hNw]
 clear hR hNw ok
 obtain⟨g,Y1,h5,h10,hB,hgw,EY⟩:=boxes2 w 90 #[.int .i64 beta,.int .i64 f,.slice Ar n Cr,.slice Ab n Cb] 90 #[.int .i64 0,.int .i64 0,.slice none 0 0,.slice none 0 0]
 obtain⟨c0,c1,c2,c3⟩:=h5.q4
 obtain⟨c4,c5,c6,c7⟩:=h10.q4
 go_enter Tryz.func46,Tryz.ntmps46
 go_upto_region 1 with fail
 rw[←EY.out.2,←EY.out.1]
 obtain⟨X22,V22,h12,bV22,lX22,nX22,EV22⟩:=boxL hB 90 #[.int .i64 beta,.int .i64 f,.slice none 0 0,.slice none 0 0]
 have dX22_h5:=nX22 _ h5.lt
 have dX22_h10:=nX22 _ h10.lt
 clear nX22
 go_upto_region 2 with fail
 rw[←EV22.out.1,←EV22.out.2]
 replace h5:=h5.b bV22
 replace h10:=h10.b bV22
 replace hB:=bOn hB bV22
 clear c0 c1 c2 c3 c4 c5 c6 c7
 obtain⟨c8,c9,c10,c11⟩:=h5.q4
 obtain⟨c12,c13,c14,c15⟩:=h10.q4
 obtain⟨c16,c17,c18,c19⟩:=h12.q4
 obtain⟨S,hS⟩:∃S,S=V22.heap.size:=⟨_,rfl⟩
 have sS:X22<S:=by rw[hS];exact h12.lt
 have sg:g+1<S:=by rw[hS];exact h10.lt
 have sw:w.heap.size≤S:=by rw[hS];exact hB.size
 have hSS:S≤V22.heap.size:=Nat.le_of_eq hS
 have own0:∀W,OwnQs W S (.slice none 0 0) []:=fun W=>OwnQs.nil W S
 clear hS
 go_wp2_with fail
 go_loopw [13] (fun iV wr=>∃(j:Nat) (Ac Aa:Option Addr) (Cc Ca:Nat),iV= .int .i64 j∧j≤n∧Blk wr g 90 #[.int .i64 beta,.int .i64 f,.slice Ar n Cr,.slice Ab n Cb]∧Blk wr (g+1) 90 #[.int .i64 0,.int .i64 0,.slice none 0 0,.slice none 0 0]∧Blk wr X22 90 #[.int .i64 beta,.int .i64 f,.slice Ac j Cc,.slice Aa j Ca]∧OwnQs wr S (.slice Ac j Cc) ((List.range j).map R)∧OwnQs wr S (.slice Aa j Ca) ((List.range j).map N)∧(∀x,(Value.slice Ac j Cc).ownBlock=some x→(Value.slice Aa j Ca).ownBlock≠some x)∧S≤wr.heap.size∧Below w.heap.size w wr) (fun iV _=>n - (intOf iV).toNat)
 case atStart=>exact⟨0,none,none,0,0,rfl,by omega,h5,h10,h12,own0 _,own0 _,fun x e=>by simp[Value.ownBlock] at e,(by have:=h12.lt;have:=h10.lt;first | omega | exact hSS),hB⟩
 case round=>
  clear h5 h10 h12 own0 hSS hB
  obtain⟨j,Ac,Aa,Cc,Ca,rfl,hj,h5,h10,h12,hoR,hoN,sep,sr,hB⟩:=hrel
  by_cases hlt:j<n;rotate_left
  ·obtain rfl:j=n:=by omega
   obtain⟨W9,eW,f1,f2,f3,f4⟩:=fill4 h10 (.int .i64 beta) (.int .i64 f) (.slice Ac j Cc) (.slice Aa j Ca) (by simp[noU])
   have xf:=h10.frozen
   obtain⟨z0,z1,z2,z3⟩:=h10.q4
   obtain⟨y0,y1,y2,y3⟩:=h12.q4
   have jn:¬(j:Int)<(j:Int):=by omega
   have oR:OwnQs W9 S (.slice Ac j Cc) _:=hoR.filled (fun e=>by have:=(hoR.lt _ e).1;omega) f2 f3
   have oN:OwnQs W9 S (.slice Aa j Ca) _:=hoN.filled (fun e=>by have:=(hoN.lt _ e).1;omega) f2 f3
   replace hB:=f4 _ _ (by omega) hB
   obtain⟨u0,u1,u2,u3⟩:=f1.q4
   have EW:=Lib.hid eW
   clear eW f2 f3 f4
   go_wp2_with fail
   rw[←EW.out]
   exact bodyPost_ret (v:= .tuple #[.agg #[.int .i64 beta,.int .i64 f,.slice Ac j Cc,.slice Aa j Ca],.bool true]) (by simp[results,Tryz.results46,go_sem,u0,u1,u2,u3]) rfl ⟨_,_,rfl,oR.lower sw,oN.lower sw,hB⟩
  have j0:(j:Int)<(n:Int):=by omega
  have j1:(0:Int)≤(j:Int):=by omega
  obtain⟨⟨b0j,q0j,szr,szb,szg,szq⟩,near⟩:=OK.out j hlt
  have iv:=i64 j
  have HR1:=Lib.hid (show (List.range (j+1)).map R=(List.range j).map R++[R j] by rw[List.range_succ,List.map_append];rfl)
  have HN1:=Lib.hid (show (List.range (j+1)).map N=(List.range j).map N++[N j] by rw[List.range_succ,List.map_append];rfl)
  have LR:=Lib.hid (show j=((List.range j).map R).length by simp)
  have LN:=Lib.hid (show j=((List.range j).map N).length by simp)
  have eR:newR beta f rs gs j=R j:=by rw[HR.out]
  have eN:newB beta f h bs qs j=N j:=by rw[HN.out]
  have bse:=sz_man1 ib hf
  have shf:=half_sz h ih
  have hHf:=fun w=>rhalf_any h w ih
  have hA2:=fun u v w hu hv=>rqadd_any u v (qat qs j) (mkRat h 2) w hu hv (szq.more (by omega)) (shf.more (by omega))
  have hNx:=fun u v w hu hv=>pnext_any beta f u v (qat bs j) (qat qs j+mkRat h 2) w hf ib b0 b1 hu hv (szb.more (by omega)) ((szq.add shf).more (by omega)) (decide_eq_false (by rw[num_neg_iff,Rat.not_lt];exact b0j)) (decide_eq_false (by rw[num_neg_iff,Rat.not_lt];exact Rat.add_nonneg q0j (half_pos h hh)))
  rw[show nextQ beta f (qat bs j) (qat qs j+mkRat h 2)=newB beta f h bs qs j from rfl] at hNx
  have hRl:=fun u v w hu hv=>rreal_any beta f u v (qat rs j) (qat gs j) w hf ib hu hv (szr.more (by omega)) (szg.more (by omega))
  rw[show realQ beta f (qat rs j) (qat gs j)=newR beta f rs gs j from rfl] at hRl
  have tR:BQ (newR beta f rs gs j) 1000:=by
   have sone:BQ (1:Rat) 1:=BQ.int (n:=1) (by unfold W64;omega)
   have sm:BQ (1 - mkRat beta (2^f)) 5:=by rw[Rat.sub_eq_add_neg];exact (sone.add bse.neg).more (by omega)
   exact ((bse.mul szr).add (sm.mul szg)).more (by omega)
  have tN:BQ (newB beta f h bs qs j) 2500:=(next_sz ib hf szb (szq.add shf)).more (by omega)
  have hSt:=fun u w hu=>rsteps_any (iat ns j) f u (newR beta f rs gs j) w hf iv hu (tR.more (by omega))
  have sst:=sz_steps iv hf tR
  have hCm:=fun u v w hu hv=>rqcmp_any u v (stepsQ (iat ns j) f (newR beta f rs gs j)) (newB beta f h bs qs j) w hu hv (sst.more (by omega)) (tN.more (by omega))
  have hcm:=(cmpQ_le_iff _ _).2 near
  rw[eR,eN] at *
  clear eR eN
  generalize cmpQ (stepsQ (iat ns j) f (R j)) (N j)=cm at *
  generalize stepsQ (iat ns j) f (R j)=rst at *
  have hcm2:decide (0<cm)=false:=decide_eq_false (by omega)
  generalize R j=rj at *
  generalize N j=nj at *
  generalize (List.range j).map R=Rl at *
  generalize (List.range j).map N=Nl at *
  generalize qat qs j+mkRat h 2=rq at *
  generalize mkRat h 2=rh at *
  clear b0j q0j szr szb szg szq near bse shf tR tN sst hcm
  have hW:=Below.refl wr.heap.size wr
  have oldN:∀x,(Value.slice Aa j Ca).ownBlock=some x→x<wr.heap.size:=fun x e=>(hoN.lt x e).2
  have HO:=Lib.hid (And.intro hoR hoN)
  clear hoR hoN
  obtain⟨au,s11,A11,L11,C11,D11,M11,E11,eu,u0,u1,u2,q11⟩:=(hq.below hB).at2 (i:=j) (by omega)
  subst eu
  go_upto_region 7 with fail
  replace hB:=hB.drew
  replace h5:=h5.drew
  replace h10:=h10.drew
  replace h12:=h12.drew
  replace hW:=hW.drew
  replace u0:=cellAU (bdrew _) u0
  replace u1:=cellAU (bdrew _) u1
  replace u2:=cellAU (bdrew _) u2
  replace q11:=q11.b (bdrew _)
  refine wp_region_noPanic ?_
  refine wp_region_held_drew (S:=fun w'=>World.grownBy wr.drew w' (some (wr.drew.heap.size))) (by kernel_rfl) (grown_of (Below.refl _ _) _) (fun hHeld=>?_)
  obtain⟨wd7_1,hwd⟩:∃q,q=wr.drew:=⟨_,rfl⟩
  rw[←hwd] at hB h5 h10 h12 hW u0 u1 u2 q11 hHeld ⊢
  clear hwd
  refine tkA 0 rfl ?_
  refine tkA 1 rfl ?_
  refine tkA 2 rfl ?_
  refine tkH 3 rfl (v:=?v4) ?h4 ?r4
  case h4=>
   intro w hSw
   (try dsimp only at hSw)
   have xu0:=cellGrown u0 hSw (fun e=>absurd (Option.some.inj e) (Nat.ne_of_lt (World.block_lt_of_cell? _ _ u0)))
   have xu1:=cellGrown u1 hSw (fun e=>absurd (Option.some.inj e) (Nat.ne_of_lt (World.block_lt_of_cell? _ _ u1)))
   have xu2:=cellGrown u2 hSw (fun e=>absurd (Option.some.inj e) (Nat.ne_of_lt (World.block_lt_of_cell? _ _ u2)))
   go_simp
   try (with_reducible rfl)
  refine tkA 4 rfl ?_
  try simp only[Act.put,lay]
  refine wpAnyH_facts [(5,63),(6,64),(7,14)] [] [] (pick [(5,fun (v:Value) (w:World)=>∃y5,y5=v∧IsQ w y5 rh),(6,fun (v:Value) (w:World)=>∃y6,y6=v∧IsQ w y6 rq),(7,fun (v:Value) (w:World)=>∃XC,.pointer (some ⟨XC,0,none⟩)=v∧wd7_1.heap.size≤XC∧Blk w XC 32 #[.bool false,.slice none 0 0,.slice none 0 0])]) #[true,true,true,true,true,true,true,true,false] (fun _ h=>grown_of h _) (pick_pers (show PersAll _ from ⟨fun _ _ _ b ⟨y5,e,g5⟩=>⟨y5,e,g5.below b⟩,fun _ _ _ b ⟨y6,e,g6⟩=>⟨y6,e,g6.below b⟩,fun _ _ _ b ⟨X,e,l,h⟩=>⟨X,e,l,h.below b h.lt⟩,trivial⟩)) (hord_of (by kernel_rfl)) (by kernel_rfl) (by kernel_rfl) (by kernel_rfl) (by kernel_rfl) (fun _ _ _ _ _ h=>h) ?ops1 ?pur1 ?done1 (Below.refl _ _) (Nat.le_of_ble_eq_true (by kernel_rfl))
  case ops1=>
   refine .cons rfl (fun a w zS K hK=>?_) ?_
   ·have e62:=zS.2.1 62 _ (by kernel_rfl) rfl
    go_simp
    refine (hHf _).mono ?_
    rintro e w' ⟨y5,rfl,g5,b⟩
    exact hK _ _ ⟨y5,rfl,g5⟩ b
   refine .cons rfl (fun a w zS K hK=>?_) ?_
   ·have q11:=q11.below zS.1
    have e61:=zS.2.1 61 _ (by kernel_rfl) rfl
    obtain⟨v63,e63,y5,rfl,g5⟩:=zS.2.2 5 63 (by kernel_rfl)
    go_simp
    refine (hA2 _ _ _ q11 g5).mono ?_
    rintro e w' ⟨y6,rfl,g6,b⟩
    exact hK _ _ ⟨y6,rfl,g6⟩ b
   refine .cons rfl (fun a w zS K hK=>?_) ?_
   ·go_simp
    exact hK _ _ ⟨_,rfl,zS.1.size,Blk.new w _ _⟩ ((Below.refl _ w).alloc (Nat.le_refl _) _)
   exact .nil
  case pur1=>
   exact .nil
  case done1=>
   intro fuel a wr7_1 zf zS zdf zsz zs zd
   obtain⟨fuel,rfl⟩:∃n,fuel=n+1:=⟨fuel - 1,by have h:1≤fuel:=Nat.le_trans (Nat.le_of_ble_eq_true (by kernel_rfl)) zf;omega⟩
   clear zf
   have nh5:=h5.lt
   replace h5:=h5.below zS nh5
   have nh10:=h10.lt
   replace h10:=h10.below zS nh10
   have nh12:=h12.lt
   replace h12:=h12.below zS nh12
   have mhW:=hW.size
   replace hW:=bOn hW zS
   replace u0:=cellAU zS u0
   replace u1:=cellAU zS u1
   replace u2:=cellAU zS u2
   replace q11:=q11.b zS
   obtain⟨v63_,e63_,y5,rfl,g5⟩:=zd 5 63 (by kernel_rfl)
   obtain⟨v64_,e64_,y6,rfl,g6⟩:=zd 6 64 (by kernel_rfl)
   obtain⟨v14_,e14_,XC,rfl,lXC,h14⟩:=zd 7 14 (by kernel_rfl)
   obtain rfl:=act_of [(63,y5),(64,y6),(14,.pointer (some ⟨XC,0,none⟩))] ⟨e63_,e64_,e14_,trivial⟩ zdf zsz (fun s h=>zs s h)
   simp only[putAll,List.set_cons_zero,List.set_cons_succ]
   clear zdf zsz zs zd e63_ e64_ e14_
   have kXC:w.heap.size≤XC:=Nat.le_trans hB.size lXC
   have jXC_hW:=Nat.le_trans mhW lXC
   clear mhW
   have dXC_h5:g≠XC:=Nat.ne_of_lt (Nat.lt_of_lt_of_le nh5 lXC)
   have dXC_h10:g+1≠XC:=Nat.ne_of_lt (Nat.lt_of_lt_of_le nh10 lXC)
   have dXC_h12:X22≠XC:=Nat.ne_of_lt (Nat.lt_of_lt_of_le nh12 lXC)
   replace hB:=bOn hB zS
   clear nh5 nh10 nh12
   obtain⟨s16,A16,L16,C16,D16,M16,E16,rfl,q16⟩:=g6.opn
   clear u0
   clear u1
   clear u2
   clear q11
   clear g5
   have zG:=grown_of zS (some (wd7_1.heap.size))
   refine rd1 8 rfl fun K hK=>?_
   obtain⟨ws7_8,eu,h14',kz,kb,kB⟩:=fill3 h14 (.bool s16) (.slice A16 L16 C16) (.slice D16 M16 E16) (by simp[noU])
   obtain⟨x0,x1,x2⟩:=h14.q3
   have xf:=h14.frozen
   replace zG:=(grown_set (grown_set (grown_set zG (p:=⟨XC,0,none⟩) (.inr (by assumption)) (.bool s16)) (p:=⟨XC,1,none⟩) (.inr (by assumption)) (.slice A16 L16 C16)) (p:=⟨XC,2,none⟩) (.inr (by assumption)) (.slice D16 M16 E16))
   rw[←eu] at zG
   go_simp
   rw[←eu]
   replace h5:=kb _ _ _ h5 (by first | assumption | exact Ne.symm (by assumption) | omega)
   replace h10:=kb _ _ _ h10 (by first | assumption | exact Ne.symm (by assumption) | omega)
   replace h12:=kb _ _ _ h12 (by first | assumption | exact Ne.symm (by assumption) | omega)
   replace hW:=kB _ _ (by first | assumption | omega) hW
   replace q16:=q16.filled kz
   replace hB:=kB _ _ (by omega) hB
   replace h14:=h14'
   clear h14' kz kb kB eu xf x0 x1 x2
   refine hK.out _ _ zG (fun hHeld=>?_)
   clear hK K
   try simp only[lay]
   try dsimp only
   try simp only[Act.put,lay]
   refine wpAnyH_done (by kernel_rfl) ?_ _
   refine NoPanic.normal ?_
   clear zG
   obtain⟨c20,c21,c22,c23⟩:=h5.q4
   obtain⟨c24,c25,c26,c27⟩:=h10.q4
   obtain⟨c28,c29,c30,c31⟩:=h12.q4
   obtain⟨c32,c33,c34⟩:=h14.q3
   obtain⟨ap,s12,A12,L12,C12,D12,M12,E12,ep,p0,p1,p2,q12⟩:=(hb.below hB).at2 (i:=j) (by omega)
   subst ep
   go_upto_region 8 with fail
   clear c20 c21 c22 c23 c24 c25 c26 c27 c28 c29 c30 c31 c32 c33 c34
   replace hB:=hB.drew
   replace h5:=h5.drew
   replace h10:=h10.drew
   replace h12:=h12.drew
   replace hW:=hW.drew
   replace h14:=h14.drew
   replace q16:=q16.b (bdrew _)
   replace p0:=cellAU (bdrew _) p0
   replace p1:=cellAU (bdrew _) p1
   replace p2:=cellAU (bdrew _) p2
   replace q12:=q12.b (bdrew _)
   refine wp_region_noPanic ?_
   refine wp_region_held_drew (S:=fun w'=>World.grownBy ws7_8.drew w' (some (ws7_8.drew.heap.size))) (by kernel_rfl) (grown_of (Below.refl _ _) _) (fun hHeld=>?_)
   obtain⟨wd8_2,hwd⟩:∃q,q=ws7_8.drew:=⟨_,rfl⟩
   rw[←hwd] at hB h5 h10 h12 hW h14 q16 p0 p1 p2 q12 hHeld ⊢
   clear hwd
   refine tkA 0 rfl ?_
   refine tkH 1 rfl (v:=?v7) ?h7 ?r7
   case h7=>
    intro w hSw
    (try dsimp only at hSw)
    obtain⟨yh5_0,yh5_1,yh5_2,yh5_3⟩:=(Blk.grownT h5 hSw (fun e=>absurd (Option.some.inj e) (Nat.ne_of_lt h5.lt))).q4
    obtain⟨yh14_0,yh14_1,yh14_2⟩:=(Blk.grownT h14 hSw (fun e=>absurd (Option.some.inj e) (Nat.ne_of_lt h14.lt))).q3
    have xp0:=cellGrown p0 hSw (fun e=>absurd (Option.some.inj e) (Nat.ne_of_lt (World.block_lt_of_cell? _ _ p0)))
    have xp1:=cellGrown p1 hSw (fun e=>absurd (Option.some.inj e) (Nat.ne_of_lt (World.block_lt_of_cell? _ _ p1)))
    have xp2:=cellGrown p2 hSw (fun e=>absurd (Option.some.inj e) (Nat.ne_of_lt (World.block_lt_of_cell? _ _ p2)))
    go_simp
    try (with_reducible rfl)
   refine tkA 2 rfl ?_
   refine tkH 3 rfl (v:=?v9) ?h9 ?r9
   case h9=>
    intro w hSw
    (try dsimp only at hSw)
    obtain⟨yh5_0,yh5_1,yh5_2,yh5_3⟩:=(Blk.grownT h5 hSw (fun e=>absurd (Option.some.inj e) (Nat.ne_of_lt h5.lt))).q4
    obtain⟨yh14_0,yh14_1,yh14_2⟩:=(Blk.grownT h14 hSw (fun e=>absurd (Option.some.inj e) (Nat.ne_of_lt h14.lt))).q3
    have xp0:=cellGrown p0 hSw (fun e=>absurd (Option.some.inj e) (Nat.ne_of_lt (World.block_lt_of_cell? _ _ p0)))
    have xp1:=cellGrown p1 hSw (fun e=>absurd (Option.some.inj e) (Nat.ne_of_lt (World.block_lt_of_cell? _ _ p1)))
    have xp2:=cellGrown p2 hSw (fun e=>absurd (Option.some.inj e) (Nat.ne_of_lt (World.block_lt_of_cell? _ _ p2)))
    go_simp
    try (with_reducible rfl)
   refine tkA 4 rfl ?_
   refine tkH 5 rfl (v:=?v11) ?h11 ?r11
   case h11=>
    intro w hSw
    (try dsimp only at hSw)
    obtain⟨yh5_0,yh5_1,yh5_2,yh5_3⟩:=(Blk.grownT h5 hSw (fun e=>absurd (Option.some.inj e) (Nat.ne_of_lt h5.lt))).q4
    obtain⟨yh14_0,yh14_1,yh14_2⟩:=(Blk.grownT h14 hSw (fun e=>absurd (Option.some.inj e) (Nat.ne_of_lt h14.lt))).q3
    have xp0:=cellGrown p0 hSw (fun e=>absurd (Option.some.inj e) (Nat.ne_of_lt (World.block_lt_of_cell? _ _ p0)))
    have xp1:=cellGrown p1 hSw (fun e=>absurd (Option.some.inj e) (Nat.ne_of_lt (World.block_lt_of_cell? _ _ p1)))
    have xp2:=cellGrown p2 hSw (fun e=>absurd (Option.some.inj e) (Nat.ne_of_lt (World.block_lt_of_cell? _ _ p2)))
    go_simp
    try (with_reducible rfl)
   refine tkA 6 rfl ?_
   refine tkA 7 rfl ?_
   refine tkH 8 rfl (v:=?v14) ?h14 ?r14
   case h14=>
    intro w hSw
    (try dsimp only at hSw)
    obtain⟨yh5_0,yh5_1,yh5_2,yh5_3⟩:=(Blk.grownT h5 hSw (fun e=>absurd (Option.some.inj e) (Nat.ne_of_lt h5.lt))).q4
    obtain⟨yh14_0,yh14_1,yh14_2⟩:=(Blk.grownT h14 hSw (fun e=>absurd (Option.some.inj e) (Nat.ne_of_lt h14.lt))).q3
    have xp0:=cellGrown p0 hSw (fun e=>absurd (Option.some.inj e) (Nat.ne_of_lt (World.block_lt_of_cell? _ _ p0)))
    have xp1:=cellGrown p1 hSw (fun e=>absurd (Option.some.inj e) (Nat.ne_of_lt (World.block_lt_of_cell? _ _ p1)))
    have xp2:=cellGrown p2 hSw (fun e=>absurd (Option.some.inj e) (Nat.ne_of_lt (World.block_lt_of_cell? _ _ p2)))
    go_simp
    try (with_reducible rfl)
   refine tkH 9 rfl (v:=?v15) ?h15 ?r15
   case h15=>
    intro w hSw
    (try dsimp only at hSw)
    obtain⟨yh5_0,yh5_1,yh5_2,yh5_3⟩:=(Blk.grownT h5 hSw (fun e=>absurd (Option.some.inj e) (Nat.ne_of_lt h5.lt))).q4
    obtain⟨yh14_0,yh14_1,yh14_2⟩:=(Blk.grownT h14 hSw (fun e=>absurd (Option.some.inj e) (Nat.ne_of_lt h14.lt))).q3
    have xp0:=cellGrown p0 hSw (fun e=>absurd (Option.some.inj e) (Nat.ne_of_lt (World.block_lt_of_cell? _ _ p0)))
    have xp1:=cellGrown p1 hSw (fun e=>absurd (Option.some.inj e) (Nat.ne_of_lt (World.block_lt_of_cell? _ _ p1)))
    have xp2:=cellGrown p2 hSw (fun e=>absurd (Option.some.inj e) (Nat.ne_of_lt (World.block_lt_of_cell? _ _ p2)))
    go_simp
    try (with_reducible rfl)
   try simp only[Act.put,lay]
   refine wpAnyH_facts [(10,76),(14,15)] [(11,65),(12,77),(13,78)] [13] (pick [(10,fun (v:Value) (w:World)=>∃y7,.tuple #[y7,.int .i64 0]=v∧IsQ w y7 nj),(11,fun (v:Value) (w:World)=>∃y7,.tuple #[y7,.int .i64 0]=v∧IsQ w y7 nj),(12,fun (v:Value) (w:World)=>∃y7,y7=v∧IsQ w y7 nj),(13,fun (v:Value) (w:World)=>.int .i64 0=v),(14,fun (v:Value) (w:World)=>∃XD,.pointer (some ⟨XD,0,none⟩)=v∧wd8_2.heap.size≤XD∧Blk w XD 32 #[.bool false,.slice none 0 0,.slice none 0 0])]) #[true,true,true,true,true,true,true,true,true,true,true,true,true,true,true,false,false] (fun _ h=>grown_of h _) (pick_pers (show PersAll _ from ⟨fun _ _ _ b ⟨y7,e,g7⟩=>⟨y7,e,g7.below b⟩,fun _ _ _ b ⟨y7,e,g7⟩=>⟨y7,e,g7.below b⟩,fun _ _ _ b ⟨y7,e,g7⟩=>⟨y7,e,g7.below b⟩,fun _ _ _ _ e=>e,fun _ _ _ b ⟨X,e,l,h⟩=>⟨X,e,l,h.below b h.lt⟩,trivial⟩)) (hord_of (by kernel_rfl)) (by kernel_rfl) (by kernel_rfl) (by kernel_rfl) (by kernel_rfl) (fun _ _ _ _ _ h=>h) ?ops2 ?pur2 ?done2 (Below.refl _ _) (Nat.le_of_ble_eq_true (by kernel_rfl))
   case ops2=>
    refine .cons rfl (fun a w zS K hK=>?_) ?_
    ·have q16:=q16.below zS.1
     have q12:=q12.below zS.1
     have e67:=zS.2.1 67 _ (by kernel_rfl) rfl
     have e69:=zS.2.1 69 _ (by kernel_rfl) rfl
     have e74:=zS.2.1 74 _ (by kernel_rfl) rfl
     have e75:=zS.2.1 75 _ (by kernel_rfl) rfl
     go_simp
     refine (hNx _ _ _ q12 q16).mono ?_
     rintro e w' ⟨y7,rfl,g7,b⟩
     exact hK _ _ ⟨y7,rfl,g7⟩ b
    refine .cons rfl (fun a w zS K hK=>?_) ?_
    ·go_simp
     exact hK _ _ ⟨_,rfl,zS.1.size,Blk.new w _ _⟩ ((Below.refl _ w).alloc (Nat.le_refl _) _)
    exact .nil
   case pur2=>
    refine .cons rfl (fun a w zS=>?_) ?_
    ·obtain⟨v76,e76,y7,rfl,g7⟩:=zS.2.2 10 76 (by kernel_rfl)
     exact⟨_,fun w'=>by go_simp<;>rfl,⟨y7,rfl,g7⟩⟩
    refine .cons rfl (fun a w zS=>?_) ?_
    ·obtain⟨v65,e65,y7,rfl,g7⟩:=zS.2.2 11 65 (by kernel_rfl)
     exact⟨_,fun w'=>by go_simp<;>rfl,⟨y7,rfl,g7⟩⟩
    refine .cons rfl (fun a w zS=>?_) ?_
    ·obtain⟨v65,e65,y7,rfl,g7⟩:=zS.2.2 11 65 (by kernel_rfl)
     exact⟨_,fun w'=>by go_simp<;>rfl,rfl⟩
    exact .nil
   case done2=>
    intro fuel a wr8_2 zf zS zdf zsz zs zd
    obtain⟨fuel,rfl⟩:∃n,fuel=n+2:=⟨fuel - 2,by have h:2≤fuel:=Nat.le_trans (Nat.le_of_ble_eq_true (by kernel_rfl)) zf;omega⟩
    clear zf
    have nh5:=h5.lt
    replace h5:=h5.below zS nh5
    have nh10:=h10.lt
    replace h10:=h10.below zS nh10
    have nh12:=h12.lt
    replace h12:=h12.below zS nh12
    have mhW:=hW.size
    replace hW:=bOn hW zS
    have nh14:=h14.lt
    replace h14:=h14.below zS nh14
    replace q16:=q16.b zS
    replace p0:=cellAU zS p0
    replace p1:=cellAU zS p1
    replace p2:=cellAU zS p2
    replace q12:=q12.b zS
    obtain⟨v76_,e76_,y7_10,rfl, -⟩:=zd 10 76 (by kernel_rfl)
    obtain⟨v65_,e65_,y7_11,rfl, -⟩:=zd 11 65 (by kernel_rfl)
    obtain⟨v77_,e77_,y7,rfl,g7⟩:=zd 12 77 (by kernel_rfl)
    obtain⟨v78_,e78_,rfl⟩:=zd 13 78 (by kernel_rfl)
    obtain⟨v15_,e15_,XD,rfl,lXD,h15⟩:=zd 14 15 (by kernel_rfl)
    obtain rfl:=act_of [(76,.tuple #[y7_10,.int .i64 0]),(15,.pointer (some ⟨XD,0,none⟩)),(65,.tuple #[y7_11,.int .i64 0]),(77,y7),(78,.int .i64 0)] ⟨e76_,e15_,e65_,e77_,e78_,trivial⟩ zdf zsz (fun s h=>zs s h)
    simp only[putAll,List.set_cons_zero,List.set_cons_succ]
    clear zdf zsz zs zd e76_ e15_ e65_ e77_ e78_
    have kXD:w.heap.size≤XD:=Nat.le_trans hB.size lXD
    have jXD_hW:=Nat.le_trans mhW lXD
    clear mhW
    have dXD_h5:g≠XD:=Nat.ne_of_lt (Nat.lt_of_lt_of_le nh5 lXD)
    have dXD_h10:g+1≠XD:=Nat.ne_of_lt (Nat.lt_of_lt_of_le nh10 lXD)
    have dXD_h12:X22≠XD:=Nat.ne_of_lt (Nat.lt_of_lt_of_le nh12 lXD)
    have dXD_h14:XC≠XD:=Nat.ne_of_lt (Nat.lt_of_lt_of_le nh14 lXD)
    replace hB:=bOn hB zS
    clear nh5 nh10 nh12 nh14
    obtain⟨s17,A17,L17,C17,D17,M17,E17,rfl,q17⟩:=g7.opn
    clear p0
    clear p1
    clear p2
    clear q12
    clear q16
    have zG:=grown_of zS (some (wd8_2.heap.size))
    refine rd1 15 rfl fun K hK=>?_
    obtain⟨ws8_15,eu,h15',kz,kb,kB⟩:=fill3 h15 (.bool s17) (.slice A17 L17 C17) (.slice D17 M17 E17) (by simp[noU])
    obtain⟨x0,x1,x2⟩:=h15.q3
    have xf:=h15.frozen
    replace zG:=(grown_set (grown_set (grown_set zG (p:=⟨XD,0,none⟩) (.inr (by assumption)) (.bool s17)) (p:=⟨XD,1,none⟩) (.inr (by assumption)) (.slice A17 L17 C17)) (p:=⟨XD,2,none⟩) (.inr (by assumption)) (.slice D17 M17 E17))
    rw[←eu] at zG
    go_simp
    rw[←eu]
    replace h5:=kb _ _ _ h5 (by first | assumption | exact Ne.symm (by assumption) | omega)
    replace h10:=kb _ _ _ h10 (by first | assumption | exact Ne.symm (by assumption) | omega)
    replace h12:=kb _ _ _ h12 (by first | assumption | exact Ne.symm (by assumption) | omega)
    replace hW:=kB _ _ (by first | assumption | omega) hW
    replace h14:=kb _ _ _ h14 (by first | assumption | exact Ne.symm (by assumption) | omega)
    replace q17:=q17.filled kz
    replace hB:=kB _ _ (by omega) hB
    replace h15:=h15'
    clear h15' kz kb kB eu xf x0 x1 x2
    refine hK.out _ _ zG (fun hHeld=>?_)
    clear hK K
    refine tkH 16 rfl (v:=?v16) ?h16 ?r16 (hS:=zG)
    case h16=>intro w s;go_simp;try (with_reducible rfl)
    try simp only[Act.put,lay]
    try dsimp only
    try simp only[Act.put,lay]
    refine wpAnyH_done (by kernel_rfl) ?_ _
    refine NoPanic.normal ?_
    clear zG
    obtain⟨c35,c36,c37,c38⟩:=h5.q4
    obtain⟨c39,c40,c41,c42⟩:=h10.q4
    obtain⟨c43,c44,c45,c46⟩:=h12.q4
    obtain⟨c47,c48,c49⟩:=h14.q3
    obtain⟨c50,c51,c52⟩:=h15.q3
    skip
    obtain⟨ar,s13,A13,L13,C13,D13,M13,E13,er,r0,r1,r2,q13⟩:=(hr.below hB).at2 (i:=j) (by omega)
    subst er
    obtain⟨ak,s14,A14,L14,C14,D14,M14,E14,ek,k0,k1,k2,q14⟩:=(hg.below hB).at2 (i:=j) (by omega)
    subst ek
    go_upto_region 9 with fail
    clear c35 c36 c37 c38 c39 c40 c41 c42 c43 c44 c45 c46 c47 c48 c49 c50 c51 c52
    replace hB:=hB.drew
    replace h5:=h5.drew
    replace h10:=h10.drew
    replace h12:=h12.drew
    replace hW:=hW.drew
    replace h14:=h14.drew
    replace h15:=h15.drew
    replace q17:=q17.b (bdrew _)
    replace r0:=cellAU (bdrew _) r0
    replace r1:=cellAU (bdrew _) r1
    replace r2:=cellAU (bdrew _) r2
    replace q13:=q13.b (bdrew _)
    replace k0:=cellAU (bdrew _) k0
    replace k1:=cellAU (bdrew _) k1
    replace k2:=cellAU (bdrew _) k2
    replace q14:=q14.b (bdrew _)
    refine wp_region_noPanic ?_
    refine wp_region_held_drew (S:=fun w'=>World.grownBy ws8_15.drew w' (some (ws8_15.drew.heap.size))) (by kernel_rfl) (grown_of (Below.refl _ _) _) (fun hHeld=>?_)
    obtain⟨wd9_3,hwd⟩:∃q,q=ws8_15.drew:=⟨_,rfl⟩
    rw[←hwd] at hB h5 h10 h12 hW h14 h15 q17 r0 r1 r2 q13 k0 k1 k2 q14 hHeld ⊢
    clear hwd
    refine tkA 0 rfl ?_
    refine tkH 1 rfl (v:=?v18) ?h18 ?r18
    case h18=>
     intro w hSw
     (try dsimp only at hSw)
     obtain⟨yh5_0,yh5_1,yh5_2,yh5_3⟩:=(Blk.grownT h5 hSw (fun e=>absurd (Option.some.inj e) (Nat.ne_of_lt h5.lt))).q4
     have xr0:=cellGrown r0 hSw (fun e=>absurd (Option.some.inj e) (Nat.ne_of_lt (World.block_lt_of_cell? _ _ r0)))
     have xr1:=cellGrown r1 hSw (fun e=>absurd (Option.some.inj e) (Nat.ne_of_lt (World.block_lt_of_cell? _ _ r1)))
     have xr2:=cellGrown r2 hSw (fun e=>absurd (Option.some.inj e) (Nat.ne_of_lt (World.block_lt_of_cell? _ _ r2)))
     have xk0:=cellGrown k0 hSw (fun e=>absurd (Option.some.inj e) (Nat.ne_of_lt (World.block_lt_of_cell? _ _ k0)))
     have xk1:=cellGrown k1 hSw (fun e=>absurd (Option.some.inj e) (Nat.ne_of_lt (World.block_lt_of_cell? _ _ k1)))
     have xk2:=cellGrown k2 hSw (fun e=>absurd (Option.some.inj e) (Nat.ne_of_lt (World.block_lt_of_cell? _ _ k2)))
     go_simp
     try (with_reducible rfl)
    refine tkA 2 rfl ?_
    refine tkH 3 rfl (v:=?v20) ?h20 ?r20
    case h20=>
     intro w hSw
     (try dsimp only at hSw)
     obtain⟨yh5_0,yh5_1,yh5_2,yh5_3⟩:=(Blk.grownT h5 hSw (fun e=>absurd (Option.some.inj e) (Nat.ne_of_lt h5.lt))).q4
     have xr0:=cellGrown r0 hSw (fun e=>absurd (Option.some.inj e) (Nat.ne_of_lt (World.block_lt_of_cell? _ _ r0)))
     have xr1:=cellGrown r1 hSw (fun e=>absurd (Option.some.inj e) (Nat.ne_of_lt (World.block_lt_of_cell? _ _ r1)))
     have xr2:=cellGrown r2 hSw (fun e=>absurd (Option.some.inj e) (Nat.ne_of_lt (World.block_lt_of_cell? _ _ r2)))
     have xk0:=cellGrown k0 hSw (fun e=>absurd (Option.some.inj e) (Nat.ne_of_lt (World.block_lt_of_cell? _ _ k0)))
     have xk1:=cellGrown k1 hSw (fun e=>absurd (Option.some.inj e) (Nat.ne_of_lt (World.block_lt_of_cell? _ _ k1)))
     have xk2:=cellGrown k2 hSw (fun e=>absurd (Option.some.inj e) (Nat.ne_of_lt (World.block_lt_of_cell? _ _ k2)))
     go_simp
     try (with_reducible rfl)
    refine tkA 4 rfl ?_
    refine tkH 5 rfl (v:=?v22) ?h22 ?r22
    case h22=>
     intro w hSw
     (try dsimp only at hSw)
     obtain⟨yh5_0,yh5_1,yh5_2,yh5_3⟩:=(Blk.grownT h5 hSw (fun e=>absurd (Option.some.inj e) (Nat.ne_of_lt h5.lt))).q4
     have xr0:=cellGrown r0 hSw (fun e=>absurd (Option.some.inj e) (Nat.ne_of_lt (World.block_lt_of_cell? _ _ r0)))
     have xr1:=cellGrown r1 hSw (fun e=>absurd (Option.some.inj e) (Nat.ne_of_lt (World.block_lt_of_cell? _ _ r1)))
     have xr2:=cellGrown r2 hSw (fun e=>absurd (Option.some.inj e) (Nat.ne_of_lt (World.block_lt_of_cell? _ _ r2)))
     have xk0:=cellGrown k0 hSw (fun e=>absurd (Option.some.inj e) (Nat.ne_of_lt (World.block_lt_of_cell? _ _ k0)))
     have xk1:=cellGrown k1 hSw (fun e=>absurd (Option.some.inj e) (Nat.ne_of_lt (World.block_lt_of_cell? _ _ k1)))
     have xk2:=cellGrown k2 hSw (fun e=>absurd (Option.some.inj e) (Nat.ne_of_lt (World.block_lt_of_cell? _ _ k2)))
     go_simp
     try (with_reducible rfl)
    refine tkA 6 rfl ?_
    refine tkA 7 rfl ?_
    refine tkH 8 rfl (v:=?v25) ?h25 ?r25
    case h25=>
     intro w hSw
     (try dsimp only at hSw)
     obtain⟨yh5_0,yh5_1,yh5_2,yh5_3⟩:=(Blk.grownT h5 hSw (fun e=>absurd (Option.some.inj e) (Nat.ne_of_lt h5.lt))).q4
     have xr0:=cellGrown r0 hSw (fun e=>absurd (Option.some.inj e) (Nat.ne_of_lt (World.block_lt_of_cell? _ _ r0)))
     have xr1:=cellGrown r1 hSw (fun e=>absurd (Option.some.inj e) (Nat.ne_of_lt (World.block_lt_of_cell? _ _ r1)))
     have xr2:=cellGrown r2 hSw (fun e=>absurd (Option.some.inj e) (Nat.ne_of_lt (World.block_lt_of_cell? _ _ r2)))
     have xk0:=cellGrown k0 hSw (fun e=>absurd (Option.some.inj e) (Nat.ne_of_lt (World.block_lt_of_cell? _ _ k0)))
     have xk1:=cellGrown k1 hSw (fun e=>absurd (Option.some.inj e) (Nat.ne_of_lt (World.block_lt_of_cell? _ _ k1)))
     have xk2:=cellGrown k2 hSw (fun e=>absurd (Option.some.inj e) (Nat.ne_of_lt (World.block_lt_of_cell? _ _ k2)))
     go_simp
     try (with_reducible rfl)
    refine tkA 9 rfl ?_
    refine tkA 10 rfl ?_
    refine tkA 11 rfl ?_
    refine tkH 12 rfl (v:=?v29) ?h29 ?r29
    case h29=>
     intro w hSw
     (try dsimp only at hSw)
     obtain⟨yh5_0,yh5_1,yh5_2,yh5_3⟩:=(Blk.grownT h5 hSw (fun e=>absurd (Option.some.inj e) (Nat.ne_of_lt h5.lt))).q4
     have xr0:=cellGrown r0 hSw (fun e=>absurd (Option.some.inj e) (Nat.ne_of_lt (World.block_lt_of_cell? _ _ r0)))
     have xr1:=cellGrown r1 hSw (fun e=>absurd (Option.some.inj e) (Nat.ne_of_lt (World.block_lt_of_cell? _ _ r1)))
     have xr2:=cellGrown r2 hSw (fun e=>absurd (Option.some.inj e) (Nat.ne_of_lt (World.block_lt_of_cell? _ _ r2)))
     have xk0:=cellGrown k0 hSw (fun e=>absurd (Option.some.inj e) (Nat.ne_of_lt (World.block_lt_of_cell? _ _ k0)))
     have xk1:=cellGrown k1 hSw (fun e=>absurd (Option.some.inj e) (Nat.ne_of_lt (World.block_lt_of_cell? _ _ k1)))
     have xk2:=cellGrown k2 hSw (fun e=>absurd (Option.some.inj e) (Nat.ne_of_lt (World.block_lt_of_cell? _ _ k2)))
     go_simp
     try (with_reducible rfl)
    try simp only[Act.put,lay]
    refine wpAnyH_facts [(13,92),(14,17)] [] [] (pick [(13,fun (v:Value) (w:World)=>∃y8,y8=v∧IsQ w y8 rj),(14,fun (v:Value) (w:World)=>∃XE,.pointer (some ⟨XE,0,none⟩)=v∧wd9_3.heap.size≤XE∧Blk w XE 32 #[.bool false,.slice none 0 0,.slice none 0 0])]) #[true,true,true,true,true,true,true,true,true,true,true,true,true,true,true,false] (fun _ h=>grown_of h _) (pick_pers (show PersAll _ from ⟨fun _ _ _ b ⟨y8,e,g8⟩=>⟨y8,e,g8.below b⟩,fun _ _ _ b ⟨X,e,l,h⟩=>⟨X,e,l,h.below b h.lt⟩,trivial⟩)) (hord_of (by kernel_rfl)) (by kernel_rfl) (by kernel_rfl) (by kernel_rfl) (by kernel_rfl) (fun _ _ _ _ _ h=>h) ?ops3 ?pur3 ?done3 (Below.refl _ _) (Nat.le_of_ble_eq_true (by kernel_rfl))
    case ops3=>
     refine .cons rfl (fun a w zS K hK=>?_) ?_
     ·have q13:=q13.below zS.1
      have q14:=q14.below zS.1
      have e80:=zS.2.1 80 _ (by kernel_rfl) rfl
      have e82:=zS.2.1 82 _ (by kernel_rfl) rfl
      have e87:=zS.2.1 87 _ (by kernel_rfl) rfl
      have e91:=zS.2.1 91 _ (by kernel_rfl) rfl
      go_simp
      refine (hRl _ _ _ q13 q14).mono ?_
      rintro e w' ⟨y8,rfl,g8,b⟩
      exact hK _ _ ⟨y8,rfl,g8⟩ b
     refine .cons rfl (fun a w zS K hK=>?_) ?_
     ·go_simp
      exact hK _ _ ⟨_,rfl,zS.1.size,Blk.new w _ _⟩ ((Below.refl _ w).alloc (Nat.le_refl _) _)
     exact .nil
    case pur3=>
     exact .nil
    case done3=>
     intro fuel a wr9_3 zf zS zdf zsz zs zd
     obtain⟨fuel,rfl⟩:∃n,fuel=n+1:=⟨fuel - 1,by have h:1≤fuel:=Nat.le_trans (Nat.le_of_ble_eq_true (by kernel_rfl)) zf;omega⟩
     clear zf
     have nh5:=h5.lt
     replace h5:=h5.below zS nh5
     have nh10:=h10.lt
     replace h10:=h10.below zS nh10
     have nh12:=h12.lt
     replace h12:=h12.below zS nh12
     have mhW:=hW.size
     replace hW:=bOn hW zS
     have nh14:=h14.lt
     replace h14:=h14.below zS nh14
     have nh15:=h15.lt
     replace h15:=h15.below zS nh15
     replace q17:=q17.b zS
     replace r0:=cellAU zS r0
     replace r1:=cellAU zS r1
     replace r2:=cellAU zS r2
     replace q13:=q13.b zS
     replace k0:=cellAU zS k0
     replace k1:=cellAU zS k1
     replace k2:=cellAU zS k2
     replace q14:=q14.b zS
     obtain⟨v92_,e92_,y8,rfl,g8⟩:=zd 13 92 (by kernel_rfl)
     obtain⟨v17_,e17_,XE,rfl,lXE,h17⟩:=zd 14 17 (by kernel_rfl)
     obtain rfl:=act_of [(92,y8),(17,.pointer (some ⟨XE,0,none⟩))] ⟨e92_,e17_,trivial⟩ zdf zsz (fun s h=>zs s h)
     simp only[putAll,List.set_cons_zero,List.set_cons_succ]
     clear zdf zsz zs zd e92_ e17_
     have kXE:w.heap.size≤XE:=Nat.le_trans hB.size lXE
     have jXE_hW:=Nat.le_trans mhW lXE
     clear mhW
     have dXE_h5:g≠XE:=Nat.ne_of_lt (Nat.lt_of_lt_of_le nh5 lXE)
     have dXE_h10:g+1≠XE:=Nat.ne_of_lt (Nat.lt_of_lt_of_le nh10 lXE)
     have dXE_h12:X22≠XE:=Nat.ne_of_lt (Nat.lt_of_lt_of_le nh12 lXE)
     have dXE_h14:XC≠XE:=Nat.ne_of_lt (Nat.lt_of_lt_of_le nh14 lXE)
     have dXE_h15:XD≠XE:=Nat.ne_of_lt (Nat.lt_of_lt_of_le nh15 lXE)
     replace hB:=bOn hB zS
     clear nh5 nh10 nh12 nh14 nh15
     obtain⟨s18,A18,L18,C18,D18,M18,E18,rfl,q18⟩:=g8.opn
     clear r0
     clear r1
     clear r2
     clear k0
     clear k1
     clear k2
     clear q13
     clear q14
     have zG:=grown_of zS (some (wd9_3.heap.size))
     refine rd1 15 rfl fun K hK=>?_
     obtain⟨ws9_15,eu,h17',kz,kb,kB⟩:=fill3 h17 (.bool s18) (.slice A18 L18 C18) (.slice D18 M18 E18) (by simp[noU])
     obtain⟨x0,x1,x2⟩:=h17.q3
     have xf:=h17.frozen
     replace zG:=(grown_set (grown_set (grown_set zG (p:=⟨XE,0,none⟩) (.inr (by assumption)) (.bool s18)) (p:=⟨XE,1,none⟩) (.inr (by assumption)) (.slice A18 L18 C18)) (p:=⟨XE,2,none⟩) (.inr (by assumption)) (.slice D18 M18 E18))
     rw[←eu] at zG
     go_simp
     rw[←eu]
     replace h5:=kb _ _ _ h5 (by first | assumption | exact Ne.symm (by assumption) | omega)
     replace h10:=kb _ _ _ h10 (by first | assumption | exact Ne.symm (by assumption) | omega)
     replace h12:=kb _ _ _ h12 (by first | assumption | exact Ne.symm (by assumption) | omega)
     replace hW:=kB _ _ (by first | assumption | omega) hW
     replace h14:=kb _ _ _ h14 (by first | assumption | exact Ne.symm (by assumption) | omega)
     replace h15:=kb _ _ _ h15 (by first | assumption | exact Ne.symm (by assumption) | omega)
     replace q17:=q17.filled kz
     replace q18:=q18.filled kz
     replace hB:=kB _ _ (by omega) hB
     replace h17:=h17'
     clear h17' kz kb kB eu xf x0 x1 x2
     refine hK.out _ _ zG (fun hHeld=>?_)
     clear hK K
     try simp only[lay]
     try dsimp only
     try simp only[Act.put,lay]
     refine wpAnyH_done (by kernel_rfl) ?_ _
     refine NoPanic.normal ?_
     clear zG
     obtain⟨c53,c54,c55,c56⟩:=h5.q4
     obtain⟨c57,c58,c59,c60⟩:=h10.q4
     obtain⟨c61,c62,c63,c64⟩:=h12.q4
     obtain⟨c65,c66,c67⟩:=h14.q3
     obtain⟨c68,c69,c70⟩:=h15.q3
     obtain⟨c71,c72,c73⟩:=h17.q3
     obtain⟨an,ean,_,hv⟩:=is_cell (hnr.below hB) hlt
     subst ean
     generalize hvk:iat ns j=vk at *
     clear hvk
     go_upto_region 10 with fail
     replace hB:=hB.drew
     replace h5:=h5.drew
     replace h10:=h10.drew
     replace h12:=h12.drew
     replace hW:=hW.drew
     replace h14:=h14.drew
     replace h15:=h15.drew
     replace q17:=q17.b (bdrew _)
     replace h17:=h17.drew
     replace q18:=q18.b (bdrew _)
     replace hv:=cellAU (bdrew _) hv
     clear c53 c54 c55 c56 c57 c58 c59 c60 c61 c62 c63 c64 c65 c66 c67 c68 c69 c70 c71 c72 c73
     refine wp_region_noPanic ?_
     refine wp_region_held_drew (S:=fun w'=>w'.cell? (an.add j)=some (.int .i64 vk)∧w'.cell? ⟨g,0,none⟩=some (.int .i64 beta)∧w'.cell? ⟨g,1,none⟩=some (.int .i64 f)∧w'.cell? ⟨g,2,none⟩=some (.slice (some ar) n Cr)∧w'.cell? ⟨g,3,none⟩=some (.slice (some ap) n Cb)∧w'.cell? ⟨XD,0,none⟩=some (.bool s17)∧w'.cell? ⟨XD,1,none⟩=some (.slice A17 L17 C17)∧w'.cell? ⟨XD,2,none⟩=some (.slice D17 M17 E17)∧w'.cell? ⟨XE,0,none⟩=some (.bool s18)∧w'.cell? ⟨XE,1,none⟩=some (.slice A18 L18 C18)∧w'.cell? ⟨XE,2,none⟩=some (.slice D18 M18 E18)) (by kernel_rfl) ?_ (fun hHeld=>?_)
     ·exact⟨hv,h5.cell 0,h5.cell 1,h5.cell 2,h5.cell 3,h15.cell 0,h15.cell 1,h15.cell 2,h17.cell 0,h17.cell 1,h17.cell 2⟩
     obtain⟨wd10_4,hwd⟩:∃q,q=ws9_15.drew:=⟨_,rfl⟩
     rw[←hwd] at hB h5 h10 h12 hW h14 h15 q17 h17 q18 hv hHeld ⊢
     clear hwd
     refine tkA 0 rfl ?_
     refine tkA 1 rfl ?_
     refine tkA 2 rfl ?_
     refine tkA 3 rfl ?_
     refine tkA 4 rfl ?_
     refine tkA 5 rfl ?_
     refine tkA 6 rfl ?_
     refine tkA 7 rfl ?_
     refine tkA 8 rfl ?_
     refine tkA 9 rfl ?_
     refine tkA 11 rfl ?_
     try simp only[Act.put,lay]
     refine rd1 10 rfl fun K hK=>?_
     go_simp
     refine (hSt _ _ q18).mono ?_
     rintro e u10_1 ⟨y9,rfl,g9,b10_1⟩
     replace h5:=h5.b b10_1
     replace h10:=h10.b b10_1
     replace h12:=h12.b b10_1
     replace hW:=bOn hW b10_1
     replace h14:=h14.b b10_1
     replace h15:=h15.b b10_1
     replace q17:=q17.b b10_1
     replace h17:=h17.b b10_1
     replace q18:=q18.b b10_1
     replace hv:=cellAU b10_1 hv
     replace hB:=bOn hB b10_1
     go_wp2_with fail
     refine hK.out _ _ ?_ fun hHeld=>?_
     ·exact⟨hv,h5.cell 0,h5.cell 1,h5.cell 2,h5.cell 3,h15.cell 0,h15.cell 1,h15.cell 2,h17.cell 0,h17.cell 1,h17.cell 2⟩
     clear hK K
     try simp only[Act.put,lay]
     refine rd1 12 rfl fun K hK=>?_
     go_simp
     refine (hCm _ _ _ g9 q17).mono ?_
     rintro e u10_2 ⟨rfl,b10_2⟩
     replace h5:=h5.b b10_2
     replace h10:=h10.b b10_2
     replace h12:=h12.b b10_2
     replace hW:=bOn hW b10_2
     replace h14:=h14.b b10_2
     replace h15:=h15.b b10_2
     replace q17:=q17.b b10_2
     replace h17:=h17.b b10_2
     replace q18:=q18.b b10_2
     replace hv:=cellAU b10_2 hv
     replace g9:=g9.b b10_2
     replace hB:=bOn hB b10_2
     go_wp2_with fail
     refine hK.out _ _ ?_ fun hHeld=>?_
     ·exact⟨hv,h5.cell 0,h5.cell 1,h5.cell 2,h5.cell 3,h15.cell 0,h15.cell 1,h15.cell 2,h17.cell 0,h17.cell 1,h17.cell 2⟩
     clear hK K
     refine tkA 13 rfl ?_
     refine tkA 14 rfl ?_
     try simp only[Act.put,lay]
     try dsimp only
     try simp only[Act.put,lay]
     refine wpAnyH_done (by kernel_rfl) ?_ _
     refine NoPanic.normal ?_
     skip
     obtain⟨c74,c75,c76,c77⟩:=h5.q4
     obtain⟨c78,c79,c80,c81⟩:=h10.q4
     obtain⟨c82,c83,c84,c85⟩:=h12.q4
     obtain⟨c86,c87,c88⟩:=h14.q3
     obtain⟨c89,c90,c91⟩:=h15.q3
     obtain⟨c92,c93,c94⟩:=h17.q3
     clear hv g9
     obtain⟨hoR,hoN⟩:=HO.out
     replace hoR:=hoR.b hW
     replace hoN:=hoN.b hW
     have sr2:S≤u10_2.heap.size:=Nat.le_trans sr hW.size
     clear hW sr HO
     clear h14
     obtain⟨es,k1,k2,k3⟩:=hoN
     rw[←LN.out] at k2
     have hnoA:NoUB (u10_2.alloc (.cells #[.bool s17,.slice A17 L17 C17,.slice D17 M17 E17] 32)) (.slice Aa j Ca):=k3.below k2 ((Below.refl _ _).alloc (Nat.le_refl _) _)
     have hkA:OkQ (u10_2.alloc (.cells #[.bool s17,.slice A17 L17 C17,.slice D17 M17 E17] 32)) es Nl:=k1.below ((Below.refl _ _).alloc (Nat.le_refl _) _)
     have hqA:IsQ (u10_2.alloc (.cells #[.bool s17,.slice A17 L17 C17,.slice D17 M17 E17] 32)) (.agg #[.bool s17,.slice A17 L17 C17,.slice D17 M17 E17]) nj:=q17.below ((Below.refl _ _).alloc (Nat.le_refl _) _)
     have lt2:=k2.lt
     clear k1 k3
     go_upto_region 13 with (at_builtin;go_must (refine wpList_append_noU _ rfl _ _ 40 rfl S 32 i0 _ 3 56 Tryz.underlying40 hi0 hz0 hz1 hz2 rfl (by omega) (by simp[Value.cells,noU]) _ j (flatQ es) rfl (k2.alloc _) hnoA ⟨u10_2.heap.size,0,none⟩ 1 1 (cellsQ (s17,.slice A17 L17 C17,.slice D17 M17 E17)) rfl rfl (lit3_cells _ _ _ _ _) (by simp[cellsQ,Value.oneCell']) (by simp[cellsQ,noU]) (by omega) (by unfold maxLen;omega) (by omega) (by simp;omega) ?_;intro v' w41 hown' hgrow hno' hat;obtain⟨A41,C41,ev8,_,_,_⟩:=own3_form hown';subst ev8;have hz:=(h12.alloc (.cells #[.bool s17,.slice A17 L17 C17,.slice D17 M17 E17] 32)).grown hgrow (fun e=>by have:=(lt2 _ e.symm).1;omega);have xf:=hz.frozen;obtain⟨z0,z1,z2,z3⟩:=hz.q4))
     have hk:∀u l,IsL (u10_2.alloc (.cells #[.bool s17,.slice A17 L17 C17,.slice D17 M17 E17] 32)) u l→IsL w41 u l:=fun u l h=>IsL.noUB h hnoA (k2.alloc _) hgrow
     have al1:Below u10_2.heap.size u10_2 (u10_2.alloc (.cells #[.bool s17,.slice A17 L17 C17,.slice D17 M17 E17] 32)):=(Below.refl _ _).alloc (Nat.le_refl _) _
     have hpush:OwnQs w41 S (.slice A41 (j+1) C41) (Nl++[nj]):=OwnQs.push (e:=(s17,.slice A17 L17 C17,.slice D17 M17 E17)) hkA hnoA (by rw[←LN.out];exact k2.alloc _) hqA (by rw[←LN.out];exact hown') hgrow hno'
     have sz1:(u10_2.alloc (.cells #[.bool s17,.slice A17 L17 C17,.slice D17 M17 E17] 32)).heap.size=u10_2.heap.size+1:=World.size_alloc ..
     replace hB:Below w.heap.size w w41:=hB.trans (((Below.refl w.heap.size u10_2).alloc (by omega) _).grown hgrow (by omega) (fun k e=>by have:=(lt2 k e).1;omega))
     have sN:∀x,(Value.slice Ac j Cc).ownBlock=some x→(Value.slice A41 (j+1) C41).ownBlock≠some x:=fun x ex ey=>by
      have hx:=(hoR.lt x ex).2
      rcases hat with h | h
      ·exact sep x ex (h.symm.trans ey)
      ·rw[h] at ey;injection ey with ey;omega
     replace hoR:OwnQs w41 S (.slice Ac j Cc) Rl:=(hoR.below al1).grow hgrow (fun x ex e2=>sep x ex e2) hk
     clear h15
     clear c89 c90 c91
     replace h5:=(h5.below al1 h5.lt).grown hgrow (fun e=>by have:=(lt2 _ e.symm).1;omega)
     replace h10:=(h10.below al1 h10.lt).grown hgrow (fun e=>by have:=(lt2 _ e.symm).1;omega)
     replace q17:=(q17.below al1).filled hk
     replace h17:=(h17.below al1 h17.lt).grown hgrow (fun e=>by have:=oldN _ e.symm;omega)
     replace q18:=(q18.below al1).filled hk
     obtain⟨W41,eW,f1,f2,f3,f4⟩:=fillL3 hz (.slice A41 (j+1) C41) (by simp[noU])
     rw[←eW]
     have hps:OwnQs W41 S (.slice A41 (j+1) C41) (Nl++[nj]):=hpush.filled (fun e=>by have:=(hpush.lt _ e).1;omega) f2 f3
     replace hoR:OwnQs W41 S (.slice Ac j Cc) Rl:=hoR.filled (fun e=>by have:=(hoR.lt _ e).1;omega) f2 f3
     replace hB:=f4 _ _ (by omega) hB
     have sr3:S≤W41.heap.size:=by have:=hgrow.size;rw[eW];simp only[World.setCell,Array.size_modify];omega
     replace h5:=f3 _ _ _ h5 (by omega)
     replace h10:=f3 _ _ _ h10 (by omega)
     replace q17:=q17.filled f2
     replace h17:=f3 _ _ _ h17 (by omega)
     replace q18:=q18.filled f2
     replace h12:=f1
     clear eW f1 f2 f3 f4 hz hpush hk al1 hgrow hno' hown' hat k2 hnoA hkA hqA lt2 sz1 z0 z1 z2 z3 xf sr2 sep
     have sep:=sN
     have sr2:=sr3
     clear sN sr3
     have hoN:=hps
     clear hps
     clear c74 c75 c76 c77 c78 c79 c80 c81 c82 c83 c84 c85 c86 c87 c88 c92 c93 c94
     obtain⟨c95,c96,c97,c98⟩:=h5.q4
     obtain⟨c99,c100,c101,c102⟩:=h10.q4
     obtain⟨c103,c104,c105,c106⟩:=h12.q4
     obtain⟨c107,c108,c109⟩:=h17.q3
     clear q17
     obtain⟨es,k1,k2,k3⟩:=hoR
     rw[←LR.out] at k2
     have hnoA:NoUB (W41.alloc (.cells #[.bool s18,.slice A18 L18 C18,.slice D18 M18 E18] 32)) (.slice Ac j Cc):=k3.below k2 ((Below.refl _ _).alloc (Nat.le_refl _) _)
     have hkA:OkQ (W41.alloc (.cells #[.bool s18,.slice A18 L18 C18,.slice D18 M18 E18] 32)) es Rl:=k1.below ((Below.refl _ _).alloc (Nat.le_refl _) _)
     have hqA:IsQ (W41.alloc (.cells #[.bool s18,.slice A18 L18 C18,.slice D18 M18 E18] 32)) (.agg #[.bool s18,.slice A18 L18 C18,.slice D18 M18 E18]) rj:=q18.below ((Below.refl _ _).alloc (Nat.le_refl _) _)
     have lt2:=k2.lt
     clear k1 k3
     go_upto_region 6 with (at_builtin;go_must (refine wpList_append_noU _ rfl _ _ 40 rfl S 32 i0 _ 3 56 Tryz.underlying40 hi0 hz0 hz1 hz2 rfl (by omega) (by simp[Value.cells,noU]) _ j (flatQ es) rfl (k2.alloc _) hnoA ⟨W41.heap.size,0,none⟩ 1 1 (cellsQ (s18,.slice A18 L18 C18,.slice D18 M18 E18)) rfl rfl (lit3_cells _ _ _ _ _) (by simp[cellsQ,Value.oneCell']) (by simp[cellsQ,noU]) (by omega) (by unfold maxLen;omega) (by omega) (by simp;omega) ?_;intro v' w42 hown' hgrow hno' hat;obtain⟨A42,C42,ev8,_,_,_⟩:=own3_form hown';subst ev8;have hz:=(h12.alloc (.cells #[.bool s18,.slice A18 L18 C18,.slice D18 M18 E18] 32)).grown hgrow (fun e=>by have:=(lt2 _ e.symm).1;omega);have xf:=hz.frozen;obtain⟨z0,z1,z2,z3⟩:=hz.q4))
     have hk:∀u l,IsL (W41.alloc (.cells #[.bool s18,.slice A18 L18 C18,.slice D18 M18 E18] 32)) u l→IsL w42 u l:=fun u l h=>IsL.noUB h hnoA (k2.alloc _) hgrow
     have al1:Below W41.heap.size W41 (W41.alloc (.cells #[.bool s18,.slice A18 L18 C18,.slice D18 M18 E18] 32)):=(Below.refl _ _).alloc (Nat.le_refl _) _
     have hpush:OwnQs w42 S (.slice A42 (j+1) C42) (Rl++[rj]):=OwnQs.push (e:=(s18,.slice A18 L18 C18,.slice D18 M18 E18)) hkA hnoA (by rw[←LR.out];exact k2.alloc _) hqA (by rw[←LR.out];exact hown') hgrow hno'
     have sz1:(W41.alloc (.cells #[.bool s18,.slice A18 L18 C18,.slice D18 M18 E18] 32)).heap.size=W41.heap.size+1:=World.size_alloc ..
     replace hB:Below w.heap.size w w42:=hB.trans (((Below.refl w.heap.size W41).alloc (by omega) _).grown hgrow (by omega) (fun k e=>by have:=(lt2 k e).1;omega))
     have sN:∀x,(Value.slice A41 (j+1) C41).ownBlock=some x→(Value.slice A42 (j+1) C42).ownBlock≠some x:=fun x ex ey=>by
      have hx:=(hoN.lt x ex).2
      rcases hat with h | h
      ·exact sep x (h.symm.trans ey) ex
      ·rw[h] at ey;injection ey with ey;omega
     replace hoN:OwnQs w42 S (.slice A41 (j+1) C41) (Nl++[nj]):=(hoN.below al1).grow hgrow (fun x ex e2=>sep x e2 ex) hk
     clear h17
     clear c107 c108 c109
     replace h5:=(h5.below al1 h5.lt).grown hgrow (fun e=>by have:=(lt2 _ e.symm).1;omega)
     replace h10:=(h10.below al1 h10.lt).grown hgrow (fun e=>by have:=(lt2 _ e.symm).1;omega)
     replace q18:=(q18.below al1).filled hk
     obtain⟨W42,eW,f1,f2,f3,f4⟩:=fillL2 hz (.slice A42 (j+1) C42) (by simp[noU])
     rw[←eW]
     have hps:OwnQs W42 S (.slice A42 (j+1) C42) (Rl++[rj]):=hpush.filled (fun e=>by have:=(hpush.lt _ e).1;omega) f2 f3
     replace hoN:OwnQs W42 S (.slice A41 (j+1) C41) (Nl++[nj]):=hoN.filled (fun e=>by have:=(hoN.lt _ e).1;omega) f2 f3
     replace hB:=f4 _ _ (by omega) hB
     have sr3:S≤W42.heap.size:=by have:=hgrow.size;rw[eW];simp only[World.setCell,Array.size_modify];omega
     replace h5:=f3 _ _ _ h5 (by omega)
     replace h10:=f3 _ _ _ h10 (by omega)
     replace q18:=q18.filled f2
     replace h12:=f1
     clear eW f1 f2 f3 f4 hz hpush hk al1 hgrow hno' hown' hat k2 hnoA hkA hqA lt2 sz1 z0 z1 z2 z3 xf sr2 sep
     have sep:=sN
     have sr2:=sr3
     clear sN sr3
     have hoR:=hps
     clear hps
     clear c95 c96 c97 c98 c99 c100 c101 c102 c103 c104 c105 c106
     obtain⟨c110,c111,c112,c113⟩:=h5.q4
     obtain⟨c114,c115,c116,c117⟩:=h10.q4
     obtain⟨c118,c119,c120,c121⟩:=h12.q4
     go_wp2
     exact⟨⟨j+1,A42,A41,C42,C41,by go_num,by omega,h5,h10,h12,by rw[HR1.out];exact hoR,by rw[HN1.out];exact hoN,fun x e e2=>sep x e2 e,sr2,hB⟩,by simp[intOf];omega⟩
end Go.Proofs.YtdnjdglekifhpaaGreat
