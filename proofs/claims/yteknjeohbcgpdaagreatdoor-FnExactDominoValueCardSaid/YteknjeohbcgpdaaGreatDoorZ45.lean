/-
  Contract of the reference's DominoValue. (2 texts.)
-/
import Derived.Test.YteknjeohbcgpdaaGreatDoorZ13
import Derived.Test.YteknjeohbcgpdaaGreatDoorZ14
import Derived.Test.YteknjeohbcgpdaaGreatDoorZ16
import Derived.Test.YteknjeohbcgpdaaGreatDoorZ25
import Derived.Test.YteknjeohbcgpdaaGreatDoorZ44
import Derived.Laws.ResultCell
set_option maxRecDepth 100000
namespace Go.Proofs.YteknjeohbcgpdaaGreatDoor
open Tryz
section
open Go.RowKit
open Cgt (Dag Nd vl Same)
structure FO (w:World) (B:Nat) (v:Value) (n:Nat) (sl:Nat→Value) (ls:Nat→List Int):Prop where
 row:∃ xs,w.ownsRow B 89 2 v n xs∧∀ j,j<2*n→xs[j]?=some (sl j)
 own:∀ j,j<2*n→w.ownsRow B 3 1 (sl j) (ls j).length ((ls j).map (Value.int .i64))
 ap:∀ i j,i<2*n→j<2*n→i≠j→∀ b,(sl i).ownBlock=some b→(sl j).ownBlock≠some b
 ap0:∀ j,j<2*n→∀ b,(sl j).ownBlock=some b→v.ownBlock≠some b
theorem FO.ext {w w':World} {B:Nat} {v:Value} {n:Nat} {sl:Nat→Value} {ls:Nat→List Int} (h:FO w B v n sl ls) (hx:Ext w w'):FO w' B v n sl ls:=by
 obtain⟨xs,h1,h2⟩:=h.row
 exact⟨⟨xs,aJ h1 hx,h2⟩,fun j hj=>aJ (h.own j hj) hx,h.ap,h.ap0⟩
theorem FO.set {w w':World} {B:Nat} {v:Value} {n:Nat} {sl:Nat→Value} {ls:Nat→List Int} (h:FO w B v n sl ls) {j:Nat} (hj:j<2*n) {l:List Int} (hk:bg (fun b=>(sl j).ownBlock=some b) w w') (ho:w'.ownsRow B 3 1 (sl j) l.length (l.map (Value.int .i64))):FO w' B v n sl (fun q=>if q=j then l else ls q):=by
 obtain⟨xs,h1,h2⟩:=h.row
 refine⟨⟨xs,aI h1 hk (fun b hb e=>h.ap0 j hj b e hb),h2⟩,fun q hq=>?_,h.ap,h.ap0⟩
 by_cases c:q=j
 · subst c;simp only[if_true];exact ho
 · simp only[c,if_false];exact aI (h.own q hq) hk (fun b hb e=>h.ap q j hq hj c b hb e)
theorem FO.cell {w:World} {B:Nat} {v:Value} {n:Nat} {sl:Nat→Value} {ls:Nat→List Int} (h:FO w B v n sl ls) {i:Nat} (hi:i<n):∃ g cap,v=.slice (some ⟨g,0,none⟩) n cap∧n≤cap∧w.cell? ⟨g,i*2,none⟩=some (sl (2*i))∧w.cell? ⟨g,i*2+1,none⟩=some (sl (2*i+1)):=by
 obtain⟨xs,h1,h2⟩:=h.row
 obtain⟨g,cap,rfl,hc,_,hcell⟩:=dC h1 (by omega)
 exact⟨g,cap,rfl,hc,by rw[hcell _ (by omega),Nat.mul_comm];exact h2 _ (by omega),by rw[hcell _ (by omega),Nat.mul_comm];exact h2 _ (by omega)⟩
theorem FO.slice {w:World} {B:Nat} {v:Value} {n:Nat} {sl:Nat→Value} {ls:Nat→List Int} (h:FO w B v n sl ls) {j:Nat} (hj:j<2*n):∃ a c,sl j=.slice a (ls j).length c:=by
 obtain⟨a,c,e,_⟩:=az (h.own j hj);exact⟨a,c,e⟩
def df (ls:Nat→List Int):Nat→Int
 | 0=>1
 | j+1=>df ls j+(ls j).length
theorem p8 {ls:Nat→List Int} {i j:Nat} (h:i≤j):df ls i≤df ls j:=by
 induction j with
 | zero=>have:i=0:=by omega
         subst this;exact Int.le_refl _
 | succ j ih =>
   by_cases c:i=j+1
   · subst c;exact Int.le_refl _
   · have:=ih (by omega);rw[df];omega
theorem j6 (ls:Nat→List Int) (j:Nat):1≤df ls j:=by have:=p8 (ls:=ls) (Nat.zero_le j);simpa [df] using this
def marked (ls:Nat→List Int) (m:Nat) (q:Nat):List Int:=if q<m then dQ (df ls q) (ls q).length else ls q
theorem wO (ls:Nat→List Int) (m:Nat):(fun q=>if q=m then dQ (df ls m) (ls m).length else marked ls m q)=marked ls (m+1):=by
 funext q
 unfold marked
 by_cases c:q=m
 · subst c;simp
 · by_cases d:q<m
   · simp[c,d,show q<m+1 by omega]
   · simp[c,d,show ¬ q<m+1 by omega]
theorem Rj (ls:Nat→List Int) (m q:Nat):(marked ls m q).length=(ls q).length:=by
 unfold marked;split
 · exact fF _ _
 · rfl
theorem DV (ls:Nat→List Int):marked ls 0=ls:=by funext q;simp[marked]
def Lists (n:Nat) (sl:Nat→Value) (b:Nat):Prop:=∃ j,j<2*n∧(sl j).ownBlock=some b
set_option maxHeartbeats 1000000 in
theorem A9 (v:Value) (n B:Nat) (sl:Nat→Value) (ls:Nat→List Int) (w:World) (h:FO w B v n sl ls) (hn:n≤1000000) (h1:df ls (2*n)≤1000000000) :
 Calls prog 49 #[v,.int .i64 1] w fun e w'=>e=.returned (.int .i64 (df ls (2*n)))∧FO w' B v n sl (marked ls (2*n))∧bg (Lists n sl) w w':=by
 obtain⟨a,cap,rfl,hc,hcm⟩:∃ a cap,v=.slice a n cap∧n≤cap∧cap≤maxLen:=by obtain⟨xs,h2,_⟩:=h.row;exact az h2
 go_enter Tryz.func49,Tryz.ntmps49
 go_wp2
 go_loopw [1,5] (fun kk ii wr=>∃ i,i≤n∧ii=.int .i64 ((i:Nat):Int)∧kk=.int .i64 (df ls (2*i))∧FO wr B (.slice a n cap) n sl (marked ls (2*i))∧bg (Lists n sl) w wr) (fun _ ii _=>n-(intOf ii).toNat)
 case atStart=>exact⟨0,Nat.zero_le _,rfl,rfl,by rw[Nat.mul_zero,DV];exact h,bg.refl _ _⟩
 case round =>
  obtain⟨i,hi,rfl,rfl,hF,hK⟩:=hrel
  by_cases hlt:i<n
  · have h2:((i:Nat):Int)<(n:Int):=by omega
    obtain⟨g,cap',he,-,cl,cr⟩:=hF.cell hlt
    simp only[Value.slice.injEq] at he
    obtain⟨rfl,-,rfl⟩:=he
    have hj0:2*i<2*n:=by omega
    have hj1:2*i+1<2*n:=by omega
    obtain⟨aL,cL,eL⟩:=hF.slice hj0
    obtain⟨aR,cR,eR⟩:=hF.slice hj1
    have oL:=hF.own _ hj0
    have p0:=j6 ls (2*i)
    have p1:=j6 ls (2*i+1)
    have q0:=p8 (ls:=ls) (show 2*i+1≤2*n by omega)
    have q1:=p8 (ls:=ls) (show 2*i+1+1≤2*n by omega)
    have s0:df ls (2*i+1)=df ls (2*i)+(ls (2*i)).length:=rfl
    have s1:df ls (2*i+1+1)=df ls (2*i+1)+(ls (2*i+1)).length:=rfl
    have m0:marked ls (2*i) (2*i)=ls (2*i):=by simp[marked]
    have m1:marked ls (2*i) (2*i+1)=ls (2*i+1):=by unfold marked;rw[if_neg (by omega)]
    rw[m0] at oL eL
    rw[m1] at eR
    have EL:=Hd_ eL
    have ER:=Hd_ eR
    rw[eL] at cl oL
    rw[eR] at cr
    have bL:0≤df ls (2*i)∧df ls (2*i)+(ls (2*i)).length≤4611686018427387904:=by omega
    have bR:0≤df ls (2*i+1)∧df ls (2*i+1)+(ls (2*i+1)).length≤4611686018427387904:=by omega
    have S0:=Hd_ s0
    have S1:=Hd_ s1
    have HF:=Hd_ hF
    have HK:=Hd_ hK
    clear eL eR m0 m1 s0 s1 q0 q1 hF hK
    go_upto_region 5 with (go_at_call 90;refine(uo _ (ls (2*i)) _ B _ oL bL.1 bL.2).mono ?_;rintro e w1 ⟨rfl,ho1,hk1⟩)
    have hF1:FO w1 B (.slice (some ⟨g,0,none⟩) n cap) n sl (marked ls (2*i+1)):=by
     have:=HF.out.set hj0 (l:=dQ (df ls (2*i)) (ls (2*i)).length) (by rw[EL.out];exact hk1) (by rw[EL.out,fF];exact ho1)
     rw[wO] at this;exact this
    have oR:=hF1.own _ hj1
    have m2:marked ls (2*i+1) (2*i+1)=ls (2*i+1):=by simp[marked]
    rw[m2,ER.out] at oR
    obtain⟨g2,cap2,he2,-,cl2,cr2⟩:=hF1.cell hlt
    simp only[Value.slice.injEq,Option.some.injEq,Addr.mk.injEq,and_true,true_and] at he2
    obtain⟨rfl,rfl⟩:=he2
    rw[ER.out] at cr2
    have hK1:bg (Lists n sl) w w1:=HK.out.trans hk1 (fun x _ e=>⟨2*i,hj0,by rw[EL.out];exact e⟩)
    have HF1:=Hd_ hF1
    have HK1:=Hd_ hK1
    rw[← S0.out]
    clear m2 hF1 hK1 cl2 cl cr ho1 hk1 oL
    go_wp2_with (go_at_call 90;refine(uo _ (ls (2*i+1)) _ B _ oR bR.1 bR.2).mono ?_;rintro e w2 ⟨rfl,ho2,hk2⟩)
    go_roundw
    case rel =>
     refine⟨i+1,by omega,by go_num,?_,?_,HK1.out.trans hk2 (fun x _ e=>⟨2*i+1,hj1,by rw[ER.out];exact e⟩)⟩
     · rw[show 2*(i+1)=2*i+1+1 by omega,S1.out]
     · have:=HF1.out.set hj1 (l:=dQ (df ls (2*i+1)) (ls (2*i+1)).length) (by rw[ER.out];exact hk2) (by rw[ER.out,fF];exact ho2)
       rw[wO] at this
       rw[show 2*(i+1)=2*i+1+1 by omega];exact this
    case measure=>simp[intOf];omega
  · have h2:¬ (((i:Nat):Int)<(n:Int)):=by omega
    have hie:i=n:=by omega
    subst hie
    go_wp2
    go_ret
    exact⟨rfl,hF,hK⟩
theorem Cf (v:Value) (n B:Nat) (sl:Nat→Value) (ls:Nat→List Int) (w:World) (h:FO w B v n sl ls) (hn:n≤1000000) (h1:df ls (2*n)≤1000000000) :
 Calls prog 14 #[.agg #[v],.int .i64 1] w fun e w'=>e=.returned (.int .i64 (df ls (2*n)))∧FO w' B v n sl (marked ls (2*n))∧bg (Lists n sl) w w':=by
 obtain⟨a,cap,rfl,hc,hcm⟩:∃ a cap,v=.slice a n cap∧n≤cap∧cap≤maxLen:=by obtain⟨xs,h2,_⟩:=h.row;exact az h2
 have hE:Ext w (w.alloc (.cells #[.slice a n cap] 28)):=by go_grown
 have b0:=heap_alloc_new w (.cells #[.slice a n cap] 28)
 go_enter Tryz.func14,Tryz.ntmps14
 go_upto_region 1 with fail
 generalize w.alloc (.cells #[.slice a n cap] 28)=W at *
 have c0:=cell_of_row W w.heap.size 0 _ _ _ b0
 go_wp2_with (go_at_call 49;refine(A9 _ n B sl ls _ (h.ext hE) hn h1).mono ?_;rintro e w1 ⟨rfl,hF,hk⟩)
 go_ret
 exact⟨rfl,hF,(bZ (F:=Lists n sl) hE).trans hk (fun _ _ h=>h)⟩
set_option maxHeartbeats 1000000 in
theorem Bg (v:Value) (n B:Nat) (sl:Nat→Value) (ls:Nat→List Int) (w:World) (h:FO w B v n sl (marked ls (2*n))) (hn:n≤1000000) (h1:df ls (2*n)≤1000000000) :
 Calls prog 50 #[v,.int .i64 1] w fun e w'=>e=.returned (.int .i64 (df ls (2*n)))∧RD w w':=by
 obtain⟨a,cap,rfl,hc,hcm⟩:∃ a cap,v=.slice a n cap∧n≤cap∧cap≤maxLen:=by obtain⟨xs,h2,_⟩:=h.row;exact az h2
 go_enter Tryz.func50,Tryz.ntmps50
 go_wp2
 go_loopw [1,5] (fun kk ii wr=>∃ i m,i≤n∧ii=.int .i64 ((i:Nat):Int)∧kk=.int .i64 (df ls (2*i))∧wr=w.drewN m) (fun _ ii _=>n-(intOf ii).toNat)
 case atStart=>exact⟨0,0,Nat.zero_le _,rfl,rfl,rfl⟩
 case round =>
  obtain⟨i,m,hi,rfl,rfl,rfl⟩:=hrel
  by_cases hlt:i<n
  · have h2:((i:Nat):Int)<(n:Int):=by omega
    obtain⟨g,cap',he,-,cl,cr⟩:=h.cell hlt
    simp only[Value.slice.injEq] at he
    obtain⟨rfl,-,rfl⟩:=he
    have hj0:2*i<2*n:=by omega
    have hj1:2*i+1<2*n:=by omega
    obtain⟨aL,cL,eL⟩:=h.slice hj0
    obtain⟨aR,cR,eR⟩:=h.slice hj1
    have p0:=j6 ls (2*i)
    have p1:=j6 ls (2*i+1)
    have p2:=j6 ls (2*i+1+1)
    have q0:=p8 (ls:=ls) (show 2*i+1≤2*n by omega)
    have q1:=p8 (ls:=ls) (show 2*i+1+1≤2*n by omega)
    have s0:df ls (2*i+1)=df ls (2*i)+(ls (2*i)).length:=rfl
    have s1:df ls (2*i+1+1)=df ls (2*i+1)+(ls (2*i+1)).length:=rfl
    have m0:marked ls (2*n) (2*i)=dQ (df ls (2*i)) (ls (2*i)).length:=by simp only[marked,hj0,if_true]
    have m1:marked ls (2*n) (2*i+1)=dQ (df ls (2*i+1)) (ls (2*i+1)).length:=by simp only[marked,hj1,if_true]
    have iL:=Ints.bG (h.own _ hj0) (by rw[m0,fF];omega)
    have iR:=Ints.bG (h.own _ hj1) (by rw[m1,fF];omega)
    rw[m0] at iL eL
    rw[m1] at iR eR
    rw[fF] at eL eR
    rw[eL] at cl iL
    rw[eR] at cr iR
    have bL:0≤df ls (2*i)∧df ls (2*i)+((ls (2*i)).length:Int)≤4611686018427387904:=by omega
    have bR:0≤df ls (2*i+1)∧df ls (2*i+1)+((ls (2*i+1)).length:Int)≤4611686018427387904:=by omega
    have n0:¬ (df ls (2*i)+((ls (2*i)).length:Int)<0):=by omega
    have S0:=Hd_ s0
    have S1:=Hd_ s1
    clear eL eR m0 m1 s0 s1 q0 q1
    go_upto_region 5 with (go_at_call 91;refine(uL _ (ls (2*i)).length _ _ (eX iL _) bL.1 bL.2).mono ?_;rintro e w1 ⟨rfl,q,rfl⟩)
    rw[← S0.out] at n0 ⊢
    have n1:¬ (df ls (2*i+1)+((ls (2*i+1)).length:Int)<0):=by omega
    go_wp2_with (go_at_call 91;refine(uL _ (ls (2*i+1)).length _ _ (by first | exact eX iR _ | exact eX (eX iR _) _) bR.1 bR.2).mono ?_;rintro e w2 ⟨rfl,q2,rfl⟩)
    go_roundw
    case rel=>exact⟨i+1,_,by omega,by go_num,by rw[show 2*(i+1)=2*i+1+1 by omega,S1.out],by first | rfl | simp only[World.drewN_drewN]⟩
    case measure=>simp[intOf];omega
  · have h2:¬ (((i:Nat):Int)<(n:Int)):=by omega
    have hie:i=n:=by omega
    subst hie
    go_wp2
    go_ret
    exact⟨rfl,rd1 _ _⟩
theorem uM (v:Value) (n B:Nat) (sl:Nat→Value) (ls:Nat→List Int) (w:World) (h:FO w B v n sl (marked ls (2*n))) (hn:n≤1000000) (h1:df ls (2*n)≤1000000000) :
 Calls prog 15 #[.agg #[v],.int .i64 1] w fun e w'=>e=.returned (.int .i64 (df ls (2*n)))∧Ext w w':=by
 obtain⟨a,cap,rfl,hc,hcm⟩:∃ a cap,v=.slice a n cap∧n≤cap∧cap≤maxLen:=by obtain⟨xs,h2,_⟩:=h.row;exact az h2
 have hE:Ext w (w.alloc (.cells #[.slice a n cap] 28)):=by go_grown
 have b0:=heap_alloc_new w (.cells #[.slice a n cap] 28)
 have hp:=j6 ls (2*n)
 go_enter Tryz.func15,Tryz.ntmps15
 go_upto_region 1 with fail
 generalize w.alloc (.cells #[.slice a n cap] 28)=W at *
 have c0:=cell_of_row W w.heap.size 0 _ _ _ b0
 go_wp2_with (go_at_call 50;refine(Bg _ n B sl ls _ (h.ext hE) hn h1).mono ?_;rintro e w1 ⟨rfl,q,rfl⟩)
 go_ret
 exact⟨rfl,bN hE _⟩
def iJ (F:Dag) (j:Nat):List Int:=if j % 2=0 then toZ (F.getD (j / 2) ([],[])).1 else toZ (F.getD (j / 2) ([],[])).2
theorem FO.qw {w w':World} {B:Nat} {v:Value} {n:Nat} {sl:Nat→Value} {ls:Nat→List Int} {G:Nat→Prop} (h:FO w B v n sl ls) (hk:bg G w w') (hG:∀ b,G b→b<B):FO w' B v n sl ls:=by
 obtain⟨xs,h1,h2⟩:=h.row
 exact⟨⟨xs,aI h1 hk (fun b hb g=>by have:=hG b g;have:=(h1.lt b hb).1;omega),h2⟩,fun j hj=>aI (h.own j hj) hk (fun b hb g=>by have:=hG b g;have:=((h.own j hj).lt b hb).1;omega),h.ap,h.ap0⟩
theorem FO.lists {w:World} {B:Nat} {v:Value} {n:Nat} {sl:Nat→Value} {ls:Nat→List Int} (h:FO w B v n sl ls) {b:Nat} (hb:Lists n sl b):B≤b∧b<w.heap.size:=by
 obtain⟨j,hj,e⟩:=hb;exact(h.own j hj).lt b e
theorem FO.top {w:World} {B:Nat} {v:Value} {n:Nat} {sl:Nat→Value} {ls:Nat→List Int} (h:FO w B v n sl ls):∃ a c,v=.slice a n c:=by
 obtain⟨xs,h1,_⟩:=h.row;obtain⟨a,c,h,_⟩:=az h1;exact⟨a,c,h⟩
theorem FO.nodes {w:World} {B:Nat} {v:Value} {F:Dag} {sl:Nat→Value} (h:FO w B v F.length sl (iJ F)) (hs:∀ j,j<2*F.length→(iJ F j).length≤1152921504606846976) (hl:F.length≤maxLen):bP w 0 v F:=by
 obtain⟨xs,h1,h2⟩:=h.row
 refine bP.bG (K:=fun _=>False) (xh h1 (Nat.zero_le _)) (fun i hi=>?_)
 have g:F.getD i ([],[])=F[i]:=by rw[List.getD_eq_getElem?_getD,List.getElem?_eq_getElem hi];rfl
 have e0:iJ F (2*i)=toZ (F[i]).1:=by unfold iJ;rw[if_pos (by omega),show 2*i / 2=i by omega,g]
 have e1:iJ F (2*i+1)=toZ (F[i]).2:=by unfold iJ;rw[if_neg (by omega),show (2*i+1) / 2=i by omega,g]
 have o0:=h.own (2*i) (by omega)
 have o1:=h.own (2*i+1) (by omega)
 have s0:=hs (2*i) (by omega)
 have s1:=hs (2*i+1) (by omega)
 rw[e0] at o0 s0
 rw[e1] at o1 s1
 exact⟨sl (2*i),sl (2*i+1),by rw[Nat.mul_comm];exact h2 _ (by omega),by rw[Nat.mul_comm];exact h2 _ (by omega),Ints.bG o0 s0,Ints.bG o1 s1,fun b hb=>⟨Nat.zero_le _,(o0.lt b hb).2,id⟩,fun b hb=>⟨Nat.zero_le _,(o1.lt b hb).2,id⟩⟩
theorem dJ {P:Program} {fn:Func} {p u:Tmp} {ty:TypeId} (h:fn.results=#[.cell p ty,.tmp u]) (tmps:Array Value) (w:World) (g:Nat) (t:TypeId) (cs:Array Value) (fr:Nat × Nat) (d:TypeDesc)
 (hp:tmps.getD p undef=.pointer (some ⟨g,0,none⟩)) (hg:w.heap[g]?=some (.cells cs t fr))
 (hu:P.underlying ty=some d) (hd:(match d with | .struct _ | .array _ _=>true | _=>false)=true) (hi:(P.info? ty).map (·.size)=some cs.size) {v:Value} (hv:tmps.getD u undef=v) :
 (results fn tmps).run P w=.ok (.tuple #[.agg cs,v]) w:=by
 have hp':tmps[p]?.getD undef=.pointer (some ⟨g,0,none⟩):=by simpa using hp
 subst hv
 rw[results_cell_tmp h]
 simp[hp',asAddr,run_loadVar_row w g t ty cs fr d hg hu hd hi]
end
section
open Go.RowKit
open Cgt (Dag Nd vl Same Gm Canon Eqv Ge Brd GB fU fr gB bS kB)
def zN (b:Brd) (Fr:Dag) (ok:Bool):Prop:=(fU b=true∧bS b≤9∧∃ F,dU F (gB (fr b))∧ok=iU F∧Fr=if ok then F else [])∨((fU b=false∨¬ bS b≤9)∧ok=false∧Fr=[])
theorem zN.unique {b:Brd} {F G:Dag} {x y:Bool} (h:zN b F x) (k:zN b G y):F=G∧x=y:=by
 rcases h with ⟨h1,h1',F1,h2,h3,h4⟩ | ⟨h1,h2,h3⟩ <;> rcases k with ⟨k1,k1',F2,k2,k3,k4⟩ | ⟨k1,k2,k3⟩
 · have:=h2.unique k2
   subst this;subst h3;subst k3;exact⟨by rw[h4,k4],rfl⟩
 · rcases k1 with k1 | k1
   · rw[h1] at k1;cases k1
   · exact absurd h1' k1
 · rcases h1 with h1 | h1
   · rw[k1] at h1;cases h1
   · exact absurd k1' h1
 · exact⟨by rw[h3,k3],by rw[h2,k2]⟩
theorem TB.empty {w:World} {px:Nat} (h:w.heap[px]?=some (.cells #[.slice none 0 0,.slice none 0 0] 64 (0,0))):TB w px (.slice none 0 0) (.slice none 0 0) (fun _=>False) [] :=
 ⟨h,⟨by simp,.inl ⟨rfl,rfl⟩⟩,⟨[],⟨by simp,.inl ⟨rfl,rfl⟩⟩,Items.nil (fun b h=>h.elim)⟩,fun b h=>h.elim,by simp[Value.ownBlock],by simp[Value.ownBlock],by simp[Value.ownBlock],fun x h=>absurd h (by simp)⟩
theorem Strs.keep' {w w':World} {v:Value} {ss:List ByteArray} (h:Strs w v ss) (hk:∀ b,b<w.heap.size→v.ownBlock=some b→w'.heap[b]?=w.heap[b]?):Strs w' v ss :=
 gH.keep h fun b hl hb=>hk b (gH.blk h hl hb) hb
def J6 (b:Brd) (w:World) (e:Ending) (w':World):Prop :=
 ∃ vN Fr ok,e=.returned (.tuple #[.agg #[vN],.bool ok])∧bP w' 0 vN Fr∧zN b Fr ok∧Ext w w'
set_option maxHeartbeats 2000000 in
theorem zh (v:Value) (ss:List ByteArray) (w:World) (hv:Strs w v ss) (hl:ss.length≤1048576) (hs:∀ s,s∈ss→s.size≤1048576):Calls prog 8 #[.agg #[v]] w (J6 (bd ss) w):=by
 obtain⟨a,cap,rfl,hcap,hml⟩:=hv.open
 have hb1:((w.alloc (.cells #[.slice a ss.length cap] 31)).alloc (.cells #[.slice none 0 0] 28)).heap[w.heap.size]?=some (.cells #[.slice a ss.length cap] 31 (0,0)):=by
  rw[Below.heap_alloc _ _ _ (by simp)];exact heap_alloc_new _ _
 have hb2:((w.alloc (.cells #[.slice a ss.length cap] 31)).alloc (.cells #[.slice none 0 0] 28)).heap[w.heap.size+1]?=some (.cells #[.slice none 0 0] 28 (0,0)):=by
  have h:=heap_alloc_new (w.alloc (.cells #[.slice a ss.length cap] 31)) (.cells #[.slice none 0 0] 28);rw[sA_] at h;exact h
 have hx2:Ext w ((w.alloc (.cells #[.slice a ss.length cap] 31)).alloc (.cells #[.slice none 0 0] 28)):=by go_grown
 have HV:=Hd_ hv
 have HS:=Hd_ (And.intro hl hs)
 clear hl hs hv
 cases hg:fU (bd ss) with
 | false =>
   have HNO:Hid (fU (bd ss)=false∨¬ bS (bd ss)≤9):=Hd_ (.inl hg)
   go_enter Tryz.func8,Tryz.ntmps8
   go_upto_region 1 with fail
   generalize (w.alloc (.cells #[.slice a ss.length cap] 31)).alloc (.cells #[.slice none 0 0] 28)=W at *
   have c0:=cell_of_row W w.heap.size 0 _ _ _ hb1
   go_upto_region 2 with (go_at_call 30;refine(kL _ ss _ (HV.out.ext hx2) HS.out.1 HS.out.2).mono ?_;rintro e w1 ⟨he,hx1⟩;rw[hg] at he;subst he)
   have hr1:w1.heap[w.heap.size+1]?=some (.cells #[.slice none 0 0] 28 (0,0)):=(hx1.block _ (ah hb2)).trans hb2
   have d0:=cell_of_row w1 (w.heap.size+1) 0 _ _ _ hr1
   have f0:=frozen_of_row w1 (w.heap.size+1) 0 _ _ hr1
   have HE:=Hd_ (aa hx2 hx1)
   clear c0
   go_wp2
   have HH:=Hd_ (heap_setCell_same w1 (w.heap.size+1) 0 _ _ (.slice none 0 0) hr1)
   (try simp only[Exit.inBlock,Exit.then])
   refine bodyPost_ret (dJ rfl _ _ (w.heap.size+1) 28 #[.slice none 0 0] (0,0) _ rfl HH.out underlying28 rfl (by kernel_rfl) rfl) rfl ?_
   exact⟨_,[],false,rfl,⟨none,0,rfl,Nat.le_refl _,Nat.zero_le _,fun h=>absurd h (by simp)⟩,.inr ⟨HNO.out,rfl,rfl⟩,HE.out.setCell (p:=⟨w.heap.size+1,0,none⟩) (by show w.heap.size≤w.heap.size+1;omega) _⟩
 | true =>
   obtain⟨hh,ww,g⟩:=Cgt.AA.1 hg
   by_cases h9:bS (bd ss)≤9
   · go_enter Tryz.func8,Tryz.ntmps8
     go_upto_region 1 with fail
     generalize (w.alloc (.cells #[.slice a ss.length cap] 31)).alloc (.cells #[.slice none 0 0] 28)=W at *
     have c0:=cell_of_row W w.heap.size 0 _ _ _ hb1
     have hq9:¬ ((9:Int)<((bS (bd ss):Nat):Int)):=by omega
     have H9:=Hd_ h9
     clear h9
     go_upto_region 3 with (first
      | (go_at_call 37;refine(wS _ ss hh ww w1 (HV.out.ext (aa hx2 hx1)) g).mono ?_;rintro e w2 ⟨rfl,mU⟩)
      | (go_at_call 30;refine(kL _ ss _ (HV.out.ext hx2) HS.out.1 HS.out.2).mono ?_;rintro e w1 ⟨he,hx1⟩;rw[hg] at he;subst he;have c1:=(hx1.cell (lt_of_cell c0)).trans c0))
     have hE1:=aa (aa hx2 hx1) mU
     have hxx:=aa hx1 mU
     have hr1:w2.heap[w.heap.size+1]?=some (.cells #[.slice none 0 0] 28 (0,0)):=(hxx.block _ (ah hb2)).trans hb2
     have hq1:w2.heap[w.heap.size]?=some (.cells #[.slice a ss.length cap] 31 (0,0)):=(hxx.block _ (ah hb1)).trans hb1
     clear c0 c1 hq9 mU hx1 hxx hb1 hb2 hx2
     go_upto_region 4 with fail
     have hxb:Ext w2 (w2.alloc (.cells #[.slice none 0 0,.slice none 0 0] 64)):=by go_grown
     have hpb:=heap_alloc_new w2 (.cells #[.slice none 0 0,.slice none 0 0] 64)
     have hrb:=(hxb.block _ (ah hr1)).trans hr1
     have hqb:=(hxb.block _ (ah hq1)).trans hq1
     have hE2:=aa hE1 hxb
     have hzp:w.heap.size+1<w2.heap.size:=ah hr1
     clear hr1 hq1 hxb hE1
     generalize w2.alloc (.cells #[.slice none 0 0,.slice none 0 0] 64)=W2 at *
     generalize w2.heap.size=px at *
     have hTB:=TB.empty hpb
     have hpx:=ah hpb
     have hIS:∀ b,InS px (.slice none 0 0) (.slice none 0 0) b→b=px:=fun b hb=>by
      rcases hb with h | h | h
      · exact h
      · simp[Value.ownBlock] at h
      · simp[Value.ownBlock] at h
     have hve:=HV.out.ext hE2
     have hzv:=hE2.size
     have PG:Sup (Ii W2 px (.slice none 0 0) (.slice none 0 0)) (fun W=>Strs W (.slice a ss.length cap) ss) W2 :=
      ⟨fun b hb=>hb.1,fun W h2=>gH.keep hve fun b hl hb=>h2 b ⟨gH.blk hve hl hb,fun k=>by have:=hIS b k;have:=gH.blk HV.out hl hb;omega⟩⟩
     have c0:=cell_of_row W2 w.heap.size 0 _ _ _ hqb
     have hk9:=Cgt.kB_9 H9.out
     have hval:=(MR (bS (bd ss))).1 ss hh ww (.slice a ss.length cap) px (.slice none 0 0) (.slice none 0 0) (fun _=>False) [] W2 (Nat.le_refl _) H9.out g PG hTB (by simp;omega)
     clear hve PG hTB hpb
     go_upto_region 5 with (go_at_call 38;refine hval.mono ?_;rintro e w3 ⟨vN,F,vt',vf',S',L',rfl,hsN,hTV,hFk,hB3,hG3,hL3⟩;obtain⟨aN,cN,rfl⟩:=hsN.out.slice)
     have hz3:=hG3.keep.size
     have hrI:¬ InS px (.slice none 0 0) (.slice none 0 0) (w.heap.size+1):=fun k=>by have:=hIS _ k;omega
     have hr3:w3.heap[w.heap.size+1]?=some (.cells #[.slice none 0 0] 28 (0,0)):=(hG3.block (ah hrb) hrI).trans hrb
     have hE3:Ext w w3:=⟨hG3.keep.os.trans hE2.os,hG3.keep.tape.trans hE2.tape,hG3.keep.output.trans hE2.output,Nat.le_trans hE2.size hG3.keep.size,fun k hk=>(hG3.block (Nat.lt_of_lt_of_le hk hE2.size) (fun h=>by have:=hIS _ h;omega)).trans (hE2.block k hk)⟩
     have hx4:Ext w3 (w3.alloc (.cells #[.slice aN (List.length F) cN] 28)):=by go_grown
     have hf4:=heap_alloc_new w3 (.cells #[.slice aN (List.length F) cN] 28)
     have hN4:=hsN.out.ext hx4
     have Sk:=hsN.ext hx4
     have hS4:∀ b,S' b→b≠w.heap.size+1:=fun b hb e=>by
      rcases hG3.s2 b hb with k | k
      · exact k
      · have:=ah hrb;omega
     have hr4:(w3.alloc (.cells #[.slice aN (List.length F) cN] 28)).heap[w.heap.size+1]?=some (.cells #[.slice none 0 0] 28 (0,0)):=(hx4.block _ (ah hr3)).trans hr3
     have hE4:=aa hE3 hx4
     generalize w3.alloc (.cells #[.slice aN (List.length F) cN] 28)=W4 at *
     generalize w3.heap.size=pf at *
     have cf:=cell_of_row W4 pf 0 _ _ _ hf4
     have HT:=Hd_ hTV
     have hIF:=hTV.1
     clear hTV hx4 hE3 hE2 hG3 hB3 hsN hr3 hrI hqb hrb hIS hval c0
     cases hfit:iU F with
     | false =>
       go_wp2_with (go_at_call 39;refine(vk _ F _ hN4 hIF).mono ?_;rintro e w5 ⟨he,hx5⟩;rw[hfit] at he;subst he;have hr5:w5.heap[w.heap.size+1]?=some (.cells #[.slice none 0 0] 28 (0,0)):=(hx5.block _ (ah hr4)).trans hr4;have d0:=cell_of_row w5 (w.heap.size+1) 0 _ _ _ hr5;have f0:=frozen_of_row w5 (w.heap.size+1) 0 _ _ hr5)
       have HH:=Hd_ (heap_setCell_same w5 (w.heap.size+1) 0 _ _ (.slice none 0 0) hr5)
       (try simp only[Exit.inBlock,Exit.then])
       refine bodyPost_ret (dJ rfl _ _ (w.heap.size+1) 28 #[.slice none 0 0] (0,0) _ rfl HH.out underlying28 rfl (by kernel_rfl) rfl) rfl ?_
       exact⟨_,[],false,rfl,⟨none,0,rfl,Nat.le_refl _,Nat.zero_le _,fun h=>absurd h (by simp)⟩,.inl ⟨hg,H9.out,F,HT.out,hfit.symm,rfl⟩,(aa hE4 hx5).setCell (p:=⟨w.heap.size+1,0,none⟩) (by show w.heap.size≤w.heap.size+1;omega) _⟩
     | true =>
       go_wp2_with (go_at_call 39;refine(vk _ F _ hN4 hIF).mono ?_;rintro e w5 ⟨he,hx5⟩;rw[hfit] at he;subst he;have hr5:w5.heap[w.heap.size+1]?=some (.cells #[.slice none 0 0] 28 (0,0)):=(hx5.block _ (ah hr4)).trans hr4;have d0:=cell_of_row w5 (w.heap.size+1) 0 _ _ _ hr5;have f0:=frozen_of_row w5 (w.heap.size+1) 0 _ _ hr5;have cf5:w5.cell? ⟨pf,0,none⟩=some (.slice aN (List.length F) cN):=(hx5.cell (lt_of_cell cf)).trans cf)
       have HH:=Hd_ (heap_setCell_same w5 (w.heap.size+1) 0 _ _ (.slice aN (List.length F) cN) hr5)
       (try simp only[Exit.inBlock,Exit.then])
       refine bodyPost_ret (dJ rfl _ _ (w.heap.size+1) 28 #[.slice aN (List.length F) cN] (0,0) _ rfl HH.out underlying28 rfl (by kernel_rfl) rfl) rfl ?_
       exact⟨_,F,true,rfl,((Sk.ext hx5).keep (bJ (p:=⟨w.heap.size+1,0,none⟩) (v:=.slice aN (List.length F) cN)) hS4).out,.inl ⟨hg,H9.out,F,HT.out,hfit.symm,rfl⟩,(aa hE4 hx5).setCell (p:=⟨w.heap.size+1,0,none⟩) (by show w.heap.size≤w.heap.size+1;omega) _⟩
   · have HNO:Hid (fU (bd ss)=false∨¬ bS (bd ss)≤9):=Hd_ (.inr h9)
     go_enter Tryz.func8,Tryz.ntmps8
     go_upto_region 1 with fail
     generalize (w.alloc (.cells #[.slice a ss.length cap] 31)).alloc (.cells #[.slice none 0 0] 28)=W at *
     have c0:=cell_of_row W w.heap.size 0 _ _ _ hb1
     have hq9:((9:Int)<((bS (bd ss):Nat):Int)):=by omega
     clear h9
     go_upto_region 2 with (first
      | (go_at_call 37;refine(wS _ ss hh ww w1 (HV.out.ext (aa hx2 hx1)) g).mono ?_;rintro e w2 ⟨rfl,mU⟩)
      | (go_at_call 30;refine(kL _ ss _ (HV.out.ext hx2) HS.out.1 HS.out.2).mono ?_;rintro e w1 ⟨he,hx1⟩;rw[hg] at he;subst he;have c1:=(hx1.cell (lt_of_cell c0)).trans c0))
     have hr1:w2.heap[w.heap.size+1]?=some (.cells #[.slice none 0 0] 28 (0,0)):=(mU.block _ (ah ((hx1.block _ (ah hb2)).trans hb2))).trans ((hx1.block _ (ah hb2)).trans hb2)
     have d0:=cell_of_row w2 (w.heap.size+1) 0 _ _ _ hr1
     have f0:=frozen_of_row w2 (w.heap.size+1) 0 _ _ hr1
     have HE:=Hd_ (aa (aa hx2 hx1) mU)
     clear c0 c1
     go_wp2
     have HH:=Hd_ (heap_setCell_same w2 (w.heap.size+1) 0 _ _ (.slice none 0 0) hr1)
     (try simp only[Exit.inBlock,Exit.then])
     refine bodyPost_ret (dJ rfl _ _ (w.heap.size+1) 28 #[.slice none 0 0] (0,0) _ rfl HH.out underlying28 rfl (by kernel_rfl) rfl) rfl ?_
     exact⟨_,[],false,rfl,⟨none,0,rfl,Nat.le_refl _,Nat.zero_le _,fun h=>absurd h (by simp)⟩,.inr ⟨HNO.out,rfl,rfl⟩,HE.out.setCell (p:=⟨w.heap.size+1,0,none⟩) (by show w.heap.size≤w.heap.size+1;omega) _⟩
end
end Go.Proofs.YteknjeohbcgpdaaGreatDoor