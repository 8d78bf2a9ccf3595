/- 51 -/
import Derived.Test.YtplgooajigigkaaGreatDoorQ50
set_option maxRecDepth 100000
set_option maxHeartbeats 4000000
namespace Go.Proofs.YtplgooajigigkaaGreatDoor
open Tryz
open Go.RowKit
open aZ (cZ Nd Gm vl Same Ge N0 Val Canon gd bG bT)
variable {k:Int} {g:Gm}
theorem sS:eG (bG 16 k) (bT 16 k)=true↔gd k:=by
 obtain⟨h1,_,h3⟩:=aZ.uH 16 k;rw[jV];unfold aZ.gd;constructor
 .rintro⟨a,b,_⟩;exact⟨a,b⟩
 .rintro⟨a,b⟩;exact⟨a,b,by omega,by omega,by omega⟩
theorem Fg:jC (bG 16 k) (bT 16 k)=k:=(aZ.uH 16 k).2.1
theorem YF:eG (bG 17 k) (bT 17 k)=true↔k % 2=0/\gd (k / 2):=by
 by_cases e:k % 2=0
 .rw[show bG 17 k=bG 16 (k / 2) by rw[bG,if_pos e],show bT 17 k=bT 16 (k / 2) by rw[bT,if_pos e],sS];simp[e]
 .rw[show bG 17 k=k by rw[bG,if_neg e],show bT 17 k=17 by rw[bT,if_neg e],jV]
  constructor
  .rintro⟨_,_,_,h,_⟩;omega
  .rintro⟨h,_⟩;exact absurd h e
def JB(pp h:Nat)(s:iK)(i:Nat)(w:World)(e:Ending)(w':World):Prop:=
 ∃t p ok,e=.returned (.tuple #[xw t p,.bool ok])/\jd pp h s w s w'/\(ok=true->∃k,Val (vl s.D i) k/\t=bG 16 k/\p=bT 16 k)/\(ok=false->¬N0 (vl s.D i))
def Mq(m:Nat):Prop:=∀(pp h:Nat) (s:iK) (i:Nat) (w:World),bX w pp h s->i<s.D.length->Canon (vl s.D i)->i<m->Calls prog 56 #[.pointer (some ⟨pp,0,none⟩),.int .i64 (i:Int)] w (JB pp h s i w)
theorem ME(h:∀j,Val g j↔j=k/\gd j):(eG (bG 16 k) (bT 16 k)=true->∃j,Val g j/\bG 16 k=bG 16 j/\bT 16 k=bT 16 j)/\(eG (bG 16 k) (bT 16 k)=false->¬N0 g):=by
 refine⟨λe=>⟨k,(h k).2 ⟨rfl,sS.1 e⟩,rfl,rfl⟩,λe ⟨j,hj⟩=>?_⟩;obtain⟨rfl,hg⟩:=(h j).1 hj;rw[sS.2 hg]at e;cases e
theorem QF{a b:Int}(h:∀j,Val g j↔a<b/\2*j=a+b/\gd j)(hab:a<b):(eG (bG 17 (a+b)) (bT 17 (a+b))=true->∃j,Val g j/\bG 17 (a+b)=bG 16 j/\bT 17 (a+b)=bT 16 j)/\(eG (bG 17 (a+b)) (bT 17 (a+b))=false->¬N0 g):=by
 refine⟨λe=>?_,λe ⟨j,hj⟩=>?_⟩
 .obtain⟨h1,h2⟩:=YF.1 e
  exact⟨(a+b) / 2,(h _).2 ⟨hab,by omega,h2⟩,by rw[bG,if_pos h1],by rw[bT,if_pos h1]⟩
 .obtain⟨_,hj2,hg⟩:=(h j).1 hj
  have:eG (bG 17 (a+b)) (bT 17 (a+b))=true:=YF.2 ⟨by omega,by rw[show(a+b) / 2=j by omega];exact hg⟩;rw[this]at e;cases e
theorem oP{pp h:Nat}{s:iK}{w wz:World}(g:jd pp h s w s wz)(hP:bX w pp h s)(u v:Value):jd pp h s w s ((wz.setCell ⟨w.heap.size,0,none⟩ u).setCell ⟨w.heap.size,1,none⟩ v):=by
 have k:∀{w':World},jd pp h s w s w'->∀(i:Nat) (u:Value),jd pp h s w s (w'.setCell ⟨w.heap.size,i,none⟩ u):=λ{w'} g i u=>by
  have hk:dW (λb=>b=w.heap.size) w' (w'.setCell ⟨w.heap.size,i,none⟩ u):=dx (p:=⟨w.heap.size,i,none⟩);exact⟨g.pool.keep hk (λb hb e=>by have:=hP.Bq hb;omega) (λb hb e=>by have:=hP.uI hb;omega),g.keep.trans hk (λx hx e=>by omega),λ_ h=>.inl h,λ_ h=>h,λ_ h=>.inl h,⟨[],by simp⟩,λ_ _ h=>h⟩
 exact k (k g 0 u) 1 v
def Ol:List Row:=[⟨0,[],109,[12]⟩,⟨1,[0],110,[108]⟩,⟨2,[],111,[14]⟩,⟨3,[2,1],112,[110]⟩,⟨4,[1,3],113,[109,111]⟩,⟨5,[4,3],114,[112]⟩,⟨6,[5],115,[113]⟩,⟨7,[5],116,[113]⟩,⟨8,[6,5,0,1,2,3,4,5,6,7],0,[4,114]⟩,⟨9,[7,8,0,1,2,3,4,5,6,7,8],6,[115]⟩]
theorem Oy{m:Nat}(ih:Mq m):Mq (m+1):=by
 intro pp h s i w hP hi hc him;have hx:Ext w (w.alloc (.cells #[.int .i64 0,.int .i64 0] 34)):=by go_grown
 have hb:=dV w (.cells #[.int .i64 0,.int .i64 0] 34);have hO:Off pp h s (w.alloc (.cells #[.int .i64 0,.int .i64 0] 34)) (λb=>b=w.heap.size):=λb hb=>by
  subst hb;exact⟨by rw[eX];omega,λo=>by have:=hP.Bq o;omega⟩
 have HI:=aI (KT hP.good hi);have HN:=aI (WL hP.good i hi);have d:=ae hi;obtain⟨w1,w2⟩:=hP.good.wf i _ d;have hvl:=aZ.oN hP.good.wf d;have WV:=aZ.oK hP.good.wf d;have hii:((i:Nat):Int)<((s.D.length:Nat):Int):=by omega
 have hsm:=hP.small;have HP:=aI hP;have HC:=aI hc;have IH:=aI ih;obtain⟨OL,Pq⟩:=eu ((s.D[i]).1);obtain⟨OR,Qi⟩:=eu ((s.D[i]).2);rw[<-Pq]at w1 HI hvl;rw[<-Qi]at w2 HI WV;have HV:=jW hvl WV;clear d ih hvl WV hc hP;go_enter Tryz.func56,Tryz.ntmps56
 go_upto_region 1 with fail
 generalize w.alloc (.cells #[.int .i64 0,.int .i64 0] 34)=W at *;have HNI:=aI (WN pp h s i W (HP.out.ext hx) hi);by_cases hn:Gh (vl s.D i)
 .obtain⟨hl1,hr1,-,-,hge⟩:=HI.out.1 hn
  have yM:=aI hge;go_upto_region 3 with(go_at_call 106;refine HNI.out.mono ?_;rintro e w3 ⟨b,rfl,hbi,gU⟩;obtain rfl:b=true:=hbi.2 hn;clear hbi)
  have hgo:=(jd.refl HP.out hx).trans gU;have hR:w3.heap[w.heap.size]?=some (.cells #[.int .i64 0,.int .i64 0] 34 (0,0)):=(gU.keep.block _ (hO _ rfl).1 (hO _ rfl).2).trans hb;have hO3:=hO.go gU;clear hb hO gU hge HNI hx hn;obtain⟨gl,L9,aL,cL,xg,Lu,Lr,Es,yI⟩:=hgo.pool.qM hi;obtain⟨gr,L8,aR,cR,xe,Lp,nK,Er,hSR⟩:=hgo.pool.oO hi;rw[<-Pq]at Es yI;rw[<-Qi]at Er hSR;clear Pq Qi;have hp3:=hgo.pool;go_quiet (fail)
  generalize Tq:w3.drewN nq=W4;have hd4:Ext w3 W4:=by rw[<-Tq];exact dz ⟨_,rfl⟩
  have hg4:=hgo.ext hd4;have Y1:=kY hd4 hR;have hO4:=hO3.ext hd4;have PZ:=aI (nN.ext yI hd4);have Zh:=aI (nN.ext hSR hd4);clear Tq hd4 hgo hR hO3 xg xe Es Er yI hSR Lu Lr Lp nK hp3;by_cases hl0:OL.length=0
  .have z1:(((OL.length:Nat):Int)== 0)=true:=by simp[hl0]
   have hle:=cz hl0;by_cases hr0:OR.length=0
   .have z2:(((OR.length:Nat):Int)== 0)=true:=by simp[hr0]
    have hre:=cz hr0;have HV0:Hid (Val (vl s.D i) 0):=aI (aZ.val_zero (by rw[HV.out.1,hle];rfl) (by rw[HV.out.2,hre];rfl));obtain⟨q0,q1,q2,q3⟩:=dn Y1;have q4:=(q2 (.int .i64 0)).1;have q5:=(q2 (.int .i64 0)).2;have HQ:=aI (q3 (.int .i64 0) (.int .i64 0));have HG:=jW hg4 hO4;clear q2 q3 hg4 hO4 hl0 hr0 hle hre Y1;go_wp2
    refine tO w.heap.size 34 #[.int .i64 0,.int .i64 0] HQ.out underlying34 ?_;exact⟨0,0,true,rfl,oP HG.out.1 HP.out _ _,λ_=>⟨0,HV0.out,by decide,by decide⟩,λh=>(by cases h)⟩
   .have z2:(((OR.length:Nat):Int)== 0)=false:=by simp;exact λe=>hr0 (by rw[e];rfl)
    obtain⟨y,hoy⟩:∃y,OR=[y]:=by
     match OR,hr0,hr1 with
     |[],h,_=>exact absurd rfl h
     |[y],_,_=>exact⟨y,rfl⟩
     |_ :: _ :: _,_,h=>simp at h
    have hyD:=w2 y (by rw[hoy];simp);obtain⟨-,-,hk⟩:=jB.at Zh.out;obtain⟨br,ox,rfl,hk2⟩:=hk (by omega);have ck:W4.cell? ⟨br,ox,none⟩=some (.int .i64 ((y:Nat):Int)):=(by have:=hk2 0 (by omega);simp only[hoy,l5]at this;exact this);have hcy:Canon (vl s.D y):=HC.out.r (by rw[HV.out.2,hoy];simp);have HVL:Hid (∀a j:Int,Val (vl s.D y) a->(Val (vl s.D i) j↔j=a+-65536/\gd j)):=aI λa j hv=>aZ.NW HC.out (by rw[HV.out.1,hle];rfl) (by rw[HV.out.2,hoy];rfl) hv
    have HNY:Hid (¬N0 (vl s.D y)->¬N0 (vl s.D i)):=aI λh k=>h (aZ.vw.right _ _ k (by rw[HV.out.2,hoy];simp)).1
    have n1:0<OR.length:=(by omega);have HVX:=aI (IH.out pp h s y W4 hg4.pool (by omega) hcy (by omega));clear hk hk2 hoy hle hcy hl0 hr0;go_upto_region 13 with(go_at_call 56;refine HVX.out.mono ?_;rintro e w5 ⟨t5,p5,ok5,rfl,yf,hv5⟩;simp only[kX])
    obtain⟨V5,Y0,hx5,d5,Nk⟩:=AQ w5 t5 p5;rw[<-Y0];have hg5:=(hg4.trans yf).ext hx5;have Nu:V5.heap[w.heap.size]?=some (.cells #[.int .i64 0,.int .i64 0] 34 (0,0)):=by
     have h1:=(yf.keep.block _ (hO4 _ rfl).1 (hO4 _ rfl).2).trans Y1;exact kY hx5 h1
    obtain⟨c5,c6⟩:=d5.cells;have HR:=aI Nu;have Qo:=aI hg5;clear Y0 hx5 d5 Nk hg4 yf hO4 Y1 ck hg5;cases ok5 with
    |false=>
     have HNN:=aI (HNY.out (hv5.2 rfl));obtain⟨q0,q1,q2,q3⟩:=dn Nu;have q4:=(q2 (.int .i64 0)).1;have q5:=(q2 (.int .i64 0)).2;have HQ:=aI (q3 (.int .i64 0) (.int .i64 0));clear q2 q3 hv5 Nu;go_wp2
     refine tO w.heap.size 34 #[.int .i64 0,.int .i64 0] HQ.out underlying34 ?_;exact⟨0,0,false,rfl,oP Qo.out HP.out _ _,λh=>(by cases h),λ_=>HNN.out⟩
    |true=>
     obtain⟨a,hva,rfl,rfl⟩:=hv5.1 rfl;have hj:=ME (k:=a+(-65536)) (λj=>HVL.out a j hva);have tH:=aI (λV=>zt (bG 16 a) (-1) (bT 16 a) 0 V (sS.2 hva.1) (by decide));have e:jC (bG 16 a) (bT 16 a)+jC (-1) 0=a+(-65536):=(by rw[Fg];rfl);rw[e]at tH;obtain⟨kt,hkt⟩:=eu ((if eG (bG 16 (a+(-65536))) (bT 16 (a+(-65536)))then bG 16 (a+(-65536))else 0));obtain⟨kp,hkp⟩:=eu ((if eG (bG 16 (a+(-65536))) (bT 16 (a+(-65536)))then bT 16 (a+(-65536))else 0));obtain⟨kb,hkb⟩:=eu (eG (bG 16 (a+(-65536))) (bT 16 (a+(-65536))));have en:lZ (bG 16 (a+(-65536))) (bT 16 (a+(-65536)))=.tuple #[.agg #[.int .i64 kt,.int .i64 (kp:Int)],.bool kb]:=(by rw[lZ,hkt,hkp,hkb];rfl);rw[en]at tH;have HJ:Hid ((kb=true->∃j,Val (vl s.D i) j/\kt=bG 16 j/\kp=bT 16 j)/\(kb=false->¬N0 (vl s.D i))):=aI ⟨λq=>by
      rw[hkb]at q;obtain⟨j,h1,h2,h3⟩:=hj.1 q;exact⟨j,h1,by rw[hkt,if_pos q];exact h2,by rw[hkp,if_pos q];exact h3⟩,λq=>hj.2 (by rw[<-hkb];exact q)⟩
     clear hj e hkt hkp hkb en hv5 Nu;go_wp2_with (go_at_call 51;refine(tH.out _).mono ?_;rintro e w6 ⟨rfl,hx6⟩;have Vy:=kY hx6 HR.out;obtain⟨q0,q1,q2,q3⟩:=dn Vy;have q4:=(q2 (.int .i64 kt)).1;have q5:=(q2 (.int .i64 kt)).2;have HQ:=aI (q3 (.int .i64 kt) (.int .i64 (kp:Int)));have HG6:=aI (Qo.out.ext hx6);clear q2 q3 Vy hx6)
     refine tO w.heap.size 34 #[.int .i64 kt,.int .i64 (kp:Int)] HQ.out underlying34 ?_;exact⟨kt,kp,kb,rfl,oP HG6.out HP.out _ _,HJ.out.1,HJ.out.2⟩
  .have z1:(((OL.length:Nat):Int)== 0)=false:=by simp;exact λe=>hl0 (by rw[e];rfl)
   obtain⟨y,hox⟩:∃y,OL=[y]:=by
    match OL,hl0,hl1 with
    |[],h,_=>exact absurd rfl h
    |[y],_,_=>exact⟨y,rfl⟩
    |_ :: _ :: _,_,h=>simp at h
   have Sj:=w1 y (by rw[hox];simp);obtain⟨-,-,hk⟩:=jB.at PZ.out;obtain⟨bl,ol,rfl,hk2⟩:=hk (by omega);have ck:W4.cell? ⟨bl,ol,none⟩=some (.int .i64 ((y:Nat):Int)):=(by have:=hk2 0 (by omega);simp only[hox,l5]at this;exact this);have hcx:Canon (vl s.D y):=HC.out.l (by rw[HV.out.1,hox];simp);have n1:0<OL.length:=(by omega);have HVX:=aI (IH.out pp h s y W4 hg4.pool (by omega) hcx (by omega));have HNY:Hid (¬N0 (vl s.D y)->¬N0 (vl s.D i)):=aI λh k=>h (aZ.vw.left _ _ k (by rw[HV.out.1,hox];simp)).1
   by_cases hr0:OR.length=0
   .have z2:(((OR.length:Nat):Int)== 0)=true:=by simp[hr0]
    have hre:=cz hr0;have HVL:Hid (∀a j:Int,Val (vl s.D y) a->(Val (vl s.D i) j↔j=a+65536/\gd j)):=aI λa j hv=>aZ.QE HC.out (by rw[HV.out.1,hox];rfl) (by rw[HV.out.2,hre];rfl) hv
    clear hk hk2 hox hre hcx hl0 hr0;go_upto_region 8 with(go_at_call 56;refine HVX.out.mono ?_;rintro e w5 ⟨t5,p5,ok5,rfl,yf,hv5⟩;simp only[kX])
    obtain⟨V5,Y0,hx5,d5,Nk⟩:=AQ w5 t5 p5;rw[<-Y0];have hg5:=(hg4.trans yf).ext hx5;have Nu:V5.heap[w.heap.size]?=some (.cells #[.int .i64 0,.int .i64 0] 34 (0,0)):=by
     have h1:=(yf.keep.block _ (hO4 _ rfl).1 (hO4 _ rfl).2).trans Y1;exact kY hx5 h1
    obtain⟨c5,c6⟩:=d5.cells;have HR:=aI Nu;have Qo:=aI hg5;clear Y0 hx5 d5 Nk hg4 yf hO4 Y1 ck hg5;cases ok5 with
    |false=>
     have HNN:=aI (HNY.out (hv5.2 rfl));obtain⟨q0,q1,q2,q3⟩:=dn Nu;have q4:=(q2 (.int .i64 0)).1;have q5:=(q2 (.int .i64 0)).2;have HQ:=aI (q3 (.int .i64 0) (.int .i64 0));clear q2 q3 hv5 Nu;go_wp2
     refine tO w.heap.size 34 #[.int .i64 0,.int .i64 0] HQ.out underlying34 ?_;exact⟨0,0,false,rfl,oP Qo.out HP.out _ _,λh=>(by cases h),λ_=>HNN.out⟩
    |true=>
     obtain⟨a,hva,rfl,rfl⟩:=hv5.1 rfl;have hj:=ME (k:=a+65536) (λj=>HVL.out a j hva);have tH:=aI (λV=>zt (bG 16 a) 1 (bT 16 a) 0 V (sS.2 hva.1) (by decide));have e:jC (bG 16 a) (bT 16 a)+jC 1 0=a+65536:=(by rw[Fg];rfl);rw[e]at tH;obtain⟨kt,hkt⟩:=eu ((if eG (bG 16 (a+65536)) (bT 16 (a+65536))then bG 16 (a+65536)else 0));obtain⟨kp,hkp⟩:=eu ((if eG (bG 16 (a+65536)) (bT 16 (a+65536))then bT 16 (a+65536)else 0));obtain⟨kb,hkb⟩:=eu (eG (bG 16 (a+65536)) (bT 16 (a+65536)));have en:lZ (bG 16 (a+65536)) (bT 16 (a+65536))=.tuple #[.agg #[.int .i64 kt,.int .i64 (kp:Int)],.bool kb]:=(by rw[lZ,hkt,hkp,hkb];rfl);rw[en]at tH;have HJ:Hid ((kb=true->∃j,Val (vl s.D i) j/\kt=bG 16 j/\kp=bT 16 j)/\(kb=false->¬N0 (vl s.D i))):=aI ⟨λq=>by
      rw[hkb]at q;obtain⟨j,h1,h2,h3⟩:=hj.1 q;exact⟨j,h1,by rw[hkt,if_pos q];exact h2,by rw[hkp,if_pos q];exact h3⟩,λq=>hj.2 (by rw[<-hkb];exact q)⟩
     clear hj e hkt hkp hkb en hv5 Nu;go_wp2_with (go_at_call 51;refine(tH.out _).mono ?_;rintro e w6 ⟨rfl,hx6⟩;have Vy:=kY hx6 HR.out;obtain⟨q0,q1,q2,q3⟩:=dn Vy;have q4:=(q2 (.int .i64 kt)).1;have q5:=(q2 (.int .i64 kt)).2;have HQ:=aI (q3 (.int .i64 kt) (.int .i64 (kp:Int)));have HG6:=aI (Qo.out.ext hx6);clear q2 q3 Vy hx6)
     refine tO w.heap.size 34 #[.int .i64 kt,.int .i64 (kp:Int)] HQ.out underlying34 ?_;exact⟨kt,kp,kb,rfl,oP HG6.out HP.out _ _,HJ.out.1,HJ.out.2⟩
   .have z2:(((OR.length:Nat):Int)== 0)=false:=by simp;exact λe=>hr0 (by rw[e];rfl)
    obtain⟨u,hou⟩:∃u,OR=[u]:=by
     match OR,hr0,hr1 with
     |[],h,_=>exact absurd rfl h
     |[u],_,_=>exact⟨u,rfl⟩
     |_ :: _ :: _,_,h=>simp at h
    have huD:=w2 u (by rw[hou];simp);have hcu:Canon (vl s.D u):=HC.out.r (by rw[HV.out.2,hou];simp);obtain⟨br,ox,rfl⟩:∃br ox,aR=some ⟨br,ox,none⟩:=by
     obtain⟨-,-,h2⟩:=jB.at Zh.out;obtain⟨b2,o2,e2,-⟩:=h2 (by omega);exact⟨b2,o2,e2⟩
    have hC:∀V:World,jd pp h s W4 s V->V.cell? ⟨br,ox,none⟩=some (.int .i64 ((u:Nat):Int)):=λV g=>by
     obtain⟨-,-,h2⟩:=jB.at (nN.go Zh.out ((Off.lists HP.out).go hg4) g);obtain⟨b2,o2,e2,k2⟩:=h2 (by omega);simp only[bN,Addr.mk.injEq,and_true]at e2;obtain⟨rfl,rfl⟩:=e2;have k2:=k2 0 (by omega);simp only[hou,l5]at k2;exact k2
    have HCU:=aI hC;have HNU:Hid (¬N0 (vl s.D u)->¬N0 (vl s.D i)):=aI λh k=>h (aZ.vw.right _ _ k (by rw[HV.out.2,hou];simp)).1
    have HVB:Hid (∀a b:Int,Val (vl s.D y) a->Val (vl s.D u) b->a<b/\∀k,Val (vl s.D i) k↔a<b/\2*k=a+b/\gd k):=aI λa b ha hb=>by
     have q:=(aZ.QG HC.out (by rw[HV.out.1,hox];rfl) (by rw[HV.out.2,hou];rfl) ha hb).2;have hn:=yM.out y u (by rw[hox];simp) (by rw[hou];simp);rw[aZ.JU ha hb]at hn;exact⟨by omega,q⟩
    have n2:0<OR.length:=(by omega);have HIU:=aI (λV (g:jd pp h s W4 s V)=>IH.out pp h s u V g.pool (by omega) hcu (by omega));clear hk hk2 hox hou hcx hcu hl0 hr0 hC;go_upto_region 17 with(go_at_call 56;refine HVX.out.mono ?_;rintro e w5 ⟨t5,p5,ok5,rfl,yf,hv5⟩;simp only[kX])
    obtain⟨V5,Y0,hx5,d5,Nk⟩:=AQ w5 t5 p5;rw[<-Y0];have g5:=yf.ext hx5;have o5:Off pp h s V5 (λb=>b=w5.heap.size):=λb hb=>by
     subst hb;exact⟨Nk,λo=>by have:=(hO4.go yf);have:=yf.pool.Bq o;omega⟩
    have oR:=(hO4.go yf).ext hx5;have Nu:V5.heap[w.heap.size]?=some (.cells #[.int .i64 0,.int .i64 0] 34 (0,0)):=by
     have h1:=(yf.keep.block _ (hO4 _ rfl).1 (hO4 _ rfl).2).trans Y1;exact kY hx5 h1
    have cu:=HCU.out V5 g5;have HIV:=aI (HIU.out V5 g5);obtain⟨b5,hb5⟩:=eu w5.heap.size;rw[<-hb5]at d5 o5 ⊢;clear Y0 hx5 Nk yf hO4 Y1 ck hb5;go_upto_region 18 with(go_at_call 56;refine HIV.out.mono ?_;rintro e w6 ⟨t6,p6,ok6,rfl,uN,hv6⟩;simp only[kX])
    obtain⟨V6,hV6,hx6,d6,hz6⟩:=AQ w6 t6 p6;rw[<-hV6];have d56:CG V6 b5 t5 p5:=(d5.go uN o5).ext hx6;have Vy:V6.heap[w.heap.size]?=some (.cells #[.int .i64 0,.int .i64 0] 34 (0,0)):=by
     have h1:=(uN.keep.block _ (oR _ rfl).1 (oR _ rfl).2).trans Nu;exact kY hx6 h1
    have Xk:=(hg4.trans g5).trans (uN.ext hx6);obtain⟨b6,hb6⟩:=eu w6.heap.size;rw[<-hb6]at d6 ⊢;have HR:=aI Vy;have HG6:=aI Xk;clear hV6 hx6 hz6 uN Nu d5 o5 oR g5 cu hg4 Xk hb6;have NO:Hid (ok5=false\/ok6=false->¬N0 (vl s.D i)):=aI λq=>q.elim (λq=>HNY.out (hv5.2 q)) (λq=>HNU.out (hv6.2 q))
    cases ok5 with
    |false=>
     have HNN:=aI (NO.out (.inl rfl));clear hv5 hv6;obtain⟨q0,q1,q2,q3⟩:=dn HR.out;have q4:=(q2 (.int .i64 0)).1;have q5:=(q2 (.int .i64 0)).2;have HQ:=aI (q3 (.int .i64 0) (.int .i64 0));clear q2 q3 Vy;go_wp2
     refine tO w.heap.size 34 #[.int .i64 0,.int .i64 0] HQ.out underlying34 ?_;exact⟨0,0,false,rfl,oP HG6.out HP.out _ _,λh=>(by cases h),λ_=>HNN.out⟩
    |true=>
     cases ok6 with
     |false=>
      have HNN:=aI (NO.out (.inr rfl));clear hv5 hv6;obtain⟨q0,q1,q2,q3⟩:=dn HR.out;have q4:=(q2 (.int .i64 0)).1;have q5:=(q2 (.int .i64 0)).2;have HQ:=aI (q3 (.int .i64 0) (.int .i64 0));clear q2 q3 Vy;go_wp2
      refine tO w.heap.size 34 #[.int .i64 0,.int .i64 0] HQ.out underlying34 ?_;exact⟨0,0,false,rfl,oP HG6.out HP.out _ _,λh=>(by cases h),λ_=>HNN.out⟩
     |true=>
      obtain⟨a,hva,rfl,rfl⟩:=hv5.1 rfl;obtain⟨b,hvb,rfl,rfl⟩:=hv6.1 rfl;obtain⟨hab,hvk⟩:=HVB.out a b hva hvb;have hj:=QF hvk hab;have ga:=jV.1 (sS.2 hva.1);have gb:=jV.1 (sS.2 hvb.1);have ba:=pW (t:=bG 16 a) (p:=bT 16 a) (by omega) (B:=1000000) (by omega) (by omega);have bb:=pW (t:=bG 16 b) (p:=bT 16 b) (by omega) (B:=1000000) (by omega) (by omega);rw[Fg]at ba bb;have HSA:=aI (λV=>pV (bG 16 a) (bT 16 a) V (by omega) (by omega) (by omega));have HSB:=aI (λV=>pV (bG 16 b) (bT 16 b) V (by omega) (by omega) (by omega));rw[Fg]at HSA HSB;have HLO:=aI (λV=>sH (a+b) 17 V (by omega) (by omega) (by omega));obtain⟨kt,hkt⟩:=eu ((if eG (bG 17 (a+b)) (bT 17 (a+b))then bG 17 (a+b)else 0));obtain⟨kp,hkp⟩:=eu ((if eG (bG 17 (a+b)) (bT 17 (a+b))then bT 17 (a+b)else 0));obtain⟨kb,hkb⟩:=eu (eG (bG 17 (a+b)) (bT 17 (a+b)));have en:lZ (bG 17 (a+b)) (bT 17 (a+b))=.tuple #[.agg #[.int .i64 kt,.int .i64 (kp:Int)],.bool kb]:=(by rw[lZ,hkt,hkp,hkb];rfl);rw[en]at HLO;have HJ:Hid ((kb=true->∃j,Val (vl s.D i) j/\kt=bG 16 j/\kp=bT 16 j)/\(kb=false->¬N0 (vl s.D i))):=aI ⟨λq=>by
       rw[hkb]at q;obtain⟨j,h1,h2,h3⟩:=hj.1 q;exact⟨j,h1,by rw[hkt,if_pos q];exact h2,by rw[hkp,if_pos q];exact h3⟩,λq=>hj.2 (by rw[<-hkb];exact q)⟩
      have b3:IntKind.i64.wrap (a+b)=a+b:=(oo _).trans (by unfold wrap64;omega);obtain⟨A1,hA1⟩:=eu (bG 16 a);obtain⟨A2,hA2⟩:=eu (bT 16 a);obtain⟨B1,hB1⟩:=eu (bG 16 b);obtain⟨B2,hB2⟩:=eu (bT 16 b);rw[<-hA1,<-hA2]at HSA d56;rw[<-hB1,<-hB2]at HSB d6;rw[<-hA1,<-hA2,<-hB1,<-hB2];clear hj hkt hkp hkb en hv5 hv6 ga gb hvk hva hvb hab hA1 hA2 hB1 hB2 ba bb;go_upto_region 20 with fail
      have HD:=jW d56 d6;have aa:=(d56.ext (iy V6)).four (d6.ext (iy V6));clear d56 d6 Vy;refine mQ (λV=>V.cell? ⟨b5,0,none⟩=some (.int .i64 A1)/\V.cell? ⟨b5,1,none⟩=some (.int .i64 (A2:Int))/\V.cell? ⟨b6,0,none⟩=some (.int .i64 B1)/\V.cell? ⟨b6,1,none⟩=some (.int .i64 (B2:Int))) [8,9] Ol aa (λai aa=>?_);(refine bg 0 ai aa ?_;refine bg 2 ai aa ?_);(refine kS ai (i:=1) λK hK=>?_;go_simp);refine(HSA.out _).mono ?_;rintro e w7 ⟨rfl,hx7⟩;have Y9:=ah (iy V6) hx7;refine hK.out _ _ (λ_=>(HD.out.1.ext Y9).four (HD.out.2.ext Y9)) ?_;clear aa hK K;have aa:=(HD.out.1.ext Y9).four (HD.out.2.ext Y9);(try simp only[nP]);(refine kS ai (i:=3) λK hK=>?_;go_simp);refine(HSB.out _).mono ?_;rintro e w8 ⟨rfl,Ae⟩;have hE8:=ah Y9 Ae;refine hK.out _ _ (λ_=>(HD.out.1.ext hE8).four (HD.out.2.ext hE8)) ?_;clear aa Y9 hx7 Ae hK K;have aa:=(HD.out.1.ext hE8).four (HD.out.2.ext hE8);(try simp only[nP]);(refine bg 4 ai aa ?_);(refine kS ai (i:=5) λK hK=>?_;go_simp);refine(HLO.out _).mono ?_;rintro e w9 ⟨rfl,yG⟩;have XF:=ah hE8 yG;refine hK.out _ _ (λ_=>(HD.out.1.ext XF).four (HD.out.2.ext XF)) ?_;clear aa hE8 yG hK K;have aa:=(HD.out.1.ext XF).four (HD.out.2.ext XF);(try simp only[nP]);(refine bg 6 ai aa ?_;refine bg 7 ai aa ?_);refine mM ai [8,9] [_,_] ?_;clear ai aa;obtain⟨q0,q1,q2,q3⟩:=dn (kY XF HR.out);have q4:=(q2 (.int .i64 kt)).1;have q5:=(q2 (.int .i64 kt)).2;have HQ:=aI (q3 (.int .i64 kt) (.int .i64 (kp:Int)));have HG9:=aI (HG6.out.ext XF);clear q2 q3 XF;go_wp2
      refine tO w.heap.size 34 #[.int .i64 kt,.int .i64 (kp:Int)] HQ.out underlying34 ?_;exact⟨kt,kp,kb,rfl,oP HG9.out HP.out _ _,HJ.out.1,HJ.out.2⟩
 .have HB:=aI hn
  go_upto_region 2 with(go_at_call 106;refine HNI.out.mono ?_;rintro e w3 ⟨b,rfl,hbi,gU⟩;obtain rfl:b=false:=nJ.2 (λe=>HB.out (hbi.1 e));clear hbi)
  have hgo:=(jd.refl HP.out hx).trans gU;have hR:w3.heap[w.heap.size]?=some (.cells #[.int .i64 0,.int .i64 0] 34 (0,0)):=(gU.keep.block _ (hO _ rfl).1 (hO _ rfl).2).trans hb;obtain⟨q0,q1,q2,q3⟩:=dn hR;have q4:=(q2 (.int .i64 0)).1;have q5:=(q2 (.int .i64 0)).2;have HQ:=aI (q3 (.int .i64 0) (.int .i64 0));have HG:=aI hgo;clear q2 q3 hgo gU hO hR hb hn HNI;go_wp2
  refine tO w.heap.size 34 #[.int .i64 0,.int .i64 0] HQ.out underlying34 ?_;exact⟨0,0,false,rfl,oP HG.out HP.out _ _,λh=>(by cases h),λ_ k=>HB.out (HN.out k)⟩
theorem Rb:∀m,Mq m:=λm=>by
 induction m with
 |zero=>intro pp h s i w _ _ _ h;omega
 |succ m ih=>exact Oy ih
theorem Ra(pp h:Nat)(s:iK)(i:Nat)(w:World)(hP:bX w pp h s)(hi:i<s.D.length)(hc:Canon (vl s.D i)):Calls prog 56 #[.pointer (some ⟨pp,0,none⟩),.int .i64 (i:Int)] w (JB pp h s i w):=Rb (i+1) pp h s i w hP hi hc (by omega)
