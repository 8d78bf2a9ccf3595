/- 50 -/
import Derived.Test.YtplgooajigigkaaGreatDoorK49
set_option maxRecDepth 100000
set_option maxHeartbeats 4000000
namespace Go.Proofs.YtplgooajigigkaaGreatDoor
open Tryz
section
open Go.RowKit
open bE (dh Nd Gm vl Same bI bz Canon N0)
variable {d:WD} {U:World}
theorem iH{G:Nat->Prop}{w w':World}{a:Addr}{v:Value}(hk:fJ G w w')(hG:¬G a.block)(h:w.cell? a=some v):w'.cell? a=some v:=
 (mP (w:=w) (hk.block _ (lt_of_cell h) hG)).trans h
theorem TI{t:Int}{p:Nat}(h:dS t p=true):dS (-t) p=true:=by
 rw[fe]at h ⊢;omega
def Vp:List Row:=[⟨0,[],61,[0]⟩,⟨1,[],62,[0]⟩,⟨2,[1],63,[61]⟩,⟨3,[2],64,[62]⟩,⟨4,[3],65,[63]⟩,⟨5,[4],66,[64]⟩,⟨6,[],67,[1]⟩,⟨7,[5,6],68,[65,66]⟩,⟨8,[7],69,[67]⟩,⟨9,[8],70,[68]⟩,⟨10,[],71,[9]⟩,⟨11,[0,9,10],72,[60,69,70]⟩,⟨12,[11],60,[71]⟩,⟨13,[12],73,[59]⟩,⟨14,[12],74,[59]⟩,⟨15,[13,11,0,1,2,3,4,5,6,7,8,9,10,11,12,13],13,[72]⟩,⟨16,[14,15,0,1,2,3,4,5,6,7,8,9,10,11,12,13,14,15],14,[73]⟩]
def Vo:List Row:=[⟨0,[],76,[0]⟩,⟨1,[],77,[0]⟩,⟨2,[1],78,[76]⟩,⟨3,[2],79,[77]⟩,⟨4,[3],80,[78]⟩,⟨5,[4],81,[79]⟩,⟨6,[],82,[1]⟩,⟨7,[5,6],83,[80,81]⟩,⟨8,[7],84,[82]⟩,⟨9,[8],85,[83]⟩,⟨10,[],86,[9]⟩,⟨11,[10],87,[85]⟩,⟨12,[0,9,11,11],88,[75,84,86]⟩,⟨13,[12],75,[87]⟩,⟨14,[13],89,[74]⟩,⟨15,[13],90,[74]⟩,⟨16,[14,12,0,1,2,3,4,5,6,7,8,9,10,11,12,13,14],15,[88]⟩,⟨17,[15,16,0,1,2,3,4,5,6,7,8,9,10,11,12,13,14,15,16],16,[89]⟩]
theorem xW(hc:WC d){S T:Nat->Prop}{V V1:World}{r:Value}(hV1:V.heap.size<V1.heap.size)(hS:∀b,S b->d.W.heap.size<=b/\b<V.heap.size)(TB:d.W.heap.size<=V.heap.size)(hK:WK d T U)(hT:∀b,T b->S b\/V1.heap.size<=b)(hKe:fJ (DM d) V U):
 WK d (SN S V (U.setCell ⟨V.heap.size,0,none⟩ r)) (U.setCell ⟨V.heap.size,0,none⟩ r)/\fJ (DM d) V (U.setCell ⟨V.heap.size,0,none⟩ r):=by
 have hk:=dH (w:=U) (p:=⟨V.heap.size,0,none⟩) (v:=r);have hz:=hk.size;have nT:∀b,T b->b≠V.heap.size:=λb hb e=>by
  rcases hT b hb with h|h
  .have:=hS b h;omega
  .omega
 refine⟨(hK.oP hc hk (λb hb=>⟨λt=>nT b t hb,by have:b=V.heap.size:=hb;omega⟩)).mono (λb hb=>?_) (λb hb=>?_),hKe.trans hk (λx hx e=>by have:x=V.heap.size:=e;omega)⟩
 .have hlt:=(hK.low b hb).2
  rcases hT b hb with h|h
  .exact .inl h
  .exact .inr ⟨by omega,by omega⟩
 .rcases hb with h|h
  .have h1:=hKe.size
   have:=hS b h;exact⟨this.1,by omega⟩
  .exact⟨by omega,h.2⟩
def MkS(d:WD)(bC k:Nat)(aL:Option Addr)(nL cL:Nat)(aR:Option Addr)(nR cR b9:Nat)(U:World):Prop:=
 U.cell? ⟨d.wb,0,none⟩=some (.slice (some ⟨bC,0,none⟩) d.C.length d.cC)/\(U.cell? ⟨bC,k*2,none⟩=some (.slice aL nL cL)/\U.cell? ⟨bC,k*2+1,none⟩=some (.slice aR nR cR))/\U.cell? ⟨b9,0,none⟩=some (.int .i64 d.t)/\U.cell? ⟨b9,1,none⟩=some (.int .i64 (d.p:Int))
theorem MkS.keep{bC k:Nat}{aL:Option Addr}{nL cL:Nat}{aR:Option Addr}{nR cR b9:Nat}{U':World}(h:MkS d bC k aL nL cL aR nR cR b9 U)(hk:fJ (DM d) U U')(h1:¬DM d d.wb)(h2:¬DM d bC)(h3:¬DM d b9):MkS d bC k aL nL cL aR nR cR b9 U':=
 ⟨iH hk h1 h.1,⟨iH hk h2 h.2.1.1,iH hk h2 h.2.1.2⟩,iH hk h3 h.2.2.1,iH hk h3 h.2.2.2⟩
theorem Wi(d:WD)(hc:WC d)(S:Nat->Prop)(k:Nat)(ih:abU d k)(V:World)(hkC:k<d.C.length)(hK:WK d S V):
 Calls prog 113 #[.pointer (some ⟨d.wb,0,none⟩),.int .i64 (k:Int)] V (Qf d S k V):=by
 obtain⟨V1,hV1,hx1,b4,hz1⟩:=Ce V (.cells #[.slice none 0 0] 30);have hK1:=hK.ext hc hx1;have JF:=hK1.old hc;have hd:d.C[k]?=some d.C[k]:=af hkC;obtain⟨c0,-,-,-,-,-⟩:=hK1.cells hc;have ahd:Canon (vl d.C k):=hc.canon k hkC;have HTP:=aW (Oj _ d.C k V1 (hc.nodes.ext JF) hc.form.good hkC (by have:=hc.len;omega));have HC:=aW hc;have HB:=Ap hK hx1 b4 hz1;have HD:=nY hd ahd hkC;have IH:=aW ih;have apt:=hc.len;clear hc hx1 b4 hz1 hd ahd ih hK JF;go_enter Tryz.func113,Tryz.ntmps113
 go_upto_region 1 with fail
 rw[<-hV1];clear hV1;go_upto_region 2 with(go_at_call 154;refine HTP.out.mono ?_;rintro e w2 ⟨vE,E,rfl,hNE,iE,sE,hx2⟩;obtain⟨aE,cE,rfl⟩:=hNE.slice)
 obtain⟨V3,Zh,hx3,b6,hz3⟩:=Ce w2 (.cells #[.slice aE (List.length E) cE] 30);rw[<-Zh];have lE:E.length<=120:=by
  have h:=Rp HC.out.form.good HD.out.2.2 iE sE;omega
 have cE':Canon (bz E):=bE.lQ (bE.dU sE) HD.out.2.1;have hN3:=hNE.ext hx3;have h13:=ah hx2 hx3;have x0:=bQ V3 w2.heap.size 0 _ _ _ b6;simp only[gE]at x0;have H7:=aW (Wp _ E V3 (hN3.weaken (aU _)) iE (rf iE cE') (by omega));have HE:=Aw iE sE lE cE' hN3;have H3:=nY (HB.out.1.ext HC.out HB.out.2.1) h13 b6;have asz:V1.heap.size<=w2.heap.size:=hx2.size;clear Zh hx2 hNE hN3 iE sE lE cE' hx3 h13 hz3 b6 c0;go_upto_region 3 with(go_at_call 155;refine H7.out.mono ?_;rintro e w4 ⟨t4,p4,ok4,rfl,hy4,hn4,hx4⟩;simp only[gM])
 obtain⟨V5,XI,hx5,d5,Tf⟩:=uI w4 t4 p4;rw[<-XI];have h15:=ah H3.out.2.1 (ah hx4 hx5);have h35:=ah hx4 hx5;have x5:=fw h35 x0;have hK5:=HB.out.1.ext HC.out (ah HB.out.2.1 h15);have r5:=ik h15 HB.out.2.2.1;have GJ:V.heap.size<V1.heap.size:=bW HB.out.2.2.1;have TF:fJ (DM d) V V5:=l7 (ah HB.out.2.1 h15);have TB:=HB.out.1.size;clear XI d5 Tf x0;cases ok4 with
 |true=>
  have hN0:N0 (bz E):=by obtain⟨a,h,_⟩:=hy4 rfl;exact⟨a,h⟩
  have hot:Hid (Ga (TW d) (vl d.C k) E/\N0 (vl d.C k)):=aW ⟨Ga.same HE.out.2.1 (Q7 HE.out.1 HE.out.2.2.2.1 hN0),bE.lT.same _ _ HE.out.2.1 hN0⟩;have Tv:dm E=true:=Lf (t:=TW d) (Int.mul_nonneg HC.out.pos (by exact_mod_cast aU (2 ^ (16-d.p)))) HE.out.1 HE.out.2.2.2.1 HE.out.2.2.1 (pq.2 (.inl hN0));have HN5:=aW (HE.out.2.2.2.2.ext h35);have HF:=Ap Tv hK5 TF r5;have z1:=bQ V5 V.heap.size 0 _ _ _ r5;have z2:=gQ V5 V.heap.size 0 _ _ r5;have hsz:=h15.size;clear hy4 hn4 hN0 Tv hK5 TF h15 h35 r5 hx4 hx5;go_wp2
  refine mg V.heap.size 30 #[.slice aE (List.length E) cE] (gK _ V.heap.size 0 _ _ (.slice aE (List.length E) cE) HF.out.2.2.2) underlying30 ?_;obtain⟨k1,k2⟩:=xW HC.out (r:=.slice aE (List.length E) cE) GJ (λb hb=>HB.out.1.low b hb) TB HF.out.2.1 (λb hb=>.inl hb) HF.out.2.2.1;refine⟨aE,E.length,cE,true,rfl,k1,k2,λ_=>⟨pq.2 (.inl hot.out.2),E,rfl,hot.out.1,HF.out.1,?_⟩,λh=>by cases h⟩;exact((HN5.out.set (p:=⟨V.heap.size,0,none⟩) GJ _)).sup (S:=SN S V _) (λb hb=>(k1.low b hb).2) (λb h1 h2=>.inr ⟨by omega,h2⟩)
 |false=>
  have hN0:¬N0 (vl d.C k):=λh=>hn4 rfl (bE.lT.same _ _ (bE.dU HE.out.2.1) h)
  obtain⟨f0,f1,f2,f3,-,-⟩:=hK5.cells HC.out;obtain⟨V6,hV6,hx6,b9,hz6⟩:=Ce V5 (.cells #[.int .i64 d.t,.int .i64 (d.p:Int)] 34);have P8:=aW hN0;have e3:=fw hx6 f3;clear hy4 hn4 hN0 hx4 hx5 h35;go_upto_region 6 with fail
  rw[<-hV6];clear hV6 f1 f2 f3 x5;have hK6:=hK5.ext HC.out hx6;have ahP:fJ (DM d) V V6:=gY TF (l7 hx6);have hd9:oQ V6 V5.heap.size d.t d.p:=b9;obtain⟨y0,y1⟩:=hd9.cells;have g0:=fw hx6 f0;have r6:=ik hx6 r5;obtain⟨bC,cC2,aL,cL,aR,cR,he,Nh,cl0,cr0,vM,vJ⟩:=HC.out.nodes.at HD.out.2.2;simp only[il]at he;obtain⟨hea,-,hec⟩:=he;have hO6:=hK6.old HC.out;have cl:=fw hO6 cl0;have cr:=fw hO6 cr0;have hbC:bC<d.W0.heap.size:=lt_of_cell cl0;rw[hea]at g0;obtain⟨nL,UA⟩:=fu ((d.C[k]'HD.out.2.2).1.length);obtain⟨nR,hnR⟩:=fu ((d.C[k]'HD.out.2.2).2.length);obtain⟨OL,Kg⟩:=fu ((d.C[k]'HD.out.2.2).1);obtain⟨OR,Mg⟩:=fu ((d.C[k]'HD.out.2.2).2);rw[<-UA]at cl vM;rw[<-hnR]at cr vJ;rw[<-Kg]at vM;rw[<-Mg]at vJ;have hdd:d.C[k]?=some (OL,OR):=by rw[HD.out.1,Kg,Mg]
  obtain⟨w1f,w2f⟩:=HC.out.form.good.wf k _ hdd;have glL:OL.length<=120/\OR.length<=120:=by
   have h:=vQ HC.out.form.good HD.out.2.2;rw[<-Kg,<-Mg]at h;have:=HD.out.2.2;omega
  have J8:=aW hdd;have nwb:¬DM d d.wb:=λq=>by have:=HC.out.lt;rcases q with q|q <;> omega
  have nbC:¬DM d bC:=λq=>by have:=HC.out.old;rcases q with q|q <;> omega
  have nb9:¬DM d V5.heap.size:=λq=>by have:=HC.out.lt;have:=hK5.size;rcases q with q|q <;> omega
  have HND:=nY nwb nbC nb9;have hS6:MkS d bC k aL nL cL aR nR cR V5.heap.size V6:=⟨g0,⟨cl,cr⟩,y0,y1⟩;have UN:=aW (λU (hU:fJ (DM d) V6 U)=>hS6.keep hU nwb nbC nb9);have hgT:=HC.out.good;have hgN:dS (-d.t) d.p=true:=TI hgT;have HEL:=aW (λ(T:Nat->Prop) U (hU:WK d T U)=>Mx d HC.out T k IH.out (.slice aL nL cL) OL d.t U hU vM (λo ho=>⟨w1f o ho,by have:=w1f o ho;have:=HD.out.2.2;omega⟩) (by omega) hgT);have HER:=aW (λ(T:Nat->Prop) U (hU:WK d T U)=>Mx d HC.out T k IH.out (.slice aR nR cR) OR (-d.t) U hU vJ (λo ho=>⟨w2f o ho,by have:=w2f o ho;have:=HD.out.2.2;omega⟩) (by omega) hgN);have hbt:=fe.1 hgT;have hneg:=aW (λU=>nk d.t d.p U (by omega) (by omega));have HK6:=nY hK6 ahP r6;have hik:((k:Nat):Int)<((d.C.length:Nat):Int):=by have:=HD.out.2.2;omega
  have h56:V1.heap.size<=V5.heap.size:=h15.size;have akL:V5.heap.size<V6.heap.size:=by omega
  simp only[gM]at HEL HER;clear hK5 TF r5 hK6 ahP r6 UA hnR Kg Mg hdd vM vJ cl0 cr0 Nh hea hec w1f w2f hgT hgN hbt hd9 b9 hO6 h15 hx6 f0 hz6 nwb nbC nb9 hbC hS6 cl cr g0 y0 y1;go_upto_region 13 with fail
  obtain⟨b9,UE⟩:=fu V5.heap.size;rw[<-UE]at UN HND akL h56 ⊢;clear UE;have ae:=UN.out V6.drew (l7 (dQ ⟨1,rfl⟩));refine oJ (λU:World=>U.cell? ⟨d.wb,0,none⟩=some (.slice (some ⟨bC,0,none⟩) d.C.length d.cC)/\(U.cell? ⟨bC,k*2,none⟩=some (.slice aL nL cL)/\U.cell? ⟨bC,k*2+1,none⟩=some (.slice aR nR cR))/\U.cell? ⟨b9,0,none⟩=some (.int .i64 d.t)/\U.cell? ⟨b9,1,none⟩=some (.int .i64 (d.p:Int))) [16] Vp ae (λaj ae=>?_);have hUK:WK d S V6.drew:=HK6.out.1.ext HC.out (dQ ⟨1,rfl⟩);have hUe:fJ (DM d) V6 V6.drew:=l7 (dQ ⟨1,rfl⟩);obtain⟨U,hU⟩:=fu V6.drew;rw[<-hU]at ae hUK hUe ⊢;clear hU;(refine bP 0 aj ae ?_;refine bP 1 aj ae ?_;refine bP 2 aj ae ?_;refine bP 3 aj ae ?_;refine bP 4 aj ae ?_;refine bP 5 aj ae ?_;refine bP 6 aj ae ?_;refine bP 7 aj ae ?_;refine bP 8 aj ae ?_;refine bP 9 aj ae ?_;refine bP 10 aj ae ?_);(refine jv aj (i:=11) λK hK=>?_;go_simp);refine(HEL.out S _ hUK).mono ?_;rintro e u1 ⟨vL,okL,rfl,⟨T1,ahS,hT1,hyL⟩,Mq,UA⟩;have hU1:fJ (DM d) V6 u1:=gY hUe Mq;have ae:(λU:World=>U.cell? ⟨d.wb,0,none⟩=some (.slice (some ⟨bC,0,none⟩) d.C.length d.cC)/\(U.cell? ⟨bC,k*2,none⟩=some (.slice aL nL cL)/\U.cell? ⟨bC,k*2+1,none⟩=some (.slice aR nR cR))/\U.cell? ⟨b9,0,none⟩=some (.int .i64 d.t)/\U.cell? ⟨b9,1,none⟩=some (.int .i64 (d.p:Int))) u1:=UN.out u1 hU1;refine hK.out _ _ (λ_=>ae) ?_;clear hK K;(try simp only[nP]);(refine bP 12 aj ae ?_;refine bP 13 aj ae ?_;refine bP 14 aj ae ?_;refine bP 15 aj ae ?_);refine nQ aj [16] [_] ?_;clear aj ae;have amj:Hid (V6.heap.size<=U.heap.size):=aW hUe.size;have HL:=Aw ahS hT1 hyL UA hU1;clear ahS hT1 hyL UA hU1 Mq hUK;go_upto_region 14 with fail
  have ae:=UN.out u1.drew (gY HL.out.2.2.2.2 (l7 (dQ ⟨1,rfl⟩)));refine oJ (λU:World=>U.cell? ⟨d.wb,0,none⟩=some (.slice (some ⟨bC,0,none⟩) d.C.length d.cC)/\(U.cell? ⟨bC,k*2,none⟩=some (.slice aL nL cL)/\U.cell? ⟨bC,k*2+1,none⟩=some (.slice aR nR cR))/\U.cell? ⟨b9,0,none⟩=some (.int .i64 d.t)/\U.cell? ⟨b9,1,none⟩=some (.int .i64 (d.p:Int))) [17] Vo ae (λaj ae=>?_);have hxd:Ext u1 u1.drew:=dQ ⟨1,rfl⟩;obtain⟨U2,hU2⟩:=fu u1.drew;rw[<-hU2]at ae hxd ⊢;clear hU2;(refine bP 0 aj ae ?_;refine bP 1 aj ae ?_;refine bP 2 aj ae ?_;refine bP 3 aj ae ?_;refine bP 4 aj ae ?_;refine bP 5 aj ae ?_;refine bP 6 aj ae ?_;refine bP 7 aj ae ?_;refine bP 8 aj ae ?_;refine bP 9 aj ae ?_;refine bP 10 aj ae ?_);(refine jv aj (i:=11) λK hK=>?_;go_simp);refine(hneg.out _).mono ?_;rintro e u2 ⟨rfl,hx2⟩;have zx:=ah hxd hx2;have ae:(λU:World=>U.cell? ⟨d.wb,0,none⟩=some (.slice (some ⟨bC,0,none⟩) d.C.length d.cC)/\(U.cell? ⟨bC,k*2,none⟩=some (.slice aL nL cL)/\U.cell? ⟨bC,k*2+1,none⟩=some (.slice aR nR cR))/\U.cell? ⟨b9,0,none⟩=some (.int .i64 d.t)/\U.cell? ⟨b9,1,none⟩=some (.int .i64 (d.p:Int))) u2:=UN.out u2 (gY HL.out.2.2.2.2 (l7 zx));refine hK.out _ _ (λ_=>ae) ?_;clear hK K;(try simp only[nP]);(refine jv aj (i:=12) λK hK=>?_;go_simp);refine(HER.out T1 _ (HL.out.1.ext HC.out zx)).mono ?_;rintro e u3 ⟨vR,okR,rfl,⟨T2,ahR,hT2,hyR⟩,Mo,hnR⟩;have hU3:fJ (DM d) u1 u3:=gY (l7 zx) Mo;have ae:(λU:World=>U.cell? ⟨d.wb,0,none⟩=some (.slice (some ⟨bC,0,none⟩) d.C.length d.cC)/\(U.cell? ⟨bC,k*2,none⟩=some (.slice aL nL cL)/\U.cell? ⟨bC,k*2+1,none⟩=some (.slice aR nR cR))/\U.cell? ⟨b9,0,none⟩=some (.int .i64 d.t)/\U.cell? ⟨b9,1,none⟩=some (.int .i64 (d.p:Int))) u3:=UN.out u3 (gY HL.out.2.2.2.2 hU3);refine hK.out _ _ (λ_=>ae) ?_;clear hK K;(try simp only[nP]);(refine bP 13 aj ae ?_;refine bP 14 aj ae ?_;refine bP 15 aj ae ?_;refine bP 16 aj ae ?_);refine nQ aj [17] [_] ?_;clear aj ae;have HR:=Aw ahR hT2 hyR hnR hU3;have ahr:fJ (DM d) V u3:=gY HK6.out.2.1 (gY HL.out.2.2.2.2 hU3);have VT:¬DM d V.heap.size:=λq=>by have:=HC.out.lt;rcases q with q|q <;> omega
  have r3:u3.heap[V.heap.size]?=some (.cells #[.slice none 0 0] 30 (0,0)):=((gY HL.out.2.2.2.2 hU3).block _ (bW HK6.out.2.2) VT).trans HK6.out.2.2;have HT2:Hid (∀b,T2 b->S b\/V1.heap.size<=b):=aW λb hb=>by
   have h1:=HL.out.2.2.2.2.size;have h2:=hUe.size;have h3:=zx.size;rcases hT2 b hb with q|q
   .rcases HL.out.2.1 b q with q|q
    .exact .inl q
    .exact .inr (by omega)
   .exact .inr (by omega)
  have UO:=jm ahr r3;clear ahR hT2 hyR hnR hU3 Mo ahr r3 zx hx2 hxd hUe;have hsn:gP (-d.t) d.p=-(TW d):=Ez d.t d.p;have hTp:0<=TW d:=Int.mul_nonneg HC.out.pos (by exact_mod_cast aU (2 ^ (16-d.p)));cases okL with
  |false=>
   have rq:Hid (¬rQ (TW d) (vl d.C k)):=aW (by
    obtain⟨o,ho,no⟩:=HL.out.2.2.2.1 rfl;exact Bg HC.out.form J8.out P8.out (o:=o) (.inl ⟨ho,no⟩))
   have z1:=bQ u3 V.heap.size 0 _ _ _ UO.out.2;have z2:=gQ u3 V.heap.size 0 _ _ UO.out.2;clear hsn hTp;go_wp2
   refine mg V.heap.size 30 #[.slice none 0 0] (gK _ V.heap.size 0 _ _ (.slice none 0 0) UO.out.2) underlying30 ?_;obtain⟨k1,k2⟩:=xW HC.out (r:=.slice none 0 0) GJ (λb hb=>HB.out.1.low b hb) TB HR.out.1 HT2.out UO.out.1;exact⟨none,0,0,false,rfl,k1,k2,(λh=>by cases h),λ_=>⟨rq.out,rfl⟩⟩
  |true=>
   cases okR with
   |false=>
    have rq:Hid (¬rQ (TW d) (vl d.C k)):=aW (by
     obtain⟨o,ho,no⟩:=HR.out.2.2.2.1 rfl;rw[hsn]at no;exact Bg HC.out.form J8.out P8.out (o:=o) (.inr ⟨ho,no⟩))
    have z1:=bQ u3 V.heap.size 0 _ _ _ UO.out.2;have z2:=gQ u3 V.heap.size 0 _ _ UO.out.2;clear hsn hTp;go_wp2
    refine mg V.heap.size 30 #[.slice none 0 0] (gK _ V.heap.size 0 _ _ (.slice none 0 0) UO.out.2) underlying30 ?_;obtain⟨k1,k2⟩:=xW HC.out (r:=.slice none 0 0) GJ (λb hb=>HB.out.1.low b hb) TB HR.out.1 HT2.out UO.out.1;exact⟨none,0,0,false,rfl,k1,k2,(λh=>by cases h),λ_=>⟨rq.out,rfl⟩⟩
   |true=>
    obtain⟨Fs,hFs,lFs,rFs⟩:=HL.out.2.2.1 rfl;obtain⟨Gs,hGs,lGs,rGs⟩:=HR.out.2.2.1 rfl;rw[hsn]at hGs;have rF3:=rFs.keep HR.out.2.2.2.2 (λb hb q=>by have:=HC.out.lt;have:=HK6.out.1.size;have:=hb.1;have:=amj.out;rcases q with q|q <;> omega);have iF:∀F,F∈Fs->bI F/\F.length<=1000:=λF hF=>by
     have:=lFs F hF;obtain⟨j,hj,rfl⟩:=aQ.1 hF;exact⟨(hFs.2 j hj (by have:=hFs.1;omega)).2.2.1,by omega⟩
    have iG:∀F,F∈Gs->bI F/\F.length<=1000:=λF hF=>by
     have:=lGs F hF;obtain⟨j,hj,rfl⟩:=aQ.1 hF;exact⟨(hGs.2 j hj (by have:=hGs.1;omega)).2.2.1,by omega⟩
    have HMD:=aW (SC vL vR Fs Gs u3 rF3.forms rGs.forms iF iG);have Ut:=nY hFs hGs hTp;clear hFs lFs rFs hGs lGs rGs rF3 iF iG hsn hTp
    go_wp2_with (go_at_call 160;refine HMD.out.mono ?_;rintro e w7 ⟨aM,nM,cM,okM,rfl,hyM,hnM,hx7⟩
                 have r7:=ik hx7 UO.out.2;have z1:=bQ w7 V.heap.size 0 _ _ _ r7;have z2:=gQ w7 V.heap.size 0 _ _ r7;have H7R:=Ap hyM hnM hx7 r7;clear hyM hnM hx7 r7)
    refine mg V.heap.size 30 #[.slice aM nM cM] (gK _ V.heap.size 0 _ _ (.slice aM nM cM) H7R.out.2.2.2) underlying30 ?_;obtain⟨hyM,hnM,hx7,r7⟩:=H7R.out;obtain⟨k1,k2⟩:=xW HC.out (r:=.slice aM nM cM) GJ (λb hb=>HB.out.1.low b hb) TB (HR.out.1.ext HC.out hx7) HT2.out (gY UO.out.1 (l7 hx7));refine⟨aM,nM,cM,okM,rfl,k1,k2,λh=>?_,λh=>?_⟩
    .obtain⟨M,Kf,rfl,mo,iM,sM,fM,fK,nK⟩:=hyM h
     obtain⟨q1,q2,q3⟩:=VU Ut.out.2.2 HC.out.form HC.out.canon HD.out.2.2 J8.out P8.out Ut.out.1 Ut.out.2.1 mo iM sM fM fK;have hz3:=UO.out.1.size;have akN:=bW UO.out.2;exact⟨q1,Kf,rfl,q2,q3,(nK.set (p:=⟨V.heap.size,0,none⟩) akN _).sup (S:=SN S V _) (λb hb=>(k1.low b hb).2) (λb h1 h2=>.inr ⟨by omega,h2⟩)⟩
    .exact⟨Z0 Ut.out.2.2 HC.out.form HC.out.canon HD.out.2.2 J8.out P8.out Ut.out.1 Ut.out.2.1 (hnM h).1,(hnM h).2⟩
end
section
open Go.RowKit
open bE (dh Nd Gm vl Same bI bz Canon N0)
def ZW:List Row:=[⟨0,[],23,[0]⟩,⟨1,[0],24,[22]⟩,⟨2,[1],25,[23]⟩,⟨3,[2],26,[24]⟩,⟨4,[],27,[1]⟩,⟨5,[],28,[6]⟩,⟨6,[3,4,0,1,2,3,4,5],29,[25,26]⟩,⟨7,[6,5,0,1,2,3,4,5],0,[28,27]⟩]
def DX:List Row:=[⟨0,[],43,[0]⟩,⟨1,[0],44,[42]⟩,⟨2,[1],45,[43]⟩,⟨3,[2],46,[44]⟩,⟨4,[],47,[1]⟩,⟨5,[3,4],48,[45,46]⟩,⟨6,[5],49,[47]⟩,⟨7,[],50,[0]⟩,⟨8,[7],51,[49]⟩,⟨9,[8],52,[50]⟩,⟨10,[9],53,[51]⟩,⟨11,[],54,[1]⟩,⟨12,[10,11],55,[52,53]⟩,⟨13,[12],56,[54]⟩,⟨14,[13],57,[55]⟩,⟨15,[6,0,1,2,3,4,5,6],0,[4,48]⟩,⟨16,[14,15,0,1,2,3,4,5,6,7,8,9,10,11,12,13,14,15],6,[56]⟩]
theorem aek(d:WD)(hc:WC d)(S:Nat->Prop)(k:Nat)(ih:abU d k)(V:World)(hkC:k<d.C.length)(hK:WK d S V):
 Calls prog 67 #[.pointer (some ⟨d.wb,0,none⟩),.int .i64 (k:Int)] V (Qf d S k V):=by
 obtain⟨V1,hV1,hx1,b4,hz1⟩:=Ce V (.cells #[.slice none 0 0] 30);have hK1:=hK.ext hc hx1;obtain⟨-,-,-,-,f4,f5⟩:=hK1.cells hc;obtain⟨q,a,n,c,cq,cm,hst,fq,fm⟩:=hK1.at hkC;have hik:((k:Nat):Int)<((d.C.length:Nat):Int):=by omega
 have GJ:V.heap.size<V1.heap.size:=bW b4;have TB:=hK.size;have Gc:Hid (d.wb≠V.heap.size/\d.db≠V.heap.size/\d.mb≠V.heap.size):=aW (by have:=hc.lt;have:=bW hc.blk;omega);have HC:=aW hc;have HB:=nY hK hx1 b4;have HKC:=aW hkC;have IH:=aW ih;clear hc hK b4 hz1 hkC ih fq fm;by_cases hq0:q=0
 case neg=>
  have g0:(q == 0)=false:=by simpa using hq0
  have JH:=hK1;have Dz:fJ (DM d) V V1:=l7 HB.out.2.1;have rU:=HB.out.2.2;have HTU:Hid (∀b,S b->S b\/V1.heap.size<=b):=aW λb h=>.inl h
  rcases hst with hst|⟨rfl,aah⟩|⟨rfl,hno⟩
  .exact absurd hst hq0
  .clear hq0 hK1 hx1
   go_enter Tryz.func67,Tryz.ntmps67
   go_upto_region 1 with fail
   rw[<-hV1];clear hV1;obtain⟨U,rfl⟩:=fu V1;obtain⟨Mh,E,rfl,hH,fE,XJ⟩:=aah;have aeu:=aW XJ;have HH:=nY Mh hH fE;clear Mh hH fE XJ;obtain⟨-,-,-,-,f4,f5⟩:=JH.cells HC.out;go_upto_region 7 with fail
   have hxd:Ext U U.drew:=dQ ⟨1,rfl⟩;have ae:(λX:World=>(X.cell? ⟨d.wb,4,none⟩=some (.slice (some ⟨d.db,0,none⟩) d.C.length d.C.length)/\X.cell? ⟨d.wb,5,none⟩=some (.slice (some ⟨d.mb,0,none⟩) d.C.length d.C.length))/\X.cell? ⟨d.db,k,none⟩=some (.int .i64 1)/\X.cell? ⟨d.mb,k,none⟩=some (.slice a (List.length E) c)) U.drew:=⟨⟨fw hxd f4,fw hxd f5⟩,fw hxd cq,fw hxd cm⟩;refine oJ (λX:World=>(X.cell? ⟨d.wb,4,none⟩=some (.slice (some ⟨d.db,0,none⟩) d.C.length d.C.length)/\X.cell? ⟨d.wb,5,none⟩=some (.slice (some ⟨d.mb,0,none⟩) d.C.length d.C.length))/\X.cell? ⟨d.db,k,none⟩=some (.int .i64 1)/\X.cell? ⟨d.mb,k,none⟩=some (.slice a (List.length E) c)) [16] DX ae (λaj ae=>?_);have rD:=ik hxd rU;have Qb:=jm (JH.ext HC.out hxd) (gY Dz (l7 hxd));have kE:=ae;obtain⟨Ud,O9⟩:=fu U.drew;have HUD:=aW O9;rw[<-O9]at ae kE rD Qb ⊢;clear O9 f4 f5 cq cm JH rU Dz hxd;(refine bP 0 aj ae ?_;refine bP 1 aj ae ?_;refine bP 2 aj ae ?_;refine bP 3 aj ae ?_;refine bP 4 aj ae ?_;refine bP 5 aj ae ?_;refine bP 6 aj ae ?_;refine bP 7 aj ae ?_;refine bP 8 aj ae ?_;refine bP 9 aj ae ?_;refine bP 10 aj ae ?_;refine bP 11 aj ae ?_;refine bP 12 aj ae ?_;refine bP 13 aj ae ?_;refine bP 14 aj ae ?_);have z1:=bQ Ud V.heap.size 0 _ _ _ rD;have z2:=gQ Ud V.heap.size 0 _ _ rD;simp only[gE]at z1;have Aq:=aW (gK Ud V.heap.size 0 _ _ (.slice a (List.length E) c) rD);(refine jv aj (i:=15) λK hK=>?_;go_simp)
   have ae:(λX:World=>(X.cell? ⟨d.wb,4,none⟩=some (.slice (some ⟨d.db,0,none⟩) d.C.length d.C.length)/\X.cell? ⟨d.wb,5,none⟩=some (.slice (some ⟨d.mb,0,none⟩) d.C.length d.C.length))/\X.cell? ⟨d.db,k,none⟩=some (.int .i64 1)/\X.cell? ⟨d.mb,k,none⟩=some (.slice a (List.length E) c)) (Ud.setCell ⟨V.heap.size,0,none⟩ (.slice a (List.length E) c)):=
    ⟨⟨iH (dH (p:=⟨V.heap.size,0,none⟩)) Gc.out.1 kE.1.1,iH (dH (p:=⟨V.heap.size,0,none⟩)) Gc.out.1 kE.1.2⟩,iH (dH (p:=⟨V.heap.size,0,none⟩)) Gc.out.2.1 kE.2.1,iH (dH (p:=⟨V.heap.size,0,none⟩)) Gc.out.2.2 kE.2.2⟩
   refine hK.out _ _ (λ_=>ae) ?_;clear hK K;(try simp only[nP]);refine nQ aj [16] [_] ?_;clear aj ae kE z1 z2 rD;go_wp2
   refine mg V.heap.size 30 #[.slice a (List.length E) c] Aq.out underlying30 ?_;obtain⟨k1,k2⟩:=xW HC.out (r:=.slice a (List.length E) c) GJ (λb hb=>HB.out.1.low b hb) TB Qb.out.1 HTU.out Qb.out.2;have Ny:=((aeu.out.ext (dQ ⟨1,rfl⟩:Ext U U.drew)).keep (dH (p:=⟨V.heap.size,0,none⟩) (v:=.slice a (List.length E) c)) (λb hb e=>by
    have e:b=V.heap.size:=e;rcases HTU.out b hb with q|q
    .have:=(HB.out.1.low b q).2;omega
    .omega))
   rw[<-HUD.out]at Ny;exact⟨a,E.length,c,true,rfl,k1,k2,λ_=>⟨HH.out.1,E,rfl,HH.out.2.1,HH.out.2.2,oN.mono Ny (λb hb=>by
    rcases HTU.out b hb with q|q
    .exact .inl q
    .exact .inr ⟨by omega,Ny.1 b hb⟩) (λb hb=>(k1.low b hb).2) (λ_ h=>h)⟩,λh=>by cases h⟩
  .clear hq0 hK1 hx1
   go_enter Tryz.func67,Tryz.ntmps67
   go_upto_region 1 with fail
   rw[<-hV1];clear hV1;obtain⟨U,rfl⟩:=fu V1;have rq:=aW hno;clear hno;obtain⟨-,-,-,-,f4,f5⟩:=JH.cells HC.out;go_upto_region 7 with fail
   have hxd:Ext U U.drew:=dQ ⟨1,rfl⟩;have ae:(λX:World=>(X.cell? ⟨d.wb,4,none⟩=some (.slice (some ⟨d.db,0,none⟩) d.C.length d.C.length)/\X.cell? ⟨d.wb,5,none⟩=some (.slice (some ⟨d.mb,0,none⟩) d.C.length d.C.length))/\X.cell? ⟨d.db,k,none⟩=some (.int .i64 2)/\X.cell? ⟨d.mb,k,none⟩=some (.slice a n c)) U.drew:=⟨⟨fw hxd f4,fw hxd f5⟩,fw hxd cq,fw hxd cm⟩;refine oJ (λX:World=>(X.cell? ⟨d.wb,4,none⟩=some (.slice (some ⟨d.db,0,none⟩) d.C.length d.C.length)/\X.cell? ⟨d.wb,5,none⟩=some (.slice (some ⟨d.mb,0,none⟩) d.C.length d.C.length))/\X.cell? ⟨d.db,k,none⟩=some (.int .i64 2)/\X.cell? ⟨d.mb,k,none⟩=some (.slice a n c)) [16] DX ae (λaj ae=>?_);have rD:=ik hxd rU;have Qb:=jm (JH.ext HC.out hxd) (gY Dz (l7 hxd));have kE:=ae;obtain⟨Ud,O9⟩:=fu U.drew;have HUD:=aW O9;rw[<-O9]at ae kE rD Qb ⊢;clear O9 f4 f5 cq cm JH rU Dz hxd;(refine bP 0 aj ae ?_;refine bP 1 aj ae ?_;refine bP 2 aj ae ?_;refine bP 3 aj ae ?_;refine bP 4 aj ae ?_;refine bP 5 aj ae ?_;refine bP 6 aj ae ?_;refine bP 7 aj ae ?_;refine bP 8 aj ae ?_;refine bP 9 aj ae ?_;refine bP 10 aj ae ?_;refine bP 11 aj ae ?_;refine bP 12 aj ae ?_;refine bP 13 aj ae ?_;refine bP 14 aj ae ?_);have z1:=bQ Ud V.heap.size 0 _ _ _ rD;have z2:=gQ Ud V.heap.size 0 _ _ rD;simp only[gE]at z1;have Aq:=aW (gK Ud V.heap.size 0 _ _ (.slice a n c) rD);(refine jv aj (i:=15) λK hK=>?_;go_simp)
   have ae:(λX:World=>(X.cell? ⟨d.wb,4,none⟩=some (.slice (some ⟨d.db,0,none⟩) d.C.length d.C.length)/\X.cell? ⟨d.wb,5,none⟩=some (.slice (some ⟨d.mb,0,none⟩) d.C.length d.C.length))/\X.cell? ⟨d.db,k,none⟩=some (.int .i64 2)/\X.cell? ⟨d.mb,k,none⟩=some (.slice a n c)) (Ud.setCell ⟨V.heap.size,0,none⟩ (.slice a n c)):=
    ⟨⟨iH (dH (p:=⟨V.heap.size,0,none⟩)) Gc.out.1 kE.1.1,iH (dH (p:=⟨V.heap.size,0,none⟩)) Gc.out.1 kE.1.2⟩,iH (dH (p:=⟨V.heap.size,0,none⟩)) Gc.out.2.1 kE.2.1,iH (dH (p:=⟨V.heap.size,0,none⟩)) Gc.out.2.2 kE.2.2⟩
   refine hK.out _ _ (λ_=>ae) ?_;clear hK K;(try simp only[nP]);refine nQ aj [16] [_] ?_;clear aj ae kE z1 z2 rD;go_wp2
   refine mg V.heap.size 30 #[.slice a n c] Aq.out underlying30 ?_;obtain⟨k1,k2⟩:=xW HC.out (r:=.slice a n c) GJ (λb hb=>HB.out.1.low b hb) TB Qb.out.1 HTU.out Qb.out.2;exact⟨a,n,c,false,rfl,k1,k2,(λh=>by cases h),λ_=>rq.out⟩
 case pos=>
 subst hq0;have HMK:=aW (Wi d HC.out S k IH.out V1 HKC.out hK1);clear hst hx1;go_enter Tryz.func67,Tryz.ntmps67
 go_upto_region 1 with fail
 rw[<-hV1];clear hV1;go_upto_region 3 with(go_at_call 113;refine HMK.out.mono ?_;rintro e w2 ⟨a2,n2,c2,ok,rfl,hK2,TG,hy,hn⟩)
 obtain⟨V3,Zh,hx3,b6,hz3⟩:=Ce w2 (.cells #[.slice a2 n2 c2] 30);rw[<-Zh];have x6:=bQ V3 w2.heap.size 0 _ _ _ b6;simp only[gE]at x6;have hxd:Ext V3 V3.drew:=dQ ⟨1,rfl⟩;obtain⟨-,-,-,-,f4,f5⟩:=(hK2.ext HC.out hx3).cells HC.out;have ae:(λX:World=>X.cell? ⟨d.wb,5,none⟩=some (.slice (some ⟨d.mb,0,none⟩) d.C.length d.C.length)/\X.cell? ⟨w2.heap.size,0,none⟩=some (.slice a2 n2 c2)) V3.drew:=⟨fw hxd f5,fw hxd x6⟩;refine oJ (λX:World=>X.cell? ⟨d.wb,5,none⟩=some (.slice (some ⟨d.mb,0,none⟩) d.C.length d.C.length)/\X.cell? ⟨w2.heap.size,0,none⟩=some (.slice a2 n2 c2)) [7] ZW ae (λaj ae=>?_);have Cy:=ah hx3 hxd;have b6d:=ik hxd b6;obtain⟨Vd,hVd⟩:=fu V3.drew;rw[<-hVd]at ae Cy b6d ⊢;clear hVd hxd f4 f5 x6 b6 hx3 Zh hz3;(refine bP 0 aj ae ?_;refine bP 1 aj ae ?_;refine bP 2 aj ae ?_;refine bP 3 aj ae ?_;refine bP 4 aj ae ?_;refine bP 5 aj ae ?_;refine bP 6 aj ae ?_);have hK3:=hK2.ext HC.out Cy;have Mo:fJ (DM d) V Vd:=gY (l7 HB.out.2.1) (gY TG (l7 Cy));have VT:¬DM d V.heap.size:=λq=>by have:=Gc.out;rcases q with q|q <;> omega
 have r3:Vd.heap[V.heap.size]?=some (.cells #[.slice none 0 0] 30 (0,0)):=((gY TG (l7 Cy)).block _ (bW HB.out.2.2) VT).trans HB.out.2.2;have HTU:Hid (∀b,SN S V1 w2 b->S b\/V1.heap.size<=b):=aW λb h=>h.elim .inl λh=>.inr h.1
 obtain⟨-,-,-,-,f4,f5⟩:=hK3.cells HC.out;have nwb:¬DM d d.wb:=λq=>by have:=HC.out.lt;rcases q with q|q <;> omega
 obtain⟨Q,hQ1,hQ2⟩:∃Q:Int,(ok=true->Q=1)/\(ok=false->Q=2):=by
  cases ok with
  |false=>exact⟨2,by simp,by simp⟩
  |true=>exact⟨1,by simp,by simp⟩
 have WV:ok=true->rQ (TW d) (vl d.C k)/\∃E,n2=E.length/\Ga (TW d) (vl d.C k) E/\dm E=true/\oN (SN S V1 w2) (λV=>dI V 0 (.slice a2 n2 c2) E) Vd:=λh=>by
  obtain⟨h1,E,h2,h3,h4,h5⟩:=hy h;exact⟨h1,E,h2,h3,h4,h5.ext Cy⟩
 have agm:IV d (SN S V1 w2) Vd k Q a2 n2 c2:=by
  cases ok with
  |false=>exact .inr (.inr ⟨hQ2 rfl,hn rfl⟩)
  |true=>exact .inr (.inl ⟨hQ1 rfl,WV rfl⟩)
 obtain⟨p1,p2,⟨zf0,zx0,zc0⟩,⟨zf1,zx1,zc1⟩,zf2,zx2,zc2⟩:=hK3.put HC.out HKC.out agm 2;have kmb:fJ (DM d) Vd (Vd.setCell ⟨d.mb,k,none⟩ (.slice a2 n2 c2)):=yw (.inr rfl);have kdb:fJ (DM d) (Vd.setCell ⟨d.mb,k,none⟩ (.slice a2 n2 c2)) ((Vd.setCell ⟨d.mb,k,none⟩ (.slice a2 n2 c2)).setCell ⟨d.db,k,none⟩ (.int .i64 2)):=yw (.inl rfl);have g4:=iH kmb nwb f4;have h4:=iH kdb nwb g4;have af8:fJ (DM d) ((Vd.setCell ⟨d.mb,k,none⟩ (.slice a2 n2 c2)).setCell ⟨d.db,k,none⟩ (.int .i64 2)) (((Vd.setCell ⟨d.mb,k,none⟩ (.slice a2 n2 c2)).setCell ⟨d.db,k,none⟩ (.int .i64 2)).setCell ⟨d.db,k,none⟩ (.int .i64 Q)):=yw (.inl rfl);have HP:=jm p1 p2;have DK:=jm (gY (gY kmb kdb) af8) (gY kmb (yw (i:=k) (v:=.int .i64 Q) (.inl rfl:DM d d.db)));have HR3:=nY Mo r3 VT;have ZA:=nY zf1 zc1 g4;have HF2:=nY zf2 zc2 h4;have HYN:=jm WV hn;have HQ:=jm hQ1 hQ2;have HSZ:=aW hK3.size;clear hK2 TG hy hn Cy b6d agm WV hK3 Mo r3 zf1 zc1 zf2 zc2 p1 p2 cq cm hQ1 hQ2 kmb kdb af8 g4 h4 nwb VT f4 f5;refine nQ aj [7] [_] ?_;clear aj ae;obtain⟨zf1,zc1,g4⟩:=ZA.out;go_upto_region 5 with fail
 clear zf1 zc1 g4 zf0 zc0;cases ok with
 |false=>
  obtain⟨JH,cq,cm⟩:=HP.out.2;have hq:=HQ.out.2 rfl;have hke:=DK.out.2;rw[hq]at JH cq cm hke;have Dz:=gY HR3.out.1 hke;have rU:=(hke.block _ (bW HR3.out.2.1) HR3.out.2.2).trans HR3.out.2.1;have hno:=HYN.out.2 rfl;clear hq hke HP DK HQ HF2;obtain⟨U,hU⟩:=fu ((Vd.setCell ⟨d.mb,k,none⟩ (.slice a2 n2 c2)).setCell ⟨d.db,k,none⟩ (.int .i64 2));rw[<-hU]at JH cq cm Dz rU ⊢;clear hU;have rq:=aW hno;clear hno;obtain⟨-,-,-,-,f4,f5⟩:=JH.cells HC.out;go_upto_region 7 with fail
  have hxd:Ext U U.drew:=dQ ⟨1,rfl⟩;have ae:(λX:World=>(X.cell? ⟨d.wb,4,none⟩=some (.slice (some ⟨d.db,0,none⟩) d.C.length d.C.length)/\X.cell? ⟨d.wb,5,none⟩=some (.slice (some ⟨d.mb,0,none⟩) d.C.length d.C.length))/\X.cell? ⟨d.db,k,none⟩=some (.int .i64 2)/\X.cell? ⟨d.mb,k,none⟩=some (.slice a2 n2 c2)) U.drew:=⟨⟨fw hxd f4,fw hxd f5⟩,fw hxd cq,fw hxd cm⟩;refine oJ (λX:World=>(X.cell? ⟨d.wb,4,none⟩=some (.slice (some ⟨d.db,0,none⟩) d.C.length d.C.length)/\X.cell? ⟨d.wb,5,none⟩=some (.slice (some ⟨d.mb,0,none⟩) d.C.length d.C.length))/\X.cell? ⟨d.db,k,none⟩=some (.int .i64 2)/\X.cell? ⟨d.mb,k,none⟩=some (.slice a2 n2 c2)) [16] DX ae (λaj ae=>?_);have rD:=ik hxd rU;have Qb:=jm (JH.ext HC.out hxd) (gY Dz (l7 hxd));have kE:=ae;obtain⟨Ud,O9⟩:=fu U.drew;have HUD:=aW O9;rw[<-O9]at ae kE rD Qb ⊢;clear O9 f4 f5 cq cm JH rU Dz hxd;(refine bP 0 aj ae ?_;refine bP 1 aj ae ?_;refine bP 2 aj ae ?_;refine bP 3 aj ae ?_;refine bP 4 aj ae ?_;refine bP 5 aj ae ?_;refine bP 6 aj ae ?_;refine bP 7 aj ae ?_;refine bP 8 aj ae ?_;refine bP 9 aj ae ?_;refine bP 10 aj ae ?_;refine bP 11 aj ae ?_;refine bP 12 aj ae ?_;refine bP 13 aj ae ?_;refine bP 14 aj ae ?_);have z1:=bQ Ud V.heap.size 0 _ _ _ rD;have z2:=gQ Ud V.heap.size 0 _ _ rD;simp only[gE]at z1;have Aq:=aW (gK Ud V.heap.size 0 _ _ (.slice a2 n2 c2) rD);(refine jv aj (i:=15) λK hK=>?_;go_simp)
  have ae:(λX:World=>(X.cell? ⟨d.wb,4,none⟩=some (.slice (some ⟨d.db,0,none⟩) d.C.length d.C.length)/\X.cell? ⟨d.wb,5,none⟩=some (.slice (some ⟨d.mb,0,none⟩) d.C.length d.C.length))/\X.cell? ⟨d.db,k,none⟩=some (.int .i64 2)/\X.cell? ⟨d.mb,k,none⟩=some (.slice a2 n2 c2)) (Ud.setCell ⟨V.heap.size,0,none⟩ (.slice a2 n2 c2)):=
   ⟨⟨iH (dH (p:=⟨V.heap.size,0,none⟩)) Gc.out.1 kE.1.1,iH (dH (p:=⟨V.heap.size,0,none⟩)) Gc.out.1 kE.1.2⟩,iH (dH (p:=⟨V.heap.size,0,none⟩)) Gc.out.2.1 kE.2.1,iH (dH (p:=⟨V.heap.size,0,none⟩)) Gc.out.2.2 kE.2.2⟩
  refine hK.out _ _ (λ_=>ae) ?_;clear hK K;(try simp only[nP]);refine nQ aj [16] [_] ?_;clear aj ae kE z1 z2 rD;go_wp2
  refine mg V.heap.size 30 #[.slice a2 n2 c2] Aq.out underlying30 ?_;obtain⟨k1,k2⟩:=xW HC.out (r:=.slice a2 n2 c2) GJ (λb hb=>HB.out.1.low b hb) TB Qb.out.1 HTU.out Qb.out.2;exact⟨a2,n2,c2,false,rfl,k1,k2,(λh=>by cases h),λ_=>rq.out⟩
 |true=>
  obtain⟨zf2,zc2,h4⟩:=HF2.out;obtain⟨JH,cq,cm⟩:=HP.out.1;have hq:=HQ.out.1 rfl;have hke:=DK.out.1;rw[hq]at JH cq cm hke;have Dz:=gY HR3.out.1 hke;have rU:=(hke.block _ (bW HR3.out.2.1) HR3.out.2.2).trans HR3.out.2.1;obtain⟨Mh,E,hnE,hH,fE,hS⟩:=HYN.out.1 rfl
  have aah:rQ (TW d) (vl d.C k)/\∃E,n2=E.length/\Ga (TW d) (vl d.C k) E/\dm E=true/\oN (SN S V1 w2) (λV=>dI V 0 (.slice a2 n2 c2) E) (((Vd.setCell ⟨d.mb,k,none⟩ (.slice a2 n2 c2)).setCell ⟨d.db,k,none⟩ (.int .i64 2)).setCell ⟨d.db,k,none⟩ (.int .i64 1)):=
   ⟨Mh,E,hnE,hH,fE,hS.keep hke (λb hb q=>by have:=HC.out.lt;have:=(JH.low b hb).1;rcases q with q|q <;> omega)⟩
  clear Mh hnE hH fE hS E hq hke HP DK HQ HF2;go_upto_region 7 with fail
  clear zf2 zc2 h4;obtain⟨U,hU⟩:=fu (((Vd.setCell ⟨d.mb,k,none⟩ (.slice a2 n2 c2)).setCell ⟨d.db,k,none⟩ (.int .i64 2)).setCell ⟨d.db,k,none⟩ (.int .i64 1));rw[<-hU]at JH cq cm Dz rU aah ⊢;clear hU;obtain⟨Mh,E,rfl,hH,fE,XJ⟩:=aah;have aeu:=aW XJ;have HH:=nY Mh hH fE;clear Mh hH fE XJ;obtain⟨-,-,-,-,f4,f5⟩:=JH.cells HC.out;go_upto_region 7 with fail
  have hxd:Ext U U.drew:=dQ ⟨1,rfl⟩;have ae:(λX:World=>(X.cell? ⟨d.wb,4,none⟩=some (.slice (some ⟨d.db,0,none⟩) d.C.length d.C.length)/\X.cell? ⟨d.wb,5,none⟩=some (.slice (some ⟨d.mb,0,none⟩) d.C.length d.C.length))/\X.cell? ⟨d.db,k,none⟩=some (.int .i64 1)/\X.cell? ⟨d.mb,k,none⟩=some (.slice a2 (List.length E) c2)) U.drew:=⟨⟨fw hxd f4,fw hxd f5⟩,fw hxd cq,fw hxd cm⟩;refine oJ (λX:World=>(X.cell? ⟨d.wb,4,none⟩=some (.slice (some ⟨d.db,0,none⟩) d.C.length d.C.length)/\X.cell? ⟨d.wb,5,none⟩=some (.slice (some ⟨d.mb,0,none⟩) d.C.length d.C.length))/\X.cell? ⟨d.db,k,none⟩=some (.int .i64 1)/\X.cell? ⟨d.mb,k,none⟩=some (.slice a2 (List.length E) c2)) [16] DX ae (λaj ae=>?_);have rD:=ik hxd rU;have Qb:=jm (JH.ext HC.out hxd) (gY Dz (l7 hxd));have kE:=ae;obtain⟨Ud,O9⟩:=fu U.drew;have HUD:=aW O9;rw[<-O9]at ae kE rD Qb ⊢;clear O9 f4 f5 cq cm JH rU Dz hxd;(refine bP 0 aj ae ?_;refine bP 1 aj ae ?_;refine bP 2 aj ae ?_;refine bP 3 aj ae ?_;refine bP 4 aj ae ?_;refine bP 5 aj ae ?_;refine bP 6 aj ae ?_;refine bP 7 aj ae ?_;refine bP 8 aj ae ?_;refine bP 9 aj ae ?_;refine bP 10 aj ae ?_;refine bP 11 aj ae ?_;refine bP 12 aj ae ?_;refine bP 13 aj ae ?_;refine bP 14 aj ae ?_);have z1:=bQ Ud V.heap.size 0 _ _ _ rD;have z2:=gQ Ud V.heap.size 0 _ _ rD;simp only[gE]at z1;have Aq:=aW (gK Ud V.heap.size 0 _ _ (.slice a2 (List.length E) c2) rD);(refine jv aj (i:=15) λK hK=>?_;go_simp)
  have ae:(λX:World=>(X.cell? ⟨d.wb,4,none⟩=some (.slice (some ⟨d.db,0,none⟩) d.C.length d.C.length)/\X.cell? ⟨d.wb,5,none⟩=some (.slice (some ⟨d.mb,0,none⟩) d.C.length d.C.length))/\X.cell? ⟨d.db,k,none⟩=some (.int .i64 1)/\X.cell? ⟨d.mb,k,none⟩=some (.slice a2 (List.length E) c2)) (Ud.setCell ⟨V.heap.size,0,none⟩ (.slice a2 (List.length E) c2)):=
   ⟨⟨iH (dH (p:=⟨V.heap.size,0,none⟩)) Gc.out.1 kE.1.1,iH (dH (p:=⟨V.heap.size,0,none⟩)) Gc.out.1 kE.1.2⟩,iH (dH (p:=⟨V.heap.size,0,none⟩)) Gc.out.2.1 kE.2.1,iH (dH (p:=⟨V.heap.size,0,none⟩)) Gc.out.2.2 kE.2.2⟩
  refine hK.out _ _ (λ_=>ae) ?_;clear hK K;(try simp only[nP]);refine nQ aj [16] [_] ?_;clear aj ae kE z1 z2 rD;go_wp2
  refine mg V.heap.size 30 #[.slice a2 (List.length E) c2] Aq.out underlying30 ?_;obtain⟨k1,k2⟩:=xW HC.out (r:=.slice a2 (List.length E) c2) GJ (λb hb=>HB.out.1.low b hb) TB Qb.out.1 HTU.out Qb.out.2;have Ny:=((aeu.out.ext (dQ ⟨1,rfl⟩:Ext U U.drew)).keep (dH (p:=⟨V.heap.size,0,none⟩) (v:=.slice a2 (List.length E) c2)) (λb hb e=>by
   have e:b=V.heap.size:=e;rcases HTU.out b hb with q|q
   .have:=(HB.out.1.low b q).2;omega
   .omega))
  rw[<-HUD.out]at Ny;exact⟨a2,E.length,c2,true,rfl,k1,k2,λ_=>⟨HH.out.1,E,rfl,HH.out.2.1,HH.out.2.2,oN.mono Ny (λb hb=>by
   rcases HTU.out b hb with q|q
   .exact .inl q
   .exact .inr ⟨by omega,Ny.1 b hb⟩) (λb hb=>(k1.low b hb).2) (λ_ h=>h)⟩,λh=>by cases h⟩
theorem ael(d:WD)(hc:WC d):∀m,abU d m:=λm=>by
 induction m with
 |zero=>intro S k V h;omega
 |succ m ih=>
  intro S k V h hk hK;by_cases e:k=m
  .subst e;exact aek d hc S k ih V hk hK
  .exact ih S k V (by omega) hk hK
end
