/-
  Contract of the reference's DominoValue. (2 texts.)
-/
import Derived.Test.YteknjeohbcgpdaaGreatDoorK21
import Derived.Test.YteknjeohbcgpdaaGreatDoorK39
import Derived.Test.YteknjeohbcgpdaaGreatDoorK40
set_option maxRecDepth 100000
namespace Go.Proofs.YteknjeohbcgpdaaGreatDoor
open Tryz
section
open Go.RowKit
open bO (dH Nd vl Same Gm Canon iO Ge fw GB Cs fD fr gB cnt gX kB iM plus dZ)
theorem TB.more{w:World}{px:Nat}{vt vf:Value}{S T:Nat->Prop}{L:List (ByteArray × dH)}(h:TB w px vt vf S L)(hT:∀b,T b->b<w.heap.size/\¬kD px vt vf b):TB w px vt vf (λb=>S b\/T b) L:=by
 obtain⟨xs,ho,hx⟩:=h.forms;exact⟨h.cells,h.texts,⟨xs,ho,hx.mono (λb hb=>.inl hb) (λb hb=>hb.elim (λk=>h.Tf k) (λk=>(hT b k).1))⟩,λb hb=>hb.elim (h.sep b) (λk=>(hT b k).2),h.kP,h.mK,h.mJ,h.law⟩
structure VS(w wr:World)(px po:Nat)(IJ IK:Value)(S0:Nat->Prop)(SP:Nat->Prop)(vP:Value)(PL:List (Cs × fw))(vt vf:Value)(S:Nat->Prop)(L:List (ByteArray × dH))(aN:Option Addr)(cN:Nat)(F:dH):Prop where
 tb:TB wr px vt vf S L
 tg:TG w wr px IJ IK S0 vt vf S
 res:wr.heap[w.heap.size+1]?=some (.cells #[.slice none 0 0] 28 (0,0))
 out:wr.heap[po]?=some (.cells #[.slice aN F.length cN] 28 (0,0))
 rows:Rows uM 1 SP wr vP (PL.map (·.2))
 sup:∃SF:Nat->Prop,nN SF (λW=>fu W 0 (.slice aN F.length cN) F) wr/\∀b,SF b->¬kD px vt vf b/\b≠po/\b≠w.heap.size+1/\(S0 b\/w.heap.size<=b)
 XE:∀b,SP b->b<wr.heap.size/\¬kD px vt vf b/\b≠po
 Mi:¬kD px vt vf (w.heap.size+1)/\¬S (w.heap.size+1)
 Mj:¬kD px vt vf po/\¬S po
 gt:w.heap.size+1<po
section
variable {w wr w1:World} {px po:Nat} {IJ IK:Value} {S0 SP:Nat->Prop} {vP:Value} {PL:List (Cs × fw)} {vt vf:Value} {S:Nat->Prop} {L:List (ByteArray × dH)} {aN:Option Addr} {cN:Nat} {F:dH}
theorem VS.go(h:VS w wr px po IJ IK S0 SP vP PL vt vf S L aN cN F){Cn Co:Value}{S':Nat->Prop}{L':List (ByteArray × dH)}(hb:TB w1 px Cn Co S' L')(hg:TG wr w1 px vt vf S Cn Co S'):
 VS w w1 px po IJ IK S0 SP vP PL Cn Co S' L' aN cN F:=by
 have z:=hg.keep.size;obtain⟨SF,s1,s2⟩:=h.sup;have hn:∀b,b<wr.heap.size->¬kD px vt vf b->¬kD px Cn Co b:=λb h1 h2 k=>by rcases hg.ins b k with k|k;exact h2 k;omega
 refine⟨hb,h.tg.trans hg,?_,?_,h.rows.keep hg.keep (λb hb=>(h.XE b hb).2.1),⟨SF,hg.sup s1 (λb hb=>(s2 b hb).1),λb hb=>⟨hn b (s1.1 b hb) (s2 b hb).1,(s2 b hb).2⟩⟩,λb hb=>⟨by have:=(h.XE b hb).1;omega,hn b (h.XE b hb).1 (h.XE b hb).2.1,(h.XE b hb).2.2⟩,hg.TI (bu h.res) h.Mi.1 h.Mi.2,hg.TI (bu h.out) h.Mj.1 h.Mj.2,h.gt⟩
 .rw[hg.block (bu h.res) h.Mi.1];exact h.res
 .rw[hg.block (bu h.out) h.Mj.1];exact h.out
theorem VS.ext(h:VS w wr px po IJ IK S0 SP vP PL vt vf S L aN cN F)(hx:Ext wr w1):VS w w1 px po IJ IK S0 SP vP PL vt vf S L aN cN F:=
 h.go (h.tb.ext hx) (TG.ext hx)
theorem VS.set(h:VS w wr px po IJ IK S0 SP vP PL vt vf S L aN cN F){a2:Option Addr}{c2:Nat}{F2:dH}{SF:Nat->Prop}(hs:nN SF (λW=>fu W 0 (.slice a2 F2.length c2) F2) wr)(hn:∀b,SF b->¬kD px vt vf b/\b≠po/\b≠w.heap.size+1/\(S0 b\/w.heap.size<=b)):
 VS w (wr.setCell ⟨po,0,none⟩ (.slice a2 F2.length c2)) px po IJ IK S0 SP vP PL vt vf S L a2 c2 F2:=by
 have hk:=dV (w:=wr) (p:=⟨po,0,none⟩) (v:=.slice a2 F2.length c2);have hg:=h.gt;refine⟨h.tb.keep hk (λb hb e=>h.Mj.1 (by rw[<-show b=po from e];exact hb)) (λb hb e=>h.Mj.2 (by rw[<-show b=po from e];exact hb)),h.tg.set (p:=⟨po,0,none⟩) (by show w.heap.size<=po;omega) _,?_,heap_setCell_same _ _ _ _ _ _ h.out,h.rows.keep hk (λb hb e=>(h.XE b hb).2.2 e),⟨SF,hs.keep hk (λb hb e=>(hn b hb).2.1 e),hn⟩,λb hb=>⟨by rw[World.size_setCell];exact(h.XE b hb).1,(h.XE b hb).2⟩,h.Mi,h.Mj,h.gt⟩;rw[heap_setCell_other _ _ _ _ (by show w.heap.size+1≠po;omega)];exact h.res
end
theorem YG{a b:Nat}(h:a<=b)(hb:b<=9):kC a<=kC b:=by
 unfold kC;by_cases ha:a=0
 .rw[if_pos ha];exact aJ _
 .rw[if_neg ha,if_neg (by omega)];exact bO.YI h hb
set_option maxHeartbeats 4000000 in
theorem LM(m:Nat)(ih:POk m):VOk m:=by
 intro ss hh ww vu px vt vf S L w hm XL g hv hB hroom;obtain⟨au,wu,rfl,hlc,hcap⟩:=hv.out.open;have U6:=bO.kB_9 XL;obtain⟨nB,XK⟩:∃nB,nB=gX (bd ss):=⟨_,rfl⟩;have HNB:=aQ XK;rw[<-XK]at hm hroom U6 XL;go_enter Tryz.func38,Tryz.ntmps38
 go_upto_region 1 with fail
 have hxe:Ext w ((w.alloc (.cells #[.slice au ss.length wu] 31)).alloc (.cells #[.slice none 0 0] 28)):=by go_grown
 have hbx:((w.alloc (.cells #[.slice au ss.length wu] 31)).alloc (.cells #[.slice none 0 0] 28)).heap[w.heap.size]?=some (.cells #[.slice au ss.length wu] 31 (0,0)):=by
  rw[Below.heap_alloc _ _ _ (by simp)];exact heap_alloc_new _ _
 have hrs:((w.alloc (.cells #[.slice au ss.length wu] 31)).alloc (.cells #[.slice none 0 0] 28)).heap[w.heap.size+1]?=some (.cells #[.slice none 0 0] 28 (0,0)):=by
  have h:=heap_alloc_new (w.alloc (.cells #[.slice au ss.length wu] 31)) (.cells #[.slice none 0 0] 28);rw[eQ]at h;exact h
 have HZE:Hid (w.heap.size+2<=((w.alloc (.cells #[.slice au ss.length wu] 31)).alloc (.cells #[.slice none 0 0] 28)).heap.size):=aQ (by simp only[eQ];omega);generalize (w.alloc (.cells #[.slice au ss.length wu] 31)).alloc (.cells #[.slice none 0 0] 28)=We at *;go_upto_region 2 with(go_at_call 76;refine(MI _).mono ?_;rintro e W0 ⟨vZ,rfl,hNZ,hx0⟩;obtain⟨aZ,cZ,rfl⟩:=hNZ.slice)
 have hxa:Ext W0 (W0.alloc (.cells #[.slice aZ 1 cZ] 28)):=by go_grown
 have hpo:=heap_alloc_new W0 (.cells #[.slice aZ 1 cZ] 28);have YO:=ax hx0 hxa;have hsZ:=(hNZ.sup (S:=λb=>We.heap.size<=b/\b<W0.heap.size) (λb hb=>hb.2) (λb h1 h2=>⟨h1,h2⟩)).ext hxa;have hbx:=(YO.block _ (bu hbx)).trans hbx;have hrs:=(YO.block _ (bu hrs)).trans hrs;have hzE:w.heap.size+2<=We.heap.size:=HZE.out;have hz0:=hx0.size;have IM:=ax hxe YO;clear hx0 YO hxa hNZ hxe;generalize W0.alloc (.cells #[.slice aZ 1 cZ] 28)=Wa at *;generalize W0.heap.size=po at *;have cbx:=cell_of_row Wa w.heap.size 0 _ _ _ hbx;have hvp:=(hv.ext IM).out;go_upto_region 3 with(go_at_call 74;refine(zC _ ss hh ww _ hvp g).mono ?_;rintro e w1 ⟨vP,PL,rfl,IQ,hPT,arv,-,hx1⟩;obtain⟨xsP,aP,cP,rfl,-,-,-⟩:=id IQ)
 rw[bD]at IQ;have hpz:=bu hpo;have UH:∀b,kD px vt vf b->b<w.heap.size:=λb=>hB.vJ
 have abX:∀b,S b->b<w.heap.size:=λb=>hB.Tf
 have hV0:VS w w1 px po vt vf S (λb=>Wa.heap.size<=b/\b<w1.heap.size) (.slice aP PL.length cP) PL vt vf S L aZ cZ [([],[])]:=by
  have hz1:=hx1.size;refine⟨hB.ext (ax IM hx1),TG.ext (ax IM hx1),(hx1.block _ (bu hrs)).trans hrs,(hx1.block _ hpz).trans hpo,IQ,⟨_,hsZ.ext hx1,λb hb=>⟨λk=>by have:=UH b k;omega,by omega,by omega,.inr (by omega)⟩⟩,λb hb=>⟨hb.2,λk=>by have:=UH b k;omega,by omega⟩,⟨λk=>by have:=UH _ k;omega,λk=>by have:=abX _ k;omega⟩,⟨λk=>by have:=UH _ k;omega,λk=>by have:=abX _ k;omega⟩,by omega⟩
 have I5:=aQ hPT;have HG:=aQ g;have HCF:Hid (cnt (fr (bd ss))=nB):=aQ (by rw[bO.AR g,<-HNB.out]);have ajC:=aQ XL;clear IQ hPT hx1 hrs hbx hpo hsZ IM hvp cbx UH abX g hv hB hpz hz0 hzE HZE;generalize hSP:(λb=>Wa.heap.size<=b/\b<w1.heap.size)=SP at hV0;clear hSP;go_wp2
 go_loopw [7,8] (λii _ wr=>∃(i:Nat) (RN RO:Value) (S2:Nat->Prop) (L2:List (ByteArray × dH)) (aN:Option Addr) (cN:Nat) (F:dH),ii=.int .i64 ((i:Nat):Int)/\i<=PL.length/\VS w wr px po vt vf S SP (.slice aP PL.length cP) PL RN RO S2 L2 aN cN F/\Hid (jJ PL i F/\L2.length<=L.length+kC (cnt (pI PL i)))) (λii _ _=>PL.length-(intOf ii).toNat)
 case atStart=>exact⟨0,vt,vf,S,L,aZ,cZ,_,rfl,aJ _,hV0,aQ ⟨jJ.zero PL,Nat.le_add_right _ _⟩⟩
 case round=>
  clear hV0;obtain⟨i,RN,RO,S2,L2,aN,cN,F,rfl,hi,hV,HS⟩:=hrel;by_cases hlt:i<PL.length
  .have hil:((i:Nat):Int)<((PL.length:Nat):Int):=by omega
   have fJ:=aQ hlt;have afn:i<(PL.map (·.2)).length:=(by rw[bD];exact hlt);obtain⟨bC,agS,aU,cU,sk,he,hTb,cl,hbd,R4⟩:=hV.rows.Ad afn;simp only[Value.slice.injEq]at he;obtain⟨rfl,-,rfl⟩:=he;have QX:bd sk=(PL[i]'fJ.out).2:=(by rw[hbd];simp);obtain⟨-,-,⟨h',w',g'⟩,-⟩:=I5.out.ok _ (ai fJ.out);rw[<-QX]at g';have hcs:=I5.out.zV fJ.out;rw[<-QX]at hcs;have hle:=I5.out.CG (i+1);rw[HCF.out]at hle;have hka:=abJ (a:=cnt (pI PL i)) (b:=gX (bd sk)) (by omega) hcs.2;rw[<-hcs.1]at hka;have hkm:=YG hle XL;have hkB:=aay nB;have XU:=HS.out.2;have aaH:=ih sk h' w' (.slice aU sk.length cU) px RN RO S2 L2 wr (by omega) (by omega) g' (R4.mono (λb hb=>⟨(hV.XE b hb).1,(hV.XE b hb).2.1⟩) (λb hb=>hb.1) (λ_ h=>h)) hV.tb (by omega);have HK:=aQ (And.intro QX (And.intro hka (And.intro hcs hle)));have HV:=aQ hV;clear hV R4 hbd QX hka hcs hle hkm hkB XU g' hlt afn hTb;go_upto_region 7 with(go_at_call 77;refine aaH.mono ?_;rintro e w3 ⟨vN2,F2,vt3,vf3,S3,L3,rfl,He,Ev,Pe,hB3,hG3,hL3⟩;obtain⟨aN2,cN2,rfl⟩:=He.out.slice)
   have Lp:=HV.out.go hB3 hG3;have hx4:Ext w3 (w3.alloc (.cells #[.slice aN2 (List.length F2) cN2] 28)):=(by go_grown);have hf4:=heap_alloc_new w3 (.cells #[.slice aN2 (List.length F2) cN2] 28);have hs4:=He.ext hx4;have tC:∀b,S3 b->¬kD px vt3 vf3 b/\b≠po/\b≠w.heap.size+1/\(S b\/w.heap.size<=b):=λb hb=>⟨hB3.sep b hb,λe=>Lp.Mj.2 (by rw[<-e];exact hb),λe=>Lp.Mi.2 (by rw[<-e];exact hb),Lp.tg.s2 b hb⟩
   have Q0:=Lp.ext hx4;have HL3:Hid (L3.length<=L.length+kC (cnt (pI PL (i+1)))):=aQ (by have:=HS.out.2;have:=HK.out.2.1;omega);clear Lp hx4 He hB3 hG3 hL3 aaH cl;generalize w3.alloc (.cells #[.slice aN2 (List.length F2) cN2] 28)=W4 at *;generalize w3.heap.size=pf at *;have cf:=cell_of_row W4 pf 0 _ _ _ hf4;have co:=cell_of_row W4 po 0 _ _ _ Q0.out;have fo:=frozen_of_row W4 po 0 _ _ Q0.out;simp only[gE]at cf co;by_cases hi0:i=0
   .have hq:(((i:Nat):Int)== 0)=true:=by simp[hi0]
    have hq2:((i:Nat):Int)=0:=(by omega);have adp:=aQ (Q0.set hs4 tC);have HP:Hid (jJ PL (i+1) F2):=aQ (by
     have hb:=HK.out.1;have hl:=fJ.out;subst hi0;rw[hb]at Ev Pe;exact jJ.first I5.out hl Ev Pe)
    clear hi0 Q0 hs4 tC hf4 Ev Pe;go_wp2
    go_roundw
    case rel=>exact⟨i+1,vt3,vf3,S3,L3,aN2,cN2,F2,by have:=hq2;go_num,fJ.out,adp.out,aQ ⟨HP.out,HL3.out⟩⟩
    case measure=>have:=fJ.out;simp[intOf];omega
   .have hq:(((i:Nat):Int)== 0)=false:=by simp;omega
    have hq2:¬((i:Nat):Int)=0:=(by omega);obtain⟨SF,hsF,RX⟩:=Q0.sup;have hNF:=hsF.out;have XT:=hs4.out;have hPS:=HS.out.1;have hGF:=hPS.1.1.good;have hGG:=Ev.1.good;have f0:=kQ.2 hPS.1.1.ne;have g0:=kQ.2 Ev.1.ne;have hle:=HK.out.2.2.2;have hcs:=HK.out.2.2.1;have hprod:F.length*F2.length<=kB (cnt (pI PL (i+1))):=(by rw[hcs.1];exact dn (gu hPS.2 Pe) (bO.Uw (by have:=XL;omega)));have aqz:=bO.kB_9 (show cnt (pI PL (i+1))<=9 by omega);have hsum:=QG (.slice aN F.length cN) (.slice aN2 (List.length F2) cN2) F F2 W4 hNF XT hGF hGG f0 g0 (by omega);have R9:=aQ Q0;have HTV:=aQ (And.intro Ev Pe);have HPS:=aQ hPS;clear hi0 Q0 hs4 tC Ev Pe hPS hGF hGG hNF XT hsF RX hle hcs f0 g0
    go_upto_region 5 with(first
     |(go_at_call 78;refine(BB _ H w5 (hNH.weaken (aJ _)) hIH.good (kQ.2 hIH.ne) (by omega)).mono ?_;rintro e w6 ⟨vC,F3,g3,rfl,R3,hI3,tC,hC3,ui,hl3,hx6⟩;obtain⟨aN3,cN3,rfl⟩:=R3.slice;have hV6:=R9.out.ext (ax hx5 hx6);have co6:=cell_of_row w6 po 0 _ _ _ hV6.out;have fo6:=frozen_of_row w6 po 0 _ _ hV6.out)
     |(go_at_call 79;refine hsum.mono ?_;rintro e w5 ⟨vH,H,rfl,hNH,hIH,hSH,hlH,hx5⟩))
    have UA:=hx5.size;have hgt:=R9.out.gt;have aqj:=bu R9.out.out;have hilt:∀b,kD px vt3 vf3 b->b<W4.heap.size:=λb=>R9.out.tb.vJ
    have hs6:=R3.sup (S:=λb=>w5.heap.size<=b/\b<w6.heap.size) (λb hb=>hb.2) (λb h1 h2=>⟨h1,h2⟩);have adp:=aQ (hV6.set hs6 (λb hb=>⟨λk=>by have:=hilt b k;omega,by omega,by omega,.inr (by omega)⟩));have HP:Hid (jJ PL (i+1) F3):=aQ (by
     have hb:=HK.out.1;have hl:=fJ.out;obtain⟨Ev,Pe⟩:=HTV.out;rw[hb]at Ev Pe;exact jJ.next I5.out hl (by rw[HCF.out];exact ajC.out) HPS.out Ev Pe hSH hlH hI3 tC hC3 ui hl3)
    clear hV6 hs6 co6 fo6 R3 hI3 tC hC3 ui hl3 hNH hIH hSH hlH;go_wp2
    go_roundw
    case rel=>exact⟨i+1,vt3,vf3,S3,L3,aN3,cN3,F3,by go_num,fJ.out,adp.out,aQ ⟨HP.out,HL3.out⟩⟩
    case measure=>have:=fJ.out;simp[intOf];omega
  .have hil:¬(((i:Nat):Int)<((PL.length:Nat):Int)):=by omega
   have hie:i=PL.length:=(by omega);obtain⟨SF,hsF,RX⟩:=hV.sup;have co:=cell_of_row wr po 0 _ _ _ hV.out;have cr:=cell_of_row wr (w.heap.size+1) 0 _ _ _ hV.res;have fr0:=frozen_of_row wr (w.heap.size+1) 0 _ _ hV.res;simp only[gE]at co cr;have HH:=aQ (heap_setCell_same wr (w.heap.size+1) 0 _ _ (.slice aN F.length cN) hV.res);have U6:=dV (w:=wr) (p:=⟨w.heap.size+1,0,none⟩) (v:=.slice aN F.length cN);have HF:Hid (fO F (gB (fr (bd ss)))/\F.length<=kB (gX (bd ss))/\L2.length<=L.length+kC (gX (bd ss))):=aQ (by
    have h1:=HS.out.1;have h2:=HS.out.2;rw[hie]at h1 h2;obtain⟨a1,a2⟩:=jJ.last I5.out h1;have e:cnt (pI PL PL.length)=cnt (fr (bd ss)):=by
     have:pI PL PL.length=fr (bd ss):=(by unfold pI;rw[bU (ay _)];exact I5.out.all);rw[this]
    rw[HCF.out,HNB.out]at a2;rw[e,HCF.out,HNB.out]at h2;exact⟨a1,a2,h2⟩)
   have hSw:∀b,SF b->b<wr.heap.size:=λb hb=>hsF.1 b hb
   have htb:TB (wr.setCell ⟨w.heap.size+1,0,none⟩ (.slice aN F.length cN)) px RN RO (λb=>S2 b\/SF b) L2:=
    (hV.tb.more (λb hb=>⟨hSw b hb,(RX b hb).1⟩)).keep U6 (λb hb e=>hV.Mi.1 (by rw[<-show b=w.heap.size+1 from e];exact hb)) (λb hb e=>hb.elim (λk=>hV.Mi.2 (by rw[<-show b=w.heap.size+1 from e];exact k)) (λk=>(RX b k).2.2.1 e))
   have htg:TG w (wr.setCell ⟨w.heap.size+1,0,none⟩ (.slice aN F.length cN)) px vt vf S RN RO (λb=>S2 b\/SF b):=by
    have h:=hV.tg.set (p:=⟨w.heap.size+1,0,none⟩) (by show w.heap.size<=w.heap.size+1;omega) (.slice aN F.length cN);exact⟨h.keep,h.ins,λb hb=>.inl (h.s1 b hb),λb hb=>hb.elim (h.s2 b) (λk=>(RX b k).2.2.2)⟩
   have He:nN (λb=>S2 b\/SF b) (λW=>fu W 0 (.slice aN F.length cN) F) (wr.setCell ⟨w.heap.size+1,0,none⟩ (.slice aN F.length cN)):=
    (hsF.keep U6 (λb hb e=>(RX b hb).2.2.1 e)).mono (λb hb=>.inr hb) (λb hb=>by rw[World.size_setCell];exact hb.elim (λk=>hV.tb.Tf k) (hSw b)) (λ_ h=>h)
   have adK:=aQ (And.intro htb (And.intro htg He));clear htb htg He hSw RX hsF hV hie HS U6;go_wp2
   (try simp only[Exit.inBlock,Exit.then]);refine bodyPost_ret (results_cell_row rfl _ _ (w.heap.size+1) 28 #[.slice aN F.length cN] (0,0) _ rfl HH.out underlying28 rfl (by kernel_rfl)) rfl ?_;exact⟨_,F,_,_,_,L2,rfl,adK.out.2.2,HF.out.1,HF.out.2.1,adK.out.1,adK.out.2.1,HF.out.2.2⟩
theorem WC:∀m,VOk m/\POk m:=by
 intro m
 induction m using Nat.strongRecOn with
 |_ m ih=>
  have hp:=Qr m λk hk=>(ih k hk).1
  exact⟨LM m hp,hp⟩
end
section
open Go.RowKit
open bO (dH Nd vl Same Gm Canon iO Ge fw GB iG fr gB gX kB)
def ES(b:fw)(Fr:dH)(ok:Bool):Prop:=(iG b=true/\gX b<=9/\∃F,fO F (gB (fr b))/\ok=iQ F/\Fr=if ok then F else [])\/((iG b=false\/¬gX b<=9)/\ok=false/\Fr=[])
theorem ES.unique{b:fw}{F G:dH}{x y:Bool}(h:ES b F x)(k:ES b G y):F=G/\x=y:=by
 rcases h with⟨h1,h1',F1,h2,h3,h4⟩|⟨h1,h2,h3⟩ <;> rcases k with⟨k1,k1',F2,k2,k3,k4⟩|⟨k1,k2,k3⟩
 .have:=h2.unique k2
  subst this;subst h3;subst k3;exact⟨by rw[h4,k4],rfl⟩
 .rcases k1 with k1|k1
  .rw[h1]at k1;cases k1
  .exact absurd h1' k1
 .rcases h1 with h1|h1
  .rw[k1]at h1;cases h1
  .exact absurd k1' h1
 .exact⟨by rw[h3,k3],by rw[h2,k2]⟩
theorem TB.empty{w:World}{px:Nat}(h:w.heap[px]?=some (.cells #[.slice none 0 0,.slice none 0 0] 64 (0,0))):TB w px (.slice none 0 0) (.slice none 0 0) (λ_=>False) []:=
 ⟨h,⟨by simp,.inl ⟨rfl,rfl⟩⟩,⟨[],⟨by simp,.inl ⟨rfl,rfl⟩⟩,Items.nil (λb h=>h.elim)⟩,λb h=>h.elim,by simp[Value.ownBlock],by simp[Value.ownBlock],by simp[Value.ownBlock],λx h=>absurd h (by simp)⟩
def Rq(b:fw)(w:World)(e:Ending)(w':World):Prop:=
 ∃vN Fr ok,e=.returned (.tuple #[.agg #[vN],.bool ok])/\fu w' 0 vN Fr/\ES b Fr ok/\Ext w w'
set_option maxHeartbeats 2000000 in
theorem uU(v:Value)(ss:List ByteArray)(w:World)(hv:Strs w v ss)(hl:ss.length<=1048576)(hs:∀s,s∈ss->s.size<=1048576):Calls prog 8 #[.agg #[v]] w (Rq (bd ss) w):=by
 obtain⟨a,cap,rfl,hcap,p8⟩:=hv.open;have hb1:((w.alloc (.cells #[.slice a ss.length cap] 31)).alloc (.cells #[.slice none 0 0] 28)).heap[w.heap.size]?=some (.cells #[.slice a ss.length cap] 31 (0,0)):=by
  rw[Below.heap_alloc _ _ _ (by simp)];exact heap_alloc_new _ _
 have hb2:((w.alloc (.cells #[.slice a ss.length cap] 31)).alloc (.cells #[.slice none 0 0] 28)).heap[w.heap.size+1]?=some (.cells #[.slice none 0 0] 28 (0,0)):=by
  have h:=heap_alloc_new (w.alloc (.cells #[.slice a ss.length cap] 31)) (.cells #[.slice none 0 0] 28);rw[eQ]at h;exact h
 have hx2:Ext w ((w.alloc (.cells #[.slice a ss.length cap] 31)).alloc (.cells #[.slice none 0 0] 28)):=by go_grown
 have HV:=aQ hv;have HS:=aQ (And.intro hl hs);clear hl hs hv;cases hg:iG (bd ss)with
 |false=>
  have Sc:Hid (iG (bd ss)=false\/¬gX (bd ss)<=9):=aQ (.inl hg);go_enter Tryz.func8,Tryz.ntmps8
  go_upto_region 1 with fail
  generalize (w.alloc (.cells #[.slice a ss.length cap] 31)).alloc (.cells #[.slice none 0 0] 28)=W at *;have c0:=cell_of_row W w.heap.size 0 _ _ _ hb1;go_upto_region 2 with(go_at_call 30;refine(jG _ ss _ (HV.out.ext hx2) HS.out.1 HS.out.2).mono ?_;rintro e w1 ⟨he,hx1⟩;rw[hg]at he;subst he)
  have hr1:w1.heap[w.heap.size+1]?=some (.cells #[.slice none 0 0] 28 (0,0)):=(hx1.block _ (bu hb2)).trans hb2;have d0:=cell_of_row w1 (w.heap.size+1) 0 _ _ _ hr1;have f0:=frozen_of_row w1 (w.heap.size+1) 0 _ _ hr1;have HE:=aQ (ax hx2 hx1);clear c0;go_wp2
  have HH:=aQ (heap_setCell_same w1 (w.heap.size+1) 0 _ _ (.slice none 0 0) hr1);(try simp only[Exit.inBlock,Exit.then]);refine bodyPost_ret (dO rfl _ _ (w.heap.size+1) 28 #[.slice none 0 0] (0,0) _ rfl HH.out underlying28 rfl (by kernel_rfl) rfl) rfl ?_;exact⟨_,[],false,rfl,⟨none,0,rfl,ay _,aJ _,λh=>absurd h (by simp)⟩,.inr ⟨Sc.out,rfl,rfl⟩,HE.out.setCell (p:=⟨w.heap.size+1,0,none⟩) (by show w.heap.size<=w.heap.size+1;omega) _⟩
 |true=>
  obtain⟨hh,ww,g⟩:=bO.nK.1 hg;by_cases h9:gX (bd ss)<=9
  .go_enter Tryz.func8,Tryz.ntmps8
   go_upto_region 1 with fail
   generalize (w.alloc (.cells #[.slice a ss.length cap] 31)).alloc (.cells #[.slice none 0 0] 28)=W at *;have c0:=cell_of_row W w.heap.size 0 _ _ _ hb1;have hq9:¬((9:Int)<((gX (bd ss):Nat):Int)):=(by omega);have H9:=aQ h9;clear h9
   go_upto_region 3 with(first
    |(go_at_call 37;refine(BC _ ss hh ww w1 (HV.out.ext (ax hx2 hx1)) g).mono ?_;rintro e w2 ⟨rfl,xE⟩)
    |(go_at_call 30;refine(jG _ ss _ (HV.out.ext hx2) HS.out.1 HS.out.2).mono ?_;rintro e w1 ⟨he,hx1⟩;rw[hg]at he;subst he;have c1:=(hx1.cell (lt_of_cell c0)).trans c0))
   have hE1:=ax (ax hx2 hx1) xE;have BD:=ax hx1 xE;have hr1:w2.heap[w.heap.size+1]?=some (.cells #[.slice none 0 0] 28 (0,0)):=(BD.block _ (bu hb2)).trans hb2;have hq1:w2.heap[w.heap.size]?=some (.cells #[.slice a ss.length cap] 31 (0,0)):=(BD.block _ (bu hb1)).trans hb1;clear c0 c1 hq9 xE hx1 BD hb1 hb2 hx2;go_upto_region 4 with fail
   have hxb:Ext w2 (w2.alloc (.cells #[.slice none 0 0,.slice none 0 0] 64)):=(by go_grown);have hpb:=heap_alloc_new w2 (.cells #[.slice none 0 0,.slice none 0 0] 64);have hrb:=(hxb.block _ (bu hr1)).trans hr1;have hqb:=(hxb.block _ (bu hq1)).trans hq1;have hE2:=ax hE1 hxb;have hzp:w.heap.size+1<w2.heap.size:=bu hr1;clear hr1 hq1 hxb hE1;generalize w2.alloc (.cells #[.slice none 0 0,.slice none 0 0] 64)=W2 at *;generalize w2.heap.size=px at *;have hTB:=TB.empty hpb;have hpx:=bu hpb;have hIS:∀b,kD px (.slice none 0 0) (.slice none 0 0) b->b=px:=λb hb=>by
    rcases hb with h|h|h
    .exact h
    .simp[Value.ownBlock]at h
    .simp[Value.ownBlock]at h
   have hve:=HV.out.ext hE2;have hzv:=hE2.size
   have UK:nN (aai W2 px (.slice none 0 0) (.slice none 0 0)) (λW=>Strs W (.slice a ss.length cap) ss) W2:=
    ⟨λb hb=>hb.1,λW h2=>lN.keep hve λb hl hb=>h2 b ⟨lN.blk hve hl hb,λk=>by have:=hIS b k;have:=lN.blk HV.out hl hb;omega⟩⟩
   have c0:=cell_of_row W2 w.heap.size 0 _ _ _ hqb;have U6:=bO.kB_9 H9.out;have hval:=(WC (gX (bd ss))).1 ss hh ww (.slice a ss.length cap) px (.slice none 0 0) (.slice none 0 0) (λ_=>False) [] W2 (ay _) H9.out g UK hTB (by simp;omega);clear hve UK hTB hpb;go_upto_region 5 with(go_at_call 38;refine hval.mono ?_;rintro e w3 ⟨vN,F,Cn,Co,S',L',rfl,He,Ev,Pe,hB3,hG3,hL3⟩;obtain⟨aN,cN,rfl⟩:=He.out.slice)
   have hz3:=hG3.keep.size;have hrI:¬kD px (.slice none 0 0) (.slice none 0 0) (w.heap.size+1):=λk=>by have:=hIS _ k;omega
   have hr3:w3.heap[w.heap.size+1]?=some (.cells #[.slice none 0 0] 28 (0,0)):=(hG3.block (bu hrb) hrI).trans hrb;have ui:Ext w w3:=⟨hG3.keep.os.trans hE2.os,hG3.keep.tape.trans hE2.tape,hG3.keep.output.trans hE2.output,dn hE2.size hG3.keep.size,λk hk=>(hG3.block (bz hk hE2.size) (λh=>by have:=hIS _ h;omega)).trans (hE2.block k hk)⟩;have hx4:Ext w3 (w3.alloc (.cells #[.slice aN (List.length F) cN] 28)):=(by go_grown);have hf4:=heap_alloc_new w3 (.cells #[.slice aN (List.length F) cN] 28);have Pd:=He.out.ext hx4;have aji:=He.ext hx4;have Pb:∀b,S' b->b≠w.heap.size+1:=λb hb e=>by
    rcases hG3.s2 b hb with k|k
    .exact k
    .have:=bu hrb;omega
   have hr4:(w3.alloc (.cells #[.slice aN (List.length F) cN] 28)).heap[w.heap.size+1]?=some (.cells #[.slice none 0 0] 28 (0,0)):=(hx4.block _ (bu hr3)).trans hr3;have IV:=ax ui hx4;generalize w3.alloc (.cells #[.slice aN (List.length F) cN] 28)=W4 at *;generalize w3.heap.size=pf at *;have cf:=cell_of_row W4 pf 0 _ _ _ hf4;have HT:=aQ Ev;have hIF:=Ev.1;clear Ev hx4 ui hE2 hG3 hB3 He hr3 hrI hqb hrb hIS hval c0;cases hfit:iQ F with
   |false=>
    go_wp2_with (go_at_call 39;refine(Ab _ F _ Pd hIF).mono ?_;rintro e w5 ⟨he,hx5⟩;rw[hfit]at he;subst he;have Kg:w5.heap[w.heap.size+1]?=some (.cells #[.slice none 0 0] 28 (0,0)):=(hx5.block _ (bu hr4)).trans hr4;have d0:=cell_of_row w5 (w.heap.size+1) 0 _ _ _ Kg;have f0:=frozen_of_row w5 (w.heap.size+1) 0 _ _ Kg)
    have HH:=aQ (heap_setCell_same w5 (w.heap.size+1) 0 _ _ (.slice none 0 0) Kg);(try simp only[Exit.inBlock,Exit.then]);refine bodyPost_ret (dO rfl _ _ (w.heap.size+1) 28 #[.slice none 0 0] (0,0) _ rfl HH.out underlying28 rfl (by kernel_rfl) rfl) rfl ?_;exact⟨_,[],false,rfl,⟨none,0,rfl,ay _,aJ _,λh=>absurd h (by simp)⟩,.inl ⟨hg,H9.out,F,HT.out,hfit.symm,rfl⟩,(ax IV hx5).setCell (p:=⟨w.heap.size+1,0,none⟩) (by show w.heap.size<=w.heap.size+1;omega) _⟩
   |true=>
    go_wp2_with (go_at_call 39;refine(Ab _ F _ Pd hIF).mono ?_;rintro e w5 ⟨he,hx5⟩;rw[hfit]at he;subst he;have Kg:w5.heap[w.heap.size+1]?=some (.cells #[.slice none 0 0] 28 (0,0)):=(hx5.block _ (bu hr4)).trans hr4;have d0:=cell_of_row w5 (w.heap.size+1) 0 _ _ _ Kg;have f0:=frozen_of_row w5 (w.heap.size+1) 0 _ _ Kg;have cf5:w5.cell? ⟨pf,0,none⟩=some (.slice aN (List.length F) cN):=(hx5.cell (lt_of_cell cf)).trans cf)
    have HH:=aQ (heap_setCell_same w5 (w.heap.size+1) 0 _ _ (.slice aN (List.length F) cN) Kg);(try simp only[Exit.inBlock,Exit.then]);refine bodyPost_ret (dO rfl _ _ (w.heap.size+1) 28 #[.slice aN (List.length F) cN] (0,0) _ rfl HH.out underlying28 rfl (by kernel_rfl) rfl) rfl ?_;exact⟨_,F,true,rfl,((aji.ext hx5).keep (dV (p:=⟨w.heap.size+1,0,none⟩) (v:=.slice aN (List.length F) cN)) Pb).out,.inl ⟨hg,H9.out,F,HT.out,hfit.symm,rfl⟩,(ax IV hx5).setCell (p:=⟨w.heap.size+1,0,none⟩) (by show w.heap.size<=w.heap.size+1;omega) _⟩
  .have Sc:Hid (iG (bd ss)=false\/¬gX (bd ss)<=9):=aQ (.inr h9)
   go_enter Tryz.func8,Tryz.ntmps8
   go_upto_region 1 with fail
   generalize (w.alloc (.cells #[.slice a ss.length cap] 31)).alloc (.cells #[.slice none 0 0] 28)=W at *;have c0:=cell_of_row W w.heap.size 0 _ _ _ hb1;have hq9:((9:Int)<((gX (bd ss):Nat):Int)):=(by omega);clear h9
   go_upto_region 2 with(first
    |(go_at_call 37;refine(BC _ ss hh ww w1 (HV.out.ext (ax hx2 hx1)) g).mono ?_;rintro e w2 ⟨rfl,xE⟩)
    |(go_at_call 30;refine(jG _ ss _ (HV.out.ext hx2) HS.out.1 HS.out.2).mono ?_;rintro e w1 ⟨he,hx1⟩;rw[hg]at he;subst he;have c1:=(hx1.cell (lt_of_cell c0)).trans c0))
   have hr1:w2.heap[w.heap.size+1]?=some (.cells #[.slice none 0 0] 28 (0,0)):=(xE.block _ (bu ((hx1.block _ (bu hb2)).trans hb2))).trans ((hx1.block _ (bu hb2)).trans hb2);have d0:=cell_of_row w2 (w.heap.size+1) 0 _ _ _ hr1;have f0:=frozen_of_row w2 (w.heap.size+1) 0 _ _ hr1;have HE:=aQ (ax (ax hx2 hx1) xE);clear c0 c1;go_wp2
   have HH:=aQ (heap_setCell_same w2 (w.heap.size+1) 0 _ _ (.slice none 0 0) hr1);(try simp only[Exit.inBlock,Exit.then]);refine bodyPost_ret (dO rfl _ _ (w.heap.size+1) 28 #[.slice none 0 0] (0,0) _ rfl HH.out underlying28 rfl (by kernel_rfl) rfl) rfl ?_;exact⟨_,[],false,rfl,⟨none,0,rfl,ay _,aJ _,λh=>absurd h (by simp)⟩,.inr ⟨Sc.out,rfl,rfl⟩,HE.out.setCell (p:=⟨w.heap.size+1,0,none⟩) (by show w.heap.size<=w.heap.size+1;omega) _⟩
end
end Go.Proofs.YteknjeohbcgpdaaGreatDoor