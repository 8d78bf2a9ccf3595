/-
  Plain law: the parts of a strip of at most seven cells: each has a form within bounds where the strip has; the sum of the forms is the strip's. (3 texts.)
-/
import Derived.Test.YteknjeohbcgpdaaGreatDoorK48
import Derived.Test.YteknjeohbcgpdaaGreatDoorK49
set_option maxRecDepth 100000
namespace Go.Proofs.YteknjeohbcgpdaaGreatDoor
open Tryz
section
open Go.RowKit
open bz (dC Nd vl Same Gm Canon iK Ge fq eu plus Stp gS jN eQ mU live mS sM nM)
section
variable {kd:Nat}
theorem SB.more{w:World}{px:Nat}{vt vf:Value}{S T:Nat->Prop}{L:List (ByteArray × dC)}(h:SB kd w px vt vf S L)(hT:∀b,T b->b<w.heap.size/\¬kR px vt vf b):SB kd w px vt vf (λb=>S b\/T b) L:=by
 obtain⟨xs,ho,hx⟩:=h.forms;exact⟨h.cells,h.texts,⟨xs,ho,hx.mono (λb hb=>.inl hb) (λb hb=>hb.elim (λk=>h.Q5 k) (λk=>(hT b k).1))⟩,λb hb=>hb.elim (h.sep b) (λk=>(hT b k).2),h.kX,h.mQ,h.mP,h.law,h.nod⟩
structure UH(kd:Nat)(w wr:World)(px po:Nat)(Fy FC:Value)(S0:Nat->Prop)(vP:Value)(ps:List ByteArray)(vt vf:Value)(S:Nat->Prop)(L:List (ByteArray × dC))(aN:Option Addr)(cN:Nat)(F:dC):Prop where
 tb:SB kd wr px vt vf S L
 tg:TG w wr px Fy FC S0 vt vf S
 res:wr.heap[w.heap.size]?=some (.cells #[.slice none 0 0] 28 (0,0))
 out:wr.heap[po]?=some (.cells #[.slice aN F.length cN] 28 (0,0))
 rows:Strs wr vP ps
 sup:∃SF:Nat->Prop,oP SF (λW=>eX W 0 (.slice aN F.length cN) F) wr/\∀b,SF b->¬kR px vt vf b/\b≠po/\b≠w.heap.size/\(S0 b\/w.heap.size<=b)
 VG:∀b,vP.ownBlock=some b->b<wr.heap.size/\¬kR px vt vf b/\b≠po
 KQ:¬kR px vt vf w.heap.size/\¬S w.heap.size
 KR:¬kR px vt vf po/\¬S po
 gt:w.heap.size<po
section
variable {w wr w1:World} {px po:Nat} {Fy FC:Value} {S0:Nat->Prop} {vP:Value} {ps:List ByteArray} {vt vf:Value} {S:Nat->Prop} {L:List (ByteArray × dC)} {aN:Option Addr} {cN:Nat} {F:dC}
theorem UH.go(h:UH kd w wr px po Fy FC S0 vP ps vt vf S L aN cN F){Bt Bu:Value}{S':Nat->Prop}{L':List (ByteArray × dC)}(hb:SB kd w1 px Bt Bu S' L')(hg:TG wr w1 px vt vf S Bt Bu S'):
 UH kd w w1 px po Fy FC S0 vP ps Bt Bu S' L' aN cN F:=by
 have z:=hg.keep.size;obtain⟨SF,s1,s2⟩:=h.sup;have hn:∀b,b<wr.heap.size->¬kR px vt vf b->¬kR px Bt Bu b:=λb h1 h2 k=>by rcases hg.ins b k with k|k;exact h2 k;omega
 refine⟨hb,h.tg.trans hg,?_,?_,lS.keep h.rows (λb hl hb=>hg.block (h.VG b hb).1 (h.VG b hb).2.1),⟨SF,hg.sup s1 (λb hb=>(s2 b hb).1),λb hb=>⟨hn b (s1.1 b hb) (s2 b hb).1,(s2 b hb).2⟩⟩,λb hb=>⟨by have:=(h.VG b hb).1;omega,hn b (h.VG b hb).1 (h.VG b hb).2.1,(h.VG b hb).2.2⟩,hg.VD (bG h.res) h.KQ.1 h.KQ.2,hg.VD (bG h.out) h.KR.1 h.KR.2,h.gt⟩
 .rw[hg.block (bG h.res) h.KQ.1];exact h.res
 .rw[hg.block (bG h.out) h.KR.1];exact h.out
theorem UH.ext(h:UH kd w wr px po Fy FC S0 vP ps vt vf S L aN cN F)(hx:Ext wr w1):UH kd w w1 px po Fy FC S0 vP ps vt vf S L aN cN F:=
 h.go (h.tb.ext hx) (TG.ext hx)
theorem UH.set(h:UH kd w wr px po Fy FC S0 vP ps vt vf S L aN cN F){a2:Option Addr}{c2:Nat}{F2:dC}{SF:Nat->Prop}(hs:oP SF (λW=>eX W 0 (.slice a2 F2.length c2) F2) wr)(hn:∀b,SF b->¬kR px vt vf b/\b≠po/\b≠w.heap.size/\(S0 b\/w.heap.size<=b)):
 UH kd w (wr.setCell ⟨po,0,none⟩ (.slice a2 F2.length c2)) px po Fy FC S0 vP ps vt vf S L a2 c2 F2:=by
 have hk:=gI (w:=wr) (p:=⟨po,0,none⟩) (v:=.slice a2 F2.length c2);have hg:=h.gt;refine⟨h.tb.keep hk (λb hb e=>h.KR.1 (by rw[<-show b=po from e];exact hb)) (λb hb e=>h.KR.2 (by rw[<-show b=po from e];exact hb)),h.tg.set (p:=⟨po,0,none⟩) (by show w.heap.size<=po;omega) _,?_,heap_setCell_same _ _ _ _ _ _ h.out,lS.keep h.rows (λb hl hb=>heap_setCell_other _ _ _ _ (h.VG b hb).2.2),⟨SF,hs.keep hk (λb hb e=>(hn b hb).2.1 e),hn⟩,λb hb=>⟨by rw[World.size_setCell];exact(h.VG b hb).1,(h.VG b hb).2⟩,h.KQ,h.KR,h.gt⟩;rw[heap_setCell_other _ _ _ _ (by show w.heap.size≠po;omega)];exact h.res
end
end
set_option maxHeartbeats 4000000 in
theorem Ii(kd:Nat)(hkd:kd<=3)(m:Nat)(ih:aac kd m):aaa kd m:=by
 intro tb px vt vf S L w hm Df h7 hB;have GX:=aH Df;have H7:=aH h7;have HB:=aH hB;have hxe:Ext w (w.alloc (.cells #[.slice none 0 0] 28)):=by go_grown
 have hrs:=heap_alloc_new w (.cells #[.slice none 0 0] 28);have HZE:Hid (w.heap.size+1<=(w.alloc (.cells #[.slice none 0 0] 28)).heap.size):=aH (by simp only[fw];omega);clear Df h7;go_enter Tryz.func56,Tryz.ntmps56
 go_upto_region 1 with fail
 generalize w.alloc (.cells #[.slice none 0 0] 28)=We at *;go_upto_region 2 with(go_at_call 76;refine(Li _).mono ?_;rintro e W0 ⟨vZ,rfl,hNZ,hx0⟩;obtain⟨aZ,cZ,rfl⟩:=hNZ.slice)
 have hxa:Ext W0 (W0.alloc (.cells #[.slice aZ 1 cZ] 28)):=by go_grown
 have hpo:=heap_alloc_new W0 (.cells #[.slice aZ 1 cZ] 28);have YQ:=ay hx0 hxa;have hsZ:=(hNZ.sup (S:=λb=>We.heap.size<=b/\b<W0.heap.size) (λb hb=>hb.2) (λb h1 h2=>⟨h1,h2⟩)).ext hxa;have hrs:=(YQ.block _ (bG hrs)).trans hrs;have hzE:w.heap.size+1<=We.heap.size:=HZE.out;have hz0:=hx0.size;have LC:=ay hxe YQ;clear hx0 YQ hxa hNZ hxe;generalize W0.alloc (.cells #[.slice aZ 1 cZ] 28)=Wa at *;generalize W0.heap.size=po at *;have hBa:=hB.ext LC;have cbx:=cell_of_row Wa px 0 _ _ _ hBa.cells;have h7':=H7.out;go_upto_region 3 with(go_at_call 58;refine(yN hkd tb (by omega) _).mono ?_;rintro e w1 hr;obtain⟨aP,ps,cP,rfl,hmr,xP,wM⟩:=hr.open;have HML:=aH xP;have Fu:=aH wM;have Yh:=aH hmr;clear hr xP wM hmr)
 have hpz:=bG hpo;have Sk:∀b,kR px vt vf b->b<w.heap.size:=λb=>hB.uK
 have YR:∀b,S b->b<w.heap.size:=λb=>hB.Q5
 have hx1:=Yh.out.ext;have hpl:ps.length<=8:=by
  have a:=(mH (k:=kd) (bH tb)).1;have b:(eQ kd (bH tb)).length<=(bz.jW kd (bH tb)).length:=jQ _ _;have c:=Fu.out;rw[bN]at a;omega
 have hV0:UH kd w w1 px po vt vf S (.slice aP ps.length cP) ps vt vf S L aZ cZ [([],[])]:=by
  have hz1:=hx1.size;refine⟨hB.ext (ay LC hx1),TG.ext (ay LC hx1),(hx1.block _ (bG hrs)).trans hrs,(hx1.block _ hpz).trans hpo,Strs.eO Yh.out.own (by omega),⟨_,hsZ.ext hx1,λb hb=>⟨λk=>by have:=Sk b k;omega,by omega,by omega,.inr (by omega)⟩⟩,λb hb=>?_,⟨λk=>by have:=Sk _ k;omega,λk=>by have:=YR _ k;omega⟩,⟨λk=>by have:=Sk _ k;omega,λk=>by have:=YR _ k;omega⟩,by omega⟩;have hq:=Yh.out.own.lt b hb;exact⟨hq.2,λk=>by have:=Sk b k;omega,by omega⟩
 have HPL:Hid (ps.map bH=eQ kd (bH tb)):=HML;have HPN:Hid (ps.length=(eQ kd (bH tb)).length):=Fu;clear hx1 hrs hpo hsZ LC hBa cbx Sk YR hB hpz hz0 hzE HZE Yh;go_wp2
 go_loopw [7] (λii wr=>∃(i:Nat) (QH QI:Value) (S2:Nat->Prop) (L2:List (ByteArray × dC)) (aN:Option Addr) (cN:Nat) (F:dC),ii=.int .i64 ((i:Nat):Int)/\i<=ps.length/\UH kd w wr px po vt vf S (.slice aP ps.length cP) ps QH QI S2 L2 aN cN F/\Hid (jF kd (eQ kd (bH tb)) i F/\∀x,x∈L2->x∈L\/mS kd (bH x.1)<=mS kd (bH tb))) (λii _=>ps.length-(intOf ii).toNat)
 case atStart=>exact⟨0,vt,vf,S,L,aZ,cZ,_,rfl,az _,hV0,aH ⟨jF.zero kd _,λx hx=>.inl hx⟩⟩
 case round=>
  clear hV0;obtain⟨i,QH,QI,S2,L2,aN,cN,F,rfl,hi,hV,HS⟩:=hrel;by_cases hlt:i<ps.length
  .have hil:((i:Nat):Int)<((ps.length:Nat):Int):=by omega
   have dK:=aH hlt;have V7:i<(eQ kd (bH tb)).length:=(by rw[<-HPN.out];exact hlt);have Xl:=aH V7;obtain⟨bC,oC,rfl,hcl⟩:=hV.rows.at hlt;have cl:=hcl i hlt;obtain⟨sk,hsk⟩:∃sk,sk=ps[i]'hlt:=⟨_,rfl⟩;rw[<-hsk]at cl;have hbd:bH sk=(eQ kd (bH tb))[i]'Xl.out:=by
    have e:(ps.map bH)[i]?=(eQ kd (bH tb))[i]?:=(by rw[HPL.out]);rw[dB,aa hlt,aa V7,<-hsk]at e;simp only[iG,bJ]at e;exact e
   have hmem:bH sk∈eQ kd (bH tb):=(by rw[hbd];exact ah V7);have hpm:=bz.oz.2 _ hmem;have hms:=VE hmem;have YJ:sk.size<=7:=(by have:=hpm.2.1;rw[bN,bN]at this;have:=H7.out;omega);have XN:=ih sk px QH QI S2 L2 wr (by omega) (hpm.2.2 GX.out) YJ hV.tb;have HK:=aH (And.intro hbd hms);have HV:=aH hV;have Kb:=Nn (kd:=kd) YJ;clear hV hbd hmem hpm hms YJ hcl hsk hlt V7;go_upto_region 7 with(go_at_call 99;refine XN.mono ?_;rintro e w3 ⟨Yn,F2,Xx,Xy,S3,L3,rfl,Gc,DK,NM,hB3,hG3,hL3⟩;obtain⟨aN2,cN2,rfl⟩:=Gc.out.slice)
   have NJ:=HV.out.go hB3 hG3;have hx4:Ext w3 (w3.alloc (.cells #[.slice aN2 (List.length F2) cN2] 28)):=(by go_grown);have hf4:=heap_alloc_new w3 (.cells #[.slice aN2 (List.length F2) cN2] 28);have hs4:=Gc.ext hx4;have yX:∀b,S3 b->¬kR px Xx Xy b/\b≠po/\b≠w.heap.size/\(S b\/w.heap.size<=b):=λb hb=>⟨hB3.sep b hb,λe=>NJ.KR.2 (by rw[<-e];exact hb),λe=>NJ.KQ.2 (by rw[<-e];exact hb),NJ.tg.s2 b hb⟩
   have Pw:=NJ.ext hx4;have Xo:Hid (∀x,x∈L3->x∈L\/mS kd (bH x.1)<=mS kd (bH tb)):=aH λx hx=>by
    rcases hL3 x hx with k|k
    .exact HS.out.2 x k
    .have:=HK.out.2;exact .inr (by omega)
   clear NJ hx4 Gc hB3 hG3 hL3 XN cl;generalize w3.alloc (.cells #[.slice aN2 (List.length F2) cN2] 28)=W4 at *;generalize w3.heap.size=pf at *;have cf:=cell_of_row W4 pf 0 _ _ _ hf4;have co:=cell_of_row W4 po 0 _ _ _ Pw.out;have fo:=frozen_of_row W4 po 0 _ _ Pw.out;simp only[gE]at cf co;by_cases hi0:i=0
   .have hq:(((i:Nat):Int)== 0)=true:=by simp[hi0]
    have hq2:((i:Nat):Int)=0:=(by omega);have aaf:=aH (Pw.set hs4 yX);have HP:Hid (jF kd (eQ kd (bH tb)) (i+1) F2):=aH (by
     have hb:=HK.out.1;have hl:=Xl.out;subst hi0;rw[hb]at DK NM;exact jF.first hl DK NM)
    clear hi0 Pw hs4 yX hf4 DK NM;go_wp2
    go_roundw
    case rel=>exact⟨i+1,Xx,Xy,S3,L3,aN2,cN2,F2,by have:=hq2;go_num,dK.out,aaf.out,aH ⟨HP.out,Xo.out⟩⟩
    case measure=>have:=dK.out;simp[intOf];omega
   .have hq:(((i:Nat):Int)== 0)=false:=by simp;omega
    have hq2:¬((i:Nat):Int)=0:=(by omega);obtain⟨SF,hsF,Ql⟩:=Pw.sup;have hNF:=hsF.out;have hNG:=hs4.out;have hPS:=HS.out.1;have hGF:=hPS.1.1.good;have hGG:=DK.1.good;have f0:=iY.2 hPS.1.1.ne;have g0:=iY.2 DK.1.ne;have hF7:F.length<=2187:=bU hPS.2 (bU (nY (by omega) (bU (Nl _ _) bz.oz.1)) (Nn H7.out));have hprod:F.length*F2.length<=2187:=by
     have e:=HK.out.1;have h1:F.length*F2.length<=3 ^ bz.mg kd ((eQ kd (bH tb)).take i)*3 ^ live kd (bH sk):=jR hPS.2 NM;rw[<-Nat.pow_add,e,<-zO Xl.out]at h1;exact bU h1 (bU (nY (by omega) (bU (Nl _ _) bz.oz.1)) (Nn H7.out))
    have hsum:=Pb (.slice aN F.length cN) (.slice aN2 (List.length F2) cN2) F F2 W4 hNF hNG hGF hGG f0 g0 (by omega);have Qq:=aH Pw;have HTV:=aH (And.intro DK NM);have Eg:=aH hPS;clear hi0 Pw hs4 yX DK NM hPS hGF hGG hNF hNG hsF Ql f0 g0
    go_upto_region 5 with(first
     |(go_at_call 78;refine(AQ _ H w5 (hNH.weaken (az _)) hIH.good (iY.2 hIH.ne) (by omega)).mono ?_;rintro e w6 ⟨vC,F3,g3,rfl,hN3,hI3,yX,hC3,xx,hl3,hx6⟩;obtain⟨aN3,cN3,rfl⟩:=hN3.slice;have hV6:=Qq.out.ext (ay hx5 hx6);have co6:=cell_of_row w6 po 0 _ _ _ hV6.out;have fo6:=frozen_of_row w6 po 0 _ _ hV6.out)
     |(go_at_call 79;refine hsum.mono ?_;rintro e w5 ⟨vH,H,rfl,hNH,hIH,hSH,hlH,hx5⟩))
    have hz5:=hx5.size;have hgt:=Qq.out.gt;have als:=bG Qq.out.out;have hilt:∀b,kR px Xx Xy b->b<W4.heap.size:=λb=>Qq.out.tb.uK
    have hs6:=hN3.sup (S:=λb=>w5.heap.size<=b/\b<w6.heap.size) (λb hb=>hb.2) (λb h1 h2=>⟨h1,h2⟩);have aaf:=aH (hV6.set hs6 (λb hb=>⟨λk=>by have:=hilt b k;omega,by omega,by omega,.inr (by omega)⟩));have HP:Hid (jF kd (eQ kd (bH tb)) (i+1) F3):=aH (by
     have hb:=HK.out.1;obtain⟨DK,NM⟩:=HTV.out;rw[hb]at DK NM;exact jF.next Xl.out Eg.out DK NM hSH hlH hI3 yX hC3 xx hl3)
    clear hV6 hs6 co6 fo6 hN3 hI3 yX hC3 xx hl3 hNH hIH hSH hlH;go_wp2
    go_roundw
    case rel=>exact⟨i+1,Xx,Xy,S3,L3,aN3,cN3,F3,by go_num,dK.out,aaf.out,aH ⟨HP.out,Xo.out⟩⟩
    case measure=>have:=dK.out;simp[intOf];omega
  .have hil:¬(((i:Nat):Int)<((ps.length:Nat):Int)):=by omega
   have hie:i=ps.length:=(by omega);obtain⟨SF,hsF,Ql⟩:=hV.sup;have co:=cell_of_row wr po 0 _ _ _ hV.out;have cr:=cell_of_row wr (w.heap.size) 0 _ _ _ hV.res;have fr0:=frozen_of_row wr (w.heap.size) 0 _ _ hV.res;simp only[gE]at co cr;have HH:=aH (heap_setCell_same wr (w.heap.size) 0 _ _ (.slice aN F.length cN) hV.res);have hk9:=gI (w:=wr) (p:=⟨w.heap.size,0,none⟩) (v:=.slice aN F.length cN);have HF:Hid (fu F (gS kd (bH tb))/\F.length<=3 ^ live kd (bH tb)/\∀x,x∈L2->x∈L\/mS kd (bH x.1)<=mS kd (bH tb)):=aH (by
    have h1:=HS.out.1;rw[hie,HPN.out]at h1;obtain⟨a1,a2⟩:=jF.last h1;exact⟨a1,a2,HS.out.2⟩)
   have hSw:∀b,SF b->b<wr.heap.size:=λb hb=>hsF.1 b hb
   have htb:SB kd (wr.setCell ⟨w.heap.size,0,none⟩ (.slice aN F.length cN)) px QH QI (λb=>S2 b\/SF b) L2:=
    (hV.tb.more (λb hb=>⟨hSw b hb,(Ql b hb).1⟩)).keep hk9 (λb hb e=>hV.KQ.1 (by rw[<-show b=w.heap.size from e];exact hb)) (λb hb e=>hb.elim (λk=>hV.KQ.2 (by rw[<-show b=w.heap.size from e];exact k)) (λk=>(Ql b k).2.2.1 e))
   have htg:TG w (wr.setCell ⟨w.heap.size,0,none⟩ (.slice aN F.length cN)) px vt vf S QH QI (λb=>S2 b\/SF b):=by
    have h:=hV.tg.set (p:=⟨w.heap.size,0,none⟩) (ai _) (.slice aN F.length cN);exact⟨h.keep,h.ins,λb hb=>.inl (h.s1 b hb),λb hb=>hb.elim (h.s2 b) (λk=>(Ql b k).2.2.2)⟩
   have Gc:oP (λb=>S2 b\/SF b) (λW=>eX W 0 (.slice aN F.length cN) F) (wr.setCell ⟨w.heap.size,0,none⟩ (.slice aN F.length cN)):=
    (hsF.keep hk9 (λb hb e=>(Ql b hb).2.2.1 e)).mono (λb hb=>.inr hb) (λb hb=>by rw[World.size_setCell];exact hb.elim (λk=>hV.tb.Q5 k) (hSw b)) (λ_ h=>h)
   have aau:=aH (And.intro htb (And.intro htg Gc));clear htb htg Gc hSw Ql hsF hV hie HS hk9;go_wp2
   (try simp only[Exit.inBlock,Exit.then]);refine bodyPost_ret (results_cell_row rfl _ _ (w.heap.size) 28 #[.slice aN F.length cN] (0,0) _ rfl HH.out underlying28 rfl (by kernel_rfl)) rfl ?_;exact⟨_,F,_,_,_,L2,rfl,aau.out.2.2,HF.out.1,HF.out.2.1,aau.out.1,aau.out.2.1,HF.out.2.2⟩
theorem Oy(kd:Nat)(hkd:kd<=3):∀m,aaa kd m/\aac kd m:=by
 intro m
 induction m using Nat.strongRecOn with
 |_ m ih=>
  have hp:=KC kd hkd m λk hk=>(ih k hk).1
  exact⟨Ii kd hkd m hp,hp⟩
end
section
open Go.RowKit
open bz (dC Nd vl Same Gm Canon iK Stp gS mU live mS)
def Ef(kind:Int)(s:ByteArray)(Fr:dC)(ok:Bool):Prop:=(iP kind (bH s)=true/\s.size<=7/\∃F,fu F (gS kind.toNat (bH s))/\ok=gQ F/\Fr=if ok then F else [])\/((iP kind (bH s)=false\/¬s.size<=7)/\ok=false/\Fr=[])
theorem Ef.unique{kind:Int}{s:ByteArray}{F G:dC}{x y:Bool}(h:Ef kind s F x)(k:Ef kind s G y):F=G/\x=y:=by
 rcases h with⟨h1,h1',F1,h2,h3,h4⟩|⟨h1,h2,h3⟩ <;> rcases k with⟨k1,k1',F2,k2,k3,k4⟩|⟨k1,k2,k3⟩
 .have:=h2.unique k2
  subst this;subst h3;subst k3;exact⟨by rw[h4,k4],rfl⟩
 .rcases k1 with k1|k1
  .rw[h1]at k1;cases k1
  .exact absurd h1' k1
 .rcases h1 with h1|h1
  .rw[k1]at h1;cases h1
  .exact absurd k1' h1
 .exact⟨by rw[h3,k3],by rw[h2,k2]⟩
theorem SB.empty{kd:Nat}{w:World}{px:Nat}(h:w.heap[px]?=some (.cells #[.int .i64 ((kd:Nat):Int),.slice none 0 0,.slice none 0 0] 84 (0,0))):SB kd w px (.slice none 0 0) (.slice none 0 0) (λ_=>False) []:=
 ⟨h,⟨by simp,.inl ⟨rfl,rfl⟩⟩,⟨[],⟨by simp,.inl ⟨rfl,rfl⟩⟩,Items.nil (λb h=>h.elim)⟩,λb h=>h.elim,by simp[Value.ownBlock],by simp[Value.ownBlock],by simp[Value.ownBlock],λx h=>absurd h (by simp),by simp⟩
def P6(kind:Int)(s:ByteArray)(w:World)(e:Ending)(w':World):Prop:=
 ∃vN Fr ok,e=.returned (.tuple #[.agg #[vN],.bool ok])/\eX w' 0 vN Fr/\Ef kind s Fr ok/\Ext w w'
set_option maxHeartbeats 2000000 in
theorem DW(kind:Int)(s:ByteArray)(w:World):Calls prog 19 #[.int .i64 kind,.string s] w (P6 kind s w):=by
 have hb2:=heap_alloc_new w (.cells #[.slice none 0 0] 28);have hx2:Ext w (w.alloc (.cells #[.slice none 0 0] 28)):=by go_grown
 cases hg:iP kind (bH s)with
 |false=>
  have ML:Hid (iP kind (bH s)=false\/¬s.size<=7):=aH (.inl hg);go_enter Tryz.func19,Tryz.ntmps19
  go_upto_region 1 with fail
  generalize w.alloc (.cells #[.slice none 0 0] 28)=W at *;go_upto_region 2 with(go_at_call 23;refine(lZ _ _ _).mono ?_;rintro e w1 ⟨he,hr⟩;rw[hg]at he;subst he;have hx1:=bS hr;clear hr)
  have hr1:w1.heap[w.heap.size]?=some (.cells #[.slice none 0 0] 28 (0,0)):=(hx1.block _ (bG hb2)).trans hb2;have d0:=cell_of_row w1 w.heap.size 0 _ _ _ hr1;have f0:=frozen_of_row w1 w.heap.size 0 _ _ hr1;have HE:=aH (ay hx2 hx1);go_wp2
  have HH:=aH (heap_setCell_same w1 w.heap.size 0 _ _ (.slice none 0 0) hr1);(try simp only[Exit.inBlock,Exit.then]);refine bodyPost_ret (dY rfl _ _ w.heap.size 28 #[.slice none 0 0] (0,0) _ rfl HH.out underlying28 rfl (by kernel_rfl) rfl) rfl ?_;exact⟨_,[],false,rfl,⟨none,0,rfl,ai _,az _,λh=>absurd h (by simp)⟩,.inr ⟨ML.out,rfl,rfl⟩,HE.out.setCell (p:=⟨w.heap.size,0,none⟩) (ai _) _⟩
 |true=>
  by_cases h7:s.size<=7
  .have hq7:¬((7:Int)<((s.size:Nat):Int)):=by omega
   obtain⟨kd,rfl,hkd,-,Df⟩:=ic.1 hg;have H7:=aH h7;have GX:=aH Df;have HKD:=aH hkd;have HG:=aH hg;clear Df;go_enter Tryz.func19,Tryz.ntmps19
   go_upto_region 1 with fail
   generalize w.alloc (.cells #[.slice none 0 0] 28)=W at *;go_upto_region 3 with(go_at_call 23;refine(lZ _ _ _).mono ?_;rintro e w1 ⟨he,hr⟩;rw[hg]at he;subst he;have hx1:=bS hr;clear hr)
   have hr1:w1.heap[w.heap.size]?=some (.cells #[.slice none 0 0] 28 (0,0)):=(hx1.block _ (bG hb2)).trans hb2;have hE1:=ay hx2 hx1;clear hq7 hx1 hb2 hx2 hg h7;go_upto_region 4 with fail
   have hxb:Ext w1 (w1.alloc (.cells #[.int .i64 ((kd:Nat):Int),.slice none 0 0,.slice none 0 0] 84)):=(by go_grown);have hpb:=heap_alloc_new w1 (.cells #[.int .i64 ((kd:Nat):Int),.slice none 0 0,.slice none 0 0] 84);have hrb:=(hxb.block _ (bG hr1)).trans hr1;have hE2:=ay hE1 hxb;have hzp:w.heap.size<w1.heap.size:=bG hr1;clear hr1 hxb hE1;generalize w1.alloc (.cells #[.int .i64 ((kd:Nat):Int),.slice none 0 0,.slice none 0 0] 84)=W2 at *;generalize w1.heap.size=px at *;have hTB:=SB.empty hpb;have hpx:=bG hpb;have hIS:∀b,kR px (.slice none 0 0) (.slice none 0 0) b->b=px:=λb hb=>by
    rcases hb with h|h|h
    .exact h
    .simp[Value.ownBlock]at h
    .simp[Value.ownBlock]at h
   have hval:=(Oy kd HKD.out (mS kd (bH s))).1 s px (.slice none 0 0) (.slice none 0 0) (λ_=>False) [] W2 (ai _) GX.out H7.out hTB;clear hTB hpb;go_upto_region 5 with(go_at_call 56;refine hval.mono ?_;rintro e w3 ⟨vN,F,Bt,Bu,S',L',rfl,Gc,DK,NM,hB3,hG3,hL3⟩;obtain⟨aN,cN,rfl⟩:=Gc.out.slice)
   have hz3:=hG3.keep.size;have hrI:¬kR px (.slice none 0 0) (.slice none 0 0) w.heap.size:=λk=>by have:=hIS _ k;omega
   have hr3:w3.heap[w.heap.size]?=some (.cells #[.slice none 0 0] 28 (0,0)):=(hG3.block (bG hrb) hrI).trans hrb;have xx:Ext w w3:=⟨hG3.keep.os.trans hE2.os,hG3.keep.tape.trans hE2.tape,hG3.keep.output.trans hE2.output,bU hE2.size hG3.keep.size,λk hk=>(hG3.block (aQ hk hE2.size) (λh=>by have:=hIS _ h;omega)).trans (hE2.block k hk)⟩;have hx4:Ext w3 (w3.alloc (.cells #[.slice aN (List.length F) cN] 28)):=(by go_grown);have hf4:=heap_alloc_new w3 (.cells #[.slice aN (List.length F) cN] 28);have hN4:=Gc.out.ext hx4;have aff:=Gc.ext hx4;have hS4:∀b,S' b->b≠w.heap.size:=λb hb e=>by
    rcases hG3.s2 b hb with k|k
    .exact k
    .have:=bG hrb;omega
   have hr4:(w3.alloc (.cells #[.slice aN (List.length F) cN] 28)).heap[w.heap.size]?=some (.cells #[.slice none 0 0] 28 (0,0)):=(hx4.block _ (bG hr3)).trans hr3;have Ki:=ay xx hx4;generalize w3.alloc (.cells #[.slice aN (List.length F) cN] 28)=W4 at *;generalize w3.heap.size=pf at *;have cf:=cell_of_row W4 pf 0 _ _ _ hf4;have HT:=aH DK;have hIF:=DK.1;clear DK hx4 xx hE2 hG3 hB3 Gc hr3 hrI hrb hIS hval hL3;cases hfit:gQ F with
   |false=>
    go_wp2_with (go_at_call 39;refine(zu _ F _ hN4 hIF).mono ?_;rintro e w5 ⟨he,hx5⟩;rw[hfit]at he;subst he;have Jt:w5.heap[w.heap.size]?=some (.cells #[.slice none 0 0] 28 (0,0)):=(hx5.block _ (bG hr4)).trans hr4;have d0:=cell_of_row w5 w.heap.size 0 _ _ _ Jt;have f0:=frozen_of_row w5 w.heap.size 0 _ _ Jt)
    have HH:=aH (heap_setCell_same w5 w.heap.size 0 _ _ (.slice none 0 0) Jt);(try simp only[Exit.inBlock,Exit.then]);refine bodyPost_ret (dY rfl _ _ w.heap.size 28 #[.slice none 0 0] (0,0) _ rfl HH.out underlying28 rfl (by kernel_rfl) rfl) rfl ?_;exact⟨_,[],false,rfl,⟨none,0,rfl,ai _,az _,λh=>absurd h (by simp)⟩,.inl ⟨HG.out,H7.out,F,HT.out,hfit.symm,rfl⟩,(ay Ki hx5).setCell (p:=⟨w.heap.size,0,none⟩) (ai _) _⟩
   |true=>
    go_wp2_with (go_at_call 39;refine(zu _ F _ hN4 hIF).mono ?_;rintro e w5 ⟨he,hx5⟩;rw[hfit]at he;subst he;have Jt:w5.heap[w.heap.size]?=some (.cells #[.slice none 0 0] 28 (0,0)):=(hx5.block _ (bG hr4)).trans hr4;have d0:=cell_of_row w5 w.heap.size 0 _ _ _ Jt;have f0:=frozen_of_row w5 w.heap.size 0 _ _ Jt;have cf5:w5.cell? ⟨pf,0,none⟩=some (.slice aN (List.length F) cN):=(hx5.cell (lt_of_cell cf)).trans cf)
    have HH:=aH (heap_setCell_same w5 w.heap.size 0 _ _ (.slice aN (List.length F) cN) Jt);(try simp only[Exit.inBlock,Exit.then]);refine bodyPost_ret (dY rfl _ _ w.heap.size 28 #[.slice aN (List.length F) cN] (0,0) _ rfl HH.out underlying28 rfl (by kernel_rfl) rfl) rfl ?_;exact⟨_,F,true,rfl,((aff.ext hx5).keep (gI (p:=⟨w.heap.size,0,none⟩) (v:=.slice aN (List.length F) cN)) hS4).out,.inl ⟨HG.out,H7.out,F,HT.out,hfit.symm,rfl⟩,(ay Ki hx5).setCell (p:=⟨w.heap.size,0,none⟩) (ai _) _⟩
  .have ML:Hid (iP kind (bH s)=false\/¬s.size<=7):=aH (.inr h7)
   have hq7:((7:Int)<((s.size:Nat):Int)):=(by omega);clear h7;go_enter Tryz.func19,Tryz.ntmps19
   go_upto_region 1 with fail
   generalize w.alloc (.cells #[.slice none 0 0] 28)=W at *;go_upto_region 2 with(go_at_call 23;refine(lZ _ _ _).mono ?_;rintro e w1 ⟨he,hr⟩;rw[hg]at he;subst he;have hx1:=bS hr;clear hr)
   have hr1:w1.heap[w.heap.size]?=some (.cells #[.slice none 0 0] 28 (0,0)):=(hx1.block _ (bG hb2)).trans hb2;have d0:=cell_of_row w1 w.heap.size 0 _ _ _ hr1;have f0:=frozen_of_row w1 w.heap.size 0 _ _ hr1;have HE:=aH (ay hx2 hx1);go_wp2
   have HH:=aH (heap_setCell_same w1 w.heap.size 0 _ _ (.slice none 0 0) hr1);(try simp only[Exit.inBlock,Exit.then]);refine bodyPost_ret (dY rfl _ _ w.heap.size 28 #[.slice none 0 0] (0,0) _ rfl HH.out underlying28 rfl (by kernel_rfl) rfl) rfl ?_;exact⟨_,[],false,rfl,⟨none,0,rfl,ai _,az _,λh=>absurd h (by simp)⟩,.inr ⟨ML.out,rfl,rfl⟩,HE.out.setCell (p:=⟨w.heap.size,0,none⟩) (ai _) _⟩
end
section
open bz
variable {kd:Nat} {ys:List Stp} {s:ByteArray} {F:dC} {ok:Bool} {kind:Int}
theorem IV(k:Nat)(s:Stp):(eQ k s).length<=s.length+1:=by
 have hlen:(eQ k s).length<=(jW k s).length:=jQ _ _;have hsum:mg k (eQ k s)<=mg k (jW k s):=qE k _ _;have hf:∀u,u∈eQ k s->u∈jW k s:=λu hu=>(eU.1 hu).1
 unfold jW at hf hlen hsum;by_cases h0:k=0
 .rw[if_pos h0]at hlen;simp at hlen;omega
 .rw[if_neg h0]at hf hlen hsum
  by_cases h1:k=1
  .rw[if_pos h1]at hlen
   have:=rT s;omega
  .rw[if_neg h1]at hf hlen hsum
   have hk:2<=k:=(by omega);obtain⟨i1,i2⟩:=ru hk _ s none (ai _) (λ_ h=>by cases h);have hl:=F8 k s;cases hp:eQ k s with
   |nil=>simp
   |cons t l=>
    have h:=vE (f:=live k) (a:=1) (l:=eQ k s) (t:=t) (λu hu=>by
     obtain⟨⟨n,hn⟩,_,_⟩:=i2 u (hf u hu);rw[hn.live hk];omega) (by rw[hp];simp)
    have h1:1<=live k t:=by
     obtain⟨⟨n,hn⟩,_,_⟩:=i2 t (hf t (by rw[hp];simp));rw[hn.live hk];omega
    unfold mg at hsum i1;rw[hp]at h hsum;simp only[dO]at h ⊢;simp only[eZ,jS]at h hsum;omega
theorem Oq{Fs:List dC}(hl:Fs.length=ys.length)(hF:∀i (hi:i<Fs.length) (hi':i<ys.length),fu Fs[i] (gS kd ys[i])):iK (uy Fs) (sM kd nM ys):=by
 have key:∀i,i<=ys.length->iK (uy (Fs.take i)) (sM kd nM (ys.take i)):=λi=>by
  induction i with
  |zero=>intro _;exact iK.refl _
  |succ i ih=>
   intro hi;have hi1:i<ys.length:=(by omega);have hi2:i<Fs.length:=(by omega);rw[Ay hi2,zA hi1];exact qc (ih (by omega)) (hF i hi2 hi1).eqv
 have:=key _ (ai _);rw[dz,<-hl,dz]at this;exact this
theorem QW{s:Stp}(hk:kd<=3)(hL:mU kd s)(h7:s.length<=7)(hF:fu F (gS kd s))(hf:gQ F=true)(hys:ys=eQ kd s):
 (∀i (hi:i<ys.length),iP ((kd:Nat):Int) ys[i]=true/\(ys[i]).length<=7/\∀X,fu X (gS kd ys[i])->gQ X=true)/\
 ∀Fs:List dC,Fs.length=ys.length->(∀i (hi:i<Fs.length) (hi':i<ys.length),fu Fs[i] (gS kd ys[i]))->iK (uy Fs) (gS kd s):=by
 subst hys;refine⟨λi hi=>?_,λFs hl h=>(Oq hl h).trans (xK kd s)⟩;have hm:=ah hi;obtain⟨_,h1,h2⟩:=oz.2 _ hm;refine⟨ic.2 ⟨kd,rfl,hk,by omega,h2 hL⟩,by omega,λX hX=>?_⟩;by_cases h2:2<=(eQ kd s).length
 .exact OP hk hL h7 h2 hm hX
 .have h1:(eQ kd s).length=1:=by omega
  obtain⟨t,ht⟩:=List.length_eq_one_iff.1 h1;have e:(eQ kd s)[i]=t:=by
   have:(eQ kd s)[i]∈[t]:=by rw[<-ht];exact hm
   simpa using this
  rw[e]at hX;obtain rfl:=(hX.to (OJ ht)).unique hF;exact hf
theorem Rk(r:Ef ((kd:Nat):Int) s F ok)(hg:iP ((kd:Nat):Int) (bH s)=true)(h7:s.size<=7)(hf:∀X,fu X (gS kd (bH s))->gQ X=true):ok=true/\fu F (gS kd (bH s))/\gQ F=true:=by
 rcases r with⟨_,_,G,hG,hk,hF⟩|⟨hn,_,_⟩
 .rw[kV]at hG
  have:=hf G hG;rw[this]at hk;subst hk;simp only[if_true]at hF;subst hF;exact⟨rfl,hG,this⟩
 .rcases hn with e|e
  .rw[hg]at e;cases e
  .exact absurd h7 e
theorem VB(r:Ef kind s F true):∃kd:Nat,kind=((kd:Nat):Int)/\kd<=3/\mU kd (bH s)/\iP kind (bH s)=true/\(bH s).length<=7/\fu F (gS kd (bH s))/\gQ F=true:=by
 rcases r with⟨h1,h2,G,hG,hk,hF⟩|⟨_,h,_⟩
 .obtain⟨kd,rfl,h3,-,h4⟩:=ic.1 h1
  simp only[if_true]at hF;subst hF;exact⟨kd,rfl,h3,h4,h1,by rw[GA];exact h2,hG,hk.symm⟩
 .cases h
theorem Ck(r:Ef kind s F ok):ok=true/\gQ F=true\/ok=false/\F=[]:=by
 rcases r with⟨_,_,F',h1,h2,h3⟩|⟨_,h2,h3⟩
 .cases ok with
  |false=>simp at h3;exact .inr ⟨rfl,h3⟩
  |true=>simp at h3;subst h3;exact .inl ⟨rfl,h2.symm⟩
 .exact .inr ⟨h2,h3⟩
theorem OO{s:Stp}{ss:List ByteArray}(h:ss.map bH=if iP kind s then eQ kind.toNat s else []):ss.length<=13:=by
 have e:ss.length=(ss.map bH).length:=by rw[aJ]
 rw[e,h];cases hg:iP kind s with
 |false=>simp
 |true=>
  obtain⟨k,rfl,_,h2,_⟩:=ic.1 hg;simp only[if_true];have:=IV ((k:Nat):Int).toNat s;omega
end
end Go.Proofs.YteknjeohbcgpdaaGreatDoor