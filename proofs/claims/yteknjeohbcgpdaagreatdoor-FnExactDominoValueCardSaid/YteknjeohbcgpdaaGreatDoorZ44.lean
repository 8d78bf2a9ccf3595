/-
  Contract of the reference's book of boards: value, given part at no more cells.
-/
import Derived.Test.YteknjeohbcgpdaaGreatDoorZ13
import Derived.Test.YteknjeohbcgpdaaGreatDoorZ42
import Derived.Test.YteknjeohbcgpdaaGreatDoorZ43
set_option maxRecDepth 100000
namespace Go.Proofs.YteknjeohbcgpdaaGreatDoor
open Go.RowKit
open Cgt (Dag Nd vl Same Gm Canon Eqv Ge Brd GB Cs bD fr gB cnt bS kB bV plus bE)
theorem TB.more {w:World} {px:Nat} {vt vf:Value} {S T:Nat→Prop} {L:List (ByteArray × Dag)} (h:TB w px vt vf S L) (hT:∀ b,T b→b<w.heap.size∧¬ InS px vt vf b):TB w px vt vf (fun b=>S b∨T b) L:=by
 obtain⟨xs,ho,hx⟩:=h.forms
 exact⟨h.cells,h.texts,⟨xs,ho,hx.mono (fun b hb=>.inl hb) (fun b hb=>hb.elim (fun k=>h.sLt k) (fun k=>(hT b k).1))⟩,fun b hb=>hb.elim (h.sep b) (fun k=>(hT b k).2),h.fM,h.gX,h.gV,h.law⟩
structure VS (w wr:World) (px po:Nat) (vt0 vf0:Value) (S0:Nat→Prop) (SP:Nat→Prop) (vP:Value) (PL:List (Cs × Brd)) (vt vf:Value) (S:Nat→Prop) (L:List (ByteArray × Dag)) (aN:Option Addr) (cN:Nat) (F:Dag):Prop where
 tb:TB wr px vt vf S L
 tg:TG w wr px vt0 vf0 S0 vt vf S
 res:wr.heap[w.heap.size+1]?=some (.cells #[.slice none 0 0] 28 (0,0))
 out:wr.heap[po]?=some (.cells #[.slice aN F.length cN] 28 (0,0))
 rows:Rows ow 1 SP wr vP (PL.map (·.2))
 sup:∃ SF:Nat→Prop,Sup SF (fun W=>bP W 0 (.slice aN F.length cN) F) wr∧∀ b,SF b→¬ InS px vt vf b∧b≠po∧b≠w.heap.size+1∧(S0 b∨w.heap.size≤b)
 pSP:∀ b,SP b→b<wr.heap.size∧¬ InS px vt vf b∧b≠po
 xe:¬ InS px vt vf (w.heap.size+1)∧¬ S (w.heap.size+1)
 xg:¬ InS px vt vf po∧¬ S po
 gt:w.heap.size+1<po
section
variable {w wr w1:World} {px po:Nat} {vt0 vf0:Value} {S0 SP:Nat→Prop} {vP:Value} {PL:List (Cs × Brd)} {vt vf:Value} {S:Nat→Prop} {L:List (ByteArray × Dag)} {aN:Option Addr} {cN:Nat} {F:Dag}
theorem VS.go (h:VS w wr px po vt0 vf0 S0 SP vP PL vt vf S L aN cN F) {vt' vf':Value} {S':Nat→Prop} {L':List (ByteArray × Dag)} (hb:TB w1 px vt' vf' S' L') (hg:TG wr w1 px vt vf S vt' vf' S') :
 VS w w1 px po vt0 vf0 S0 SP vP PL vt' vf' S' L' aN cN F:=by
 have z:=hg.keep.size
 obtain⟨SF,s1,s2⟩:=h.sup
 have hn:∀ b,b<wr.heap.size→¬ InS px vt vf b→¬ InS px vt' vf' b:=fun b h1 h2 k=>by rcases hg.ins b k with k | k;exact h2 k;omega
 refine⟨hb,h.tg.trans hg,?_,?_,h.rows.keep hg.keep (fun b hb=>(h.pSP b hb).2.1),⟨SF,hg.sup s1 (fun b hb=>(s2 b hb).1),fun b hb=>⟨hn b (s1.1 b hb) (s2 b hb).1,(s2 b hb).2⟩⟩,fun b hb=>⟨by have:=(h.pSP b hb).1;omega,hn b (h.pSP b hb).1 (h.pSP b hb).2.1,(h.pSP b hb).2.2⟩,hg.BQ (ah h.res) h.xe.1 h.xe.2,hg.BQ (ah h.out) h.xg.1 h.xg.2,h.gt⟩
 · rw[hg.block (ah h.res) h.xe.1];exact h.res
 · rw[hg.block (ah h.out) h.xg.1];exact h.out
theorem VS.ext (h:VS w wr px po vt0 vf0 S0 SP vP PL vt vf S L aN cN F) (hx:Ext wr w1):VS w w1 px po vt0 vf0 S0 SP vP PL vt vf S L aN cN F :=
 h.go (h.tb.ext hx) (TG.ext hx)
theorem VS.set (h:VS w wr px po vt0 vf0 S0 SP vP PL vt vf S L aN cN F) {a2:Option Addr} {c2:Nat} {F2:Dag} {SF:Nat→Prop} (hs:Sup SF (fun W=>bP W 0 (.slice a2 F2.length c2) F2) wr) (hn:∀ b,SF b→¬ InS px vt vf b∧b≠po∧b≠w.heap.size+1∧(S0 b∨w.heap.size≤b)) :
 VS w (wr.setCell ⟨po,0,none⟩ (.slice a2 F2.length c2)) px po vt0 vf0 S0 SP vP PL vt vf S L a2 c2 F2:=by
 have hk:=bJ (w:=wr) (p:=⟨po,0,none⟩) (v:=.slice a2 F2.length c2)
 have hg:=h.gt
 refine⟨h.tb.keep hk (fun b hb e=>h.xg.1 (by rw[← show b=po from e];exact hb)) (fun b hb e=>h.xg.2 (by rw[← show b=po from e];exact hb)),h.tg.set (p:=⟨po,0,none⟩) (by show w.heap.size≤po;omega) _,?_,heap_setCell_same _ _ _ _ _ _ h.out,h.rows.keep hk (fun b hb e=>(h.pSP b hb).2.2 e),⟨SF,hs.keep hk (fun b hb e=>(hn b hb).2.1 e),hn⟩,fun b hb=>⟨by rw[World.size_setCell];exact(h.pSP b hb).1,(h.pSP b hb).2⟩,h.xe,h.xg,h.gt⟩
 rw[heap_setCell_other _ _ _ _ (by show w.heap.size+1≠po;omega)];exact h.res
end
theorem Oq {a b:Nat} (h:a≤b) (hb:b≤9):kC a≤kC b:=by
 unfold kC
 by_cases ha:a=0
 · rw[if_pos ha];exact Nat.zero_le _
 · rw[if_neg ha,if_neg (by omega)];exact Cgt.Ou h hb
set_option maxHeartbeats 4000000 in
theorem Ff (m:Nat) (ih:POk m):VOk m:=by
 intro ss hh ww vu px vt vf S L w hm hn9 g hv hB hroom
 obtain⟨au,kg,rfl,hlc,hcap⟩:=hv.out.open
 have hk9:=Cgt.kB_9 hn9
 obtain⟨nB,hnB⟩:∃ nB,nB=bS (bd ss):=⟨_,rfl⟩
 have HNB:=Hd_ hnB
 rw[← hnB] at hm hroom hk9 hn9
 go_enter Tryz.func38,Tryz.ntmps38
 go_upto_region 1 with fail
 have hxe:Ext w ((w.alloc (.cells #[.slice au ss.length kg] 31)).alloc (.cells #[.slice none 0 0] 28)):=by go_grown
 have hbx:((w.alloc (.cells #[.slice au ss.length kg] 31)).alloc (.cells #[.slice none 0 0] 28)).heap[w.heap.size]?=some (.cells #[.slice au ss.length kg] 31 (0,0)):=by
  rw[Below.heap_alloc _ _ _ (by simp)];exact heap_alloc_new _ _
 have hrs:((w.alloc (.cells #[.slice au ss.length kg] 31)).alloc (.cells #[.slice none 0 0] 28)).heap[w.heap.size+1]?=some (.cells #[.slice none 0 0] 28 (0,0)):=by
  have h:=heap_alloc_new (w.alloc (.cells #[.slice au ss.length kg] 31)) (.cells #[.slice none 0 0] 28);rw[sA_] at h;exact h
 have HZE:Hid (w.heap.size+2≤((w.alloc (.cells #[.slice au ss.length kg] 31)).alloc (.cells #[.slice none 0 0] 28)).heap.size):=Hd_ (by simp only[sA_];omega)
 generalize (w.alloc (.cells #[.slice au ss.length kg] 31)).alloc (.cells #[.slice none 0 0] 28)=We at *
 go_upto_region 2 with (go_at_call 76;refine(F7 _).mono ?_;rintro e W0 ⟨vZ,rfl,hNZ,hx0⟩;obtain⟨aZ,cZ,rfl⟩:=hNZ.slice)
 have hxa:Ext W0 (W0.alloc (.cells #[.slice aZ 1 cZ] 28)):=by go_grown
 have hpo:=heap_alloc_new W0 (.cells #[.slice aZ 1 cZ] 28)
 have Gh:=aa hx0 hxa
 have hsZ:=(hNZ.sup (S:=fun b=>We.heap.size≤b∧b<W0.heap.size) (fun b hb=>hb.2) (fun b h1 h2=>⟨h1,h2⟩)).ext hxa
 have hbx:=(Gh.block _ (ah hbx)).trans hbx
 have hrs:=(Gh.block _ (ah hrs)).trans hrs
 have hzE:w.heap.size+2≤We.heap.size:=HZE.out
 have hz0:=hx0.size
 have hxw:=aa hxe Gh
 clear hx0 Gh hxa hNZ hxe
 generalize W0.alloc (.cells #[.slice aZ 1 cZ] 28)=Wa at *
 generalize W0.heap.size=po at *
 have cbx:=cell_of_row Wa w.heap.size 0 _ _ _ hbx
 have hvp:=(hv.ext hxw).out
 go_upto_region 3 with (go_at_call 74;refine(Ck _ ss hh ww _ hvp g).mono ?_;rintro e w1 ⟨vP,PL,rfl,hRT,hPT,Vo,hx1⟩;obtain⟨xsP,aP,cP,rfl,-,-,-⟩:=id hRT)
 rw[List.length_map] at hRT
 have hpz:=ah hpo
 have Cw:∀ b,InS px vt vf b→b<w.heap.size:=fun b=>hB.ma
 have Ll:∀ b,S b→b<w.heap.size:=fun b=>hB.sLt
 have hV0:VS w w1 px po vt vf S (fun b=>Wa.heap.size≤b∧b<w1.heap.size) (.slice aP PL.length cP) PL vt vf S L aZ cZ [([],[])]:=by
  have hz1:=hx1.size
  refine⟨hB.ext (aa hxw hx1),TG.ext (aa hxw hx1),(hx1.block _ (ah hrs)).trans hrs,(hx1.block _ hpz).trans hpo,hRT,⟨_,hsZ.ext hx1,fun b hb=>⟨fun k=>by have:=Cw b k;omega,by omega,by omega,.inr (by omega)⟩⟩,fun b hb=>⟨hb.2,fun k=>by have:=Cw b k;omega,by omega⟩,⟨fun k=>by have:=Cw _ k;omega,fun k=>by have:=Ll _ k;omega⟩,⟨fun k=>by have:=Cw _ k;omega,fun k=>by have:=Ll _ k;omega⟩,by omega⟩
 have HPT:=Hd_ hPT
 have HG:=Hd_ g
 have HCF:Hid (cnt (fr (bd ss))=nB):=Hd_ (by rw[Cgt.yO g,← HNB.out])
 have SK:=Hd_ hn9
 clear hRT hPT hx1 hrs hbx hpo hsZ hxw hvp cbx Cw Ll g hv hB hpz hz0 hzE HZE
 generalize hSP:(fun b=>Wa.heap.size≤b∧b<w1.heap.size)=SP at hV0
 clear hSP
 go_wp2
 go_loopw [7,8] (fun ii _ wr=>∃ (i:Nat) (vt2 vf2:Value) (S2:Nat→Prop) (L2:List (ByteArray × Dag)) (aN:Option Addr) (cN:Nat) (F:Dag),ii=.int .i64 ((i:Nat):Int)∧i≤PL.length∧VS w wr px po vt vf S SP (.slice aP PL.length cP) PL vt2 vf2 S2 L2 aN cN F∧Hid (fA PL i F∧L2.length≤L.length+kC (cnt (jg PL i)))) (fun ii _ _=>PL.length-(intOf ii).toNat)
 case atStart=>exact⟨0,vt,vf,S,L,aZ,cZ,_,rfl,Nat.zero_le _,hV0,Hd_ ⟨fA.zero PL,Nat.le_add_right _ _⟩⟩
 case round =>
  clear hV0
  obtain⟨i,vt2,vf2,S2,L2,aN,cN,F,rfl,hi,hV,HS⟩:=hrel
  by_cases hlt:i<PL.length
  · have hil:((i:Nat):Int)<((PL.length:Nat):Int):=by omega
    have HLT:=Hd_ hlt
    have PX:i<(PL.map (·.2)).length:=by rw[List.length_map];exact hlt
    obtain⟨bC,QR,aU,cU,sk,he,hTb,cl,hbd,hIU⟩:=hV.rows.brd PX
    simp only[Value.slice.injEq] at he
    obtain⟨rfl,-,rfl⟩:=he
    have zG:bd sk=(PL[i]'HLT.out).2:=by rw[hbd];simp
    obtain⟨-,-,⟨h',w',g'⟩,-⟩:=HPT.out.ok _ (List.getElem_mem HLT.out)
    rw[← zG] at g'
    have hcs:=HPT.out.Dh HLT.out
    rw[← zG] at hcs
    have hle:=HPT.out.EZ (i+1)
    rw[HCF.out] at hle
    have hka:=Pp (a:=cnt (jg PL i)) (b:=bS (bd sk)) (by omega) hcs.2
    rw[← hcs.1] at hka
    have hkm:=Oq hle hn9
    have hkB:=Nu nB
    have hLL:=HS.out.2
    have NB:=ih sk h' w' (.slice aU sk.length cU) px vt2 vf2 S2 L2 wr (by omega) (by omega) g' (hIU.mono (fun b hb=>⟨(hV.pSP b hb).1,(hV.pSP b hb).2.1⟩) (fun b hb=>hb.1) (fun _ h=>h)) hV.tb (by omega)
    have HK:=Hd_ (And.intro zG (And.intro hka (And.intro hcs hle)))
    have HV:=Hd_ hV
    clear hV hIU hbd zG hka hcs hle hkm hkB hLL g' hlt PX hTb
    go_upto_region 7 with (go_at_call 77;refine NB.mono ?_;rintro e w3 ⟨vN2,F2,vt3,vf3,S3,L3,rfl,hsN,hTV,hFk,hB3,hG3,hL3⟩;obtain⟨aN2,cN2,rfl⟩:=hsN.out.slice)
    have hV3:=HV.out.go hB3 hG3
    have hx4:Ext w3 (w3.alloc (.cells #[.slice aN2 (List.length F2) cN2] 28)):=by go_grown
    have hf4:=heap_alloc_new w3 (.cells #[.slice aN2 (List.length F2) cN2] 28)
    have hs4:=hsN.ext hx4
    have hS3:∀ b,S3 b→¬ InS px vt3 vf3 b∧b≠po∧b≠w.heap.size+1∧(S b∨w.heap.size≤b):=fun b hb=>⟨hB3.sep b hb,fun e=>hV3.xg.2 (by rw[← e];exact hb),fun e=>hV3.xe.2 (by rw[← e];exact hb),hV3.tg.s2 b hb⟩
    have hV4:=hV3.ext hx4
    have HL3:Hid (L3.length≤L.length+kC (cnt (jg PL (i+1)))):=Hd_ (by have:=HS.out.2;have:=HK.out.2.1;omega)
    clear hV3 hx4 hsN hB3 hG3 hL3 NB cl
    generalize w3.alloc (.cells #[.slice aN2 (List.length F2) cN2] 28)=W4 at *
    generalize w3.heap.size=pf at *
    have cf:=cell_of_row W4 pf 0 _ _ _ hf4
    have co:=cell_of_row W4 po 0 _ _ _ hV4.out
    have fo:=frozen_of_row W4 po 0 _ _ hV4.out
    simp only[gE] at cf co
    by_cases hi0:i=0
    · have hq:(((i:Nat):Int) == 0)=true:=by simp[hi0]
      have hq2:((i:Nat):Int)=0:=by omega
      have M5:=Hd_ (hV4.set hs4 hS3)
      have HP:Hid (fA PL (i+1) F2):=Hd_ (by
       have hb:=HK.out.1
       have hl:=HLT.out
       subst hi0
       rw[hb] at hTV hFk
       exact fA.first HPT.out hl hTV hFk)
      clear hi0 hV4 hs4 hS3 hf4 hTV hFk
      go_wp2
      go_roundw
      case rel=>exact⟨i+1,vt3,vf3,S3,L3,aN2,cN2,F2,by have:=hq2;go_num,HLT.out,M5.out,Hd_ ⟨HP.out,HL3.out⟩⟩
      case measure=>have:=HLT.out;simp[intOf];omega
    · have hq:(((i:Nat):Int) == 0)=false:=by simp;omega
      have hq2:¬ ((i:Nat):Int)=0:=by omega
      obtain⟨SF,hsF,hSF⟩:=hV4.sup
      have hNF:=hsF.out
      have hNG:=hs4.out
      have hPS:=HS.out.1
      have hGF:=hPS.1.1.good
      have hGG:=hTV.1.good
      have f0:=List.length_pos_iff.2 hPS.1.1.ne
      have g0:=List.length_pos_iff.2 hTV.1.ne
      have hle:=HK.out.2.2.2
      have hcs:=HK.out.2.2.1
      have hprod:F.length*F2.length≤kB (cnt (jg PL (i+1))):=by rw[hcs.1];exact Nat.le_trans (Nat.mul_le_mul hPS.2 hFk) (Cgt.Jp (by have:=hn9;omega))
      have U3:=Cgt.kB_9 (show cnt (jg PL (i+1))≤9 by omega)
      have hsum:=Jl (.slice aN F.length cN) (.slice aN2 (List.length F2) cN2) F F2 W4 hNF hNG hGF hGG f0 g0 (by omega)
      have HV4:=Hd_ hV4
      have HTV:=Hd_ (And.intro hTV hFk)
      have HPS:=Hd_ hPS
      clear hi0 hV4 hs4 hS3 hTV hFk hPS hGF hGG hNF hNG hsF hSF hle hcs f0 g0
      go_upto_region 5 with (first
       | (go_at_call 78;refine(nJ _ H w5 (hNH.weaken (Nat.zero_le _)) hIH.good (List.length_pos_iff.2 hIH.ne) (by omega)).mono ?_;rintro e w6 ⟨vC,F3,g3,rfl,hN3,hI3,hS3,hC3,hE3,hl3,hx6⟩;obtain⟨aN3,cN3,rfl⟩:=hN3.slice;have hV6:=HV4.out.ext (aa hx5 hx6);have co6:=cell_of_row w6 po 0 _ _ _ hV6.out;have fo6:=frozen_of_row w6 po 0 _ _ hV6.out)
       | (go_at_call 79;refine hsum.mono ?_;rintro e w5 ⟨vH,H,rfl,hNH,hIH,hSH,hlH,hx5⟩))
      have hz5:=hx5.size
      have hgt:=HV4.out.gt
      have UR:=ah HV4.out.out
      have hilt:∀ b,InS px vt3 vf3 b→b<W4.heap.size:=fun b=>HV4.out.tb.ma
      have hs6:=hN3.sup (S:=fun b=>w5.heap.size≤b∧b<w6.heap.size) (fun b hb=>hb.2) (fun b h1 h2=>⟨h1,h2⟩)
      have M5:=Hd_ (hV6.set hs6 (fun b hb=>⟨fun k=>by have:=hilt b k;omega,by omega,by omega,.inr (by omega)⟩))
      have HP:Hid (fA PL (i+1) F3):=Hd_ (by
       have hb:=HK.out.1
       have hl:=HLT.out
       obtain⟨hTV,hFk⟩:=HTV.out
       rw[hb] at hTV hFk
       exact fA.next HPT.out hl (by rw[HCF.out];exact SK.out) HPS.out hTV hFk hSH hlH hI3 hS3 hC3 hE3 hl3)
      clear hV6 hs6 co6 fo6 hN3 hI3 hS3 hC3 hE3 hl3 hNH hIH hSH hlH
      go_wp2
      go_roundw
      case rel=>exact⟨i+1,vt3,vf3,S3,L3,aN3,cN3,F3,by go_num,HLT.out,M5.out,Hd_ ⟨HP.out,HL3.out⟩⟩
      case measure=>have:=HLT.out;simp[intOf];omega
  · have hil:¬ (((i:Nat):Int)<((PL.length:Nat):Int)):=by omega
    have hie:i=PL.length:=by omega
    obtain⟨SF,hsF,hSF⟩:=hV.sup
    have co:=cell_of_row wr po 0 _ _ _ hV.out
    have cr:=cell_of_row wr (w.heap.size+1) 0 _ _ _ hV.res
    have fr0:=frozen_of_row wr (w.heap.size+1) 0 _ _ hV.res
    simp only[gE] at co cr
    have HH:=Hd_ (heap_setCell_same wr (w.heap.size+1) 0 _ _ (.slice aN F.length cN) hV.res)
    have hk9:=bJ (w:=wr) (p:=⟨w.heap.size+1,0,none⟩) (v:=.slice aN F.length cN)
    have HF:Hid (dU F (gB (fr (bd ss)))∧F.length≤kB (bS (bd ss))∧L2.length≤L.length+kC (bS (bd ss))):=Hd_ (by
     have h1:=HS.out.1
     have h2:=HS.out.2
     rw[hie] at h1 h2
     obtain⟨a1,a2⟩:=fA.last HPT.out h1
     have e:cnt (jg PL PL.length)=cnt (fr (bd ss)):=by
      have:jg PL PL.length=fr (bd ss):=by unfold jg;rw[List.take_of_length_le (Nat.le_refl _)];exact HPT.out.all
      rw[this]
     rw[HCF.out,HNB.out] at a2
     rw[e,HCF.out,HNB.out] at h2
     exact⟨a1,a2,h2⟩)
    have hSw:∀ b,SF b→b<wr.heap.size:=fun b hb=>hsF.1 b hb
    have htb:TB (wr.setCell ⟨w.heap.size+1,0,none⟩ (.slice aN F.length cN)) px vt2 vf2 (fun b=>S2 b∨SF b) L2 :=
     (hV.tb.more (fun b hb=>⟨hSw b hb,(hSF b hb).1⟩)).keep hk9 (fun b hb e=>hV.xe.1 (by rw[← show b=w.heap.size+1 from e];exact hb)) (fun b hb e=>hb.elim (fun k=>hV.xe.2 (by rw[← show b=w.heap.size+1 from e];exact k)) (fun k=>(hSF b k).2.2.1 e))
    have htg:TG w (wr.setCell ⟨w.heap.size+1,0,none⟩ (.slice aN F.length cN)) px vt vf S vt2 vf2 (fun b=>S2 b∨SF b):=by
     have h:=hV.tg.set (p:=⟨w.heap.size+1,0,none⟩) (by show w.heap.size≤w.heap.size+1;omega) (.slice aN F.length cN)
     exact⟨h.keep,h.ins,fun b hb=>.inl (h.s1 b hb),fun b hb=>hb.elim (h.s2 b) (fun k=>(hSF b k).2.2.2)⟩
    have hsN:Sup (fun b=>S2 b∨SF b) (fun W=>bP W 0 (.slice aN F.length cN) F) (wr.setCell ⟨w.heap.size+1,0,none⟩ (.slice aN F.length cN)) :=
     (hsF.keep hk9 (fun b hb e=>(hSF b hb).2.2.1 e)).mono (fun b hb=>.inr hb) (fun b hb=>by rw[World.size_setCell];exact hb.elim (fun k=>hV.tb.sLt k) (hSw b)) (fun _ h=>h)
    have Nj:=Hd_ (And.intro htb (And.intro htg hsN))
    clear htb htg hsN hSw hSF hsF hV hie HS hk9
    go_wp2
    (try simp only[Exit.inBlock,Exit.then])
    refine bodyPost_ret (results_cell_row rfl _ _ (w.heap.size+1) 28 #[.slice aN F.length cN] (0,0) _ rfl HH.out Tryz.underlying28 rfl (by kernel_rfl)) rfl ?_
    exact⟨_,F,_,_,_,L2,rfl,Nj.out.2.2,HF.out.1,HF.out.2.1,Nj.out.1,Nj.out.2.1,HF.out.2.2⟩
theorem MR:∀ m,VOk m∧POk m:=by
 intro m
 induction m using Nat.strongRecOn with
 | _ m ih =>
   have hp:=I7 m fun k hk=>(ih k hk).1
   exact⟨Ff m hp,hp⟩
end Go.Proofs.YteknjeohbcgpdaaGreatDoor