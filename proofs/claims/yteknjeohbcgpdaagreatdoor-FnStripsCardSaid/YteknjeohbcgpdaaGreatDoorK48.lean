/-
  Contract of the reference's book of strips: part, given value nearer to the end.
-/
import Derived.Test.YteknjeohbcgpdaaGreatDoorK46
import Derived.Test.YteknjeohbcgpdaaGreatDoorK47
set_option maxRecDepth 100000
namespace Go.Proofs.YteknjeohbcgpdaaGreatDoor
open Tryz
open Go.RowKit
open bz (dC Nd vl Same Gm Canon iK Ge fq eu Stp gS jN mU live mS)
theorem CX:(prog.info? 28).map (λi=>(i.zero,i.size,i.bytes))=some (some (.agg #[.slice none 0 0]),1,24):=by kernel_rfl
def UI(kd:Nat)(s:Stp)(px:Nat)(vt vf:Value)(S:Nat->Prop)(L:List (ByteArray × dC))(w:World)(e:Ending)(w':World):Prop:=
 ∃vN F Bt Bu S' L',e=.returned (.agg #[vN])/\oP S' (λW=>eX W 0 vN F) w'/\fu F (gS kd s)/\F.length<=3 ^ live kd s/\SB kd w' px Bt Bu S' L'/\TG w w' px vt vf S Bt Bu S'/\∀x,x∈L'->x∈L\/mS kd (bH x.1)<=mS kd s
def aaa(kd m:Nat):Prop:=∀(s:ByteArray) (px:Nat) (vt vf:Value) (S:Nat->Prop) (L:List (ByteArray × dC)) (w:World),mS kd (bH s)<=m->mU kd (bH s)->s.size<=7->SB kd w px vt vf S L->
 Calls prog 56 #[.pointer (some ⟨px,0,none⟩),.string s] w (UI kd (bH s) px vt vf S L w)
def aac(kd m:Nat):Prop:=∀(s:ByteArray) (px:Nat) (vt vf:Value) (S:Nat->Prop) (L:List (ByteArray × dC)) (w:World),mS kd (bH s)<=m->mU kd (bH s)->s.size<=7->SB kd w px vt vf S L->
 Calls prog 99 #[.pointer (some ⟨px,0,none⟩),.string s] w (UI kd (bH s) px vt vf S L w)
theorem Nn{kd:Nat}{s:ByteArray}(h:s.size<=7):3 ^ live kd (bH s)<=2187:=by
 have:=bz.F8 kd (bH s);rw[bN]at this;exact bU (nY (by omega) (show live kd (bH s)<=7 by omega)) (by decide)
set_option maxHeartbeats 4000000 in
theorem KC(kd:Nat)(hkd:kd<=3)(m:Nat)(ih:∀k,k<m->aaa kd k):aac kd m:=by
 intro tb px vt vf S L w hm Df h7 hB;obtain⟨i0,hi0,hz0',hz1,hz2⟩:=info_parts CX;obtain⟨i1,hi1,hy0,hy1,hy2⟩:=info_parts fO;have GX:=aH Df;have H7:=aH h7;have hLn:=hB.len;have hxe:Ext w (w.alloc (.cells #[.slice none 0 0] 28)):=by go_grown
 have hrs:=heap_alloc_new w (.cells #[.slice none 0 0] 28);clear Df h7;go_enter Tryz.func99,Tryz.ntmps99
 go_upto_region 1 with fail
 generalize w.alloc (.cells #[.slice none 0 0] 28)=W0 at *;have HZW:=aH (show w.heap.size+1<=W0.heap.size by have:=bG hrs;omega);have hB0:=hB.ext hxe;have hck:=cell_of_row W0 px 0 _ _ _ hB0.cells;have hcx:=cell_of_row W0 px 1 _ _ _ hB0.cells;have hcy:=cell_of_row W0 px 2 _ _ _ hB0.cells;obtain⟨aT,cT,rfl,hcT,acm⟩:=bD hB0.texts;obtain⟨xsF,SE,Ve⟩:=hB.forms;have SE:=dn SE hxe;obtain⟨aF,cF,rfl,NI,Zm⟩:=bD SE;go_wp2
 go_loop [5] (λii=>∃q,q<=L.length/\ii=.int .i64 ((q:Nat):Int)/\Hid (∀j (h:j<L.length),j<q->(L[j]).1≠tb)) (λii=>L.length-(intOf ii).toNat)
 case atStart=>exact⟨0,az _,rfl,λj _ h=>absurd h (by omega)⟩
 case round=>
  obtain⟨q,hq,rfl,HN⟩:=hrel;by_cases hlt2:q<L.length
  .have h2:((q:Nat):Int)<(L.length:Int):=by omega
   obtain⟨gT,cT',he,-,-,Tj⟩:=iB hB0.texts (by omega);simp only[Value.slice.injEq]at he;obtain⟨rfl,-,rfl⟩:=he;have ct:=Tj q (by omega);rw[dB,aa hlt2,iG]at ct;clear Tj;by_cases heq:(L[q]).1=tb
   .have alZ:((L[q]).1.toList == tb.toList)=true:=(Lib.bytes_beq_iff _ _).2 heq
    obtain⟨-,-,hV',hl'⟩:=hB0.law _ (ah hlt2);rw[heq]at hV' hl';have hlF:(L.map (·.2)).length=L.length:=(by simp);obtain⟨gF,cF',he,-,-,Tk⟩:=iB SE (by omega);simp only[Value.slice.injEq]at he;obtain⟨rfl,-,rfl⟩:=he;obtain⟨aN,cN,e1,hN1⟩:=Ve.2.out q (by simpa using hlt2);have cf:=Tk q (by omega);rw[BX e1]at cf;simp only[fA]at cf hN1;have XH:oP S (λW=>eX W 0 (.slice aN (L[q]).2.length cN) (L[q]).2) w:=⟨Ve.2.1,λw2 h2=>by
     obtain⟨aN',cN',ZR,acT⟩:=Ve.2.2 w2 h2 q (by simpa using hlt2);rw[e1]at ZR;simp only[fA,jU,Value.slice.injEq,true_and,and_true]at ZR acT;obtain⟨rfl,rfl⟩:=ZR;exact acT⟩
    have cr0:=cell_of_row W0 (w.heap.size) 0 _ _ _ hrs;have fr0:=frozen_of_row W0 (w.heap.size) 0 _ _ hrs;have HH:Hid ((W0.setCell ⟨w.heap.size,0,none⟩ (.slice aN (L[q]).2.length cN)).heap[w.heap.size]?=some (.cells #[.slice aN (L[q]).2.length cN] 28 (0,0))):=heap_setCell_same _ _ _ _ _ _ hrs;have HV:=aH (And.intro hV' (And.intro hl' XH));have HQ:=aH heq;clear heq hV' hl' XH hN1 e1 Tk hlF;go_wp2
    (try simp only[Exit.inBlock,Exit.then]);refine bodyPost_ret (results_cell_row rfl _ _ (w.heap.size) 28 #[.slice aN (L[q]).2.length cN] (0,0) _ rfl HH.out underlying28 rfl (by kernel_rfl)) rfl ?_;have LC:Ext w (W0.setCell ⟨w.heap.size,0,none⟩ (.slice aN (L[q]).2.length cN)):=hxe.setCell (p:=⟨w.heap.size,0,none⟩) (ai _) _;exact⟨_,(L[q]).2,_,_,S,L,rfl,HV.out.2.2.ext LC,HV.out.1,HV.out.2.1,hB.ext LC,TG.ext LC,λx hx=>.inl hx⟩
   .have hne:((L[q]).1.toList == tb.toList)=false:=(Lib.bytes_beq_false_iff _ _).2 heq
    have HQ:=aH heq;clear heq;go_wp2
    go_round
    case rel=>exact⟨q+1,by omega,by go_num,λj hj hjq=>by
     by_cases e:j=q
     .subst e;exact HQ.out
     .exact HN.out j hj (by omega)⟩
    case measure=>simp[intOf];omega
  .have h2:¬(((q:Nat):Int)<(L.length:Int)):=by omega
   have hqe:q=L.length:=(by omega);go_wp2
   clear hck hcx hcy h2;subst hqe;have hW0:=HZW.out;have ahA:Hid (∀x,x∈L->x.1≠tb):=aH λx hx e=>by
    obtain⟨j,hj,rfl⟩:=aO.1 hx;exact HN.out j hj hj e
   obtain⟨f,hf⟩:∃f:Nat->Value,f=λp=>if p=0 then .slice (some ⟨W0.heap.size,0,none⟩) 0 0 else .slice (some ⟨W0.heap.size+1,0,none⟩) 0 0:=⟨_,rfl⟩
   have hVM:Oa kd w (((W0.alloc (.cells #[] 28)).alloc (.cells #[] 28)).alloc (.cells #[.slice (some ⟨W0.heap.size,0,none⟩) 0 0,.slice (some ⟨W0.heap.size+1,0,none⟩) 0 0] 47)) px (.slice aT L.length cT) (.slice aF L.length cF) S L (λq=>(jN kd (q == 0) (bH tb)).map (gS kd)) 2187 (W0.heap.size+1+1) (.slice aT L.length cT) (.slice aF L.length cF) S L f (λ_=>[]):=by
    have hx3:Ext W0 (((W0.alloc (.cells #[] 28)).alloc (.cells #[] 28)).alloc (.cells #[.slice (some ⟨W0.heap.size,0,none⟩) 0 0,.slice (some ⟨W0.heap.size+1,0,none⟩) 0 0] 47)):=(by go_grown);have hI:∀b,kR px (.slice aT L.length cT) (.slice aF L.length cF) b->b<w.heap.size:=λb=>hB.uK
    have hS:∀b,S b->b<w.heap.size:=λb=>hB.Q5
    have hf0:f 0=.slice (some ⟨W0.heap.size,0,none⟩) 0 0:=(by rw[hf];rfl);have hf1:f 1=.slice (some ⟨W0.heap.size+1,0,none⟩) 0 0:=(by rw[hf];rfl);have hz3:(((W0.alloc (.cells #[] 28)).alloc (.cells #[] 28)).alloc (.cells #[.slice (some ⟨W0.heap.size,0,none⟩) 0 0,.slice (some ⟨W0.heap.size+1,0,none⟩) 0 0] 47)).heap.size=W0.heap.size+3:=(by simp);have hss:∀b,SS (W0.heap.size+1+1) f b->w.heap.size<b/\b<W0.heap.size+3:=λb hb=>by
     rcases hb with hb|hb|hb
     .omega
     .rw[hf0]at hb;simp[Value.ownBlock]at hb;omega
     .rw[hf1]at hb;simp[Value.ownBlock]at hb;omega
    refine⟨hB.ext (ay hxe hx3),TG.ext (ay hxe hx3),?_,?_,λq hq=>⟨[],?_,Items.nil (λb hb=>by have:=hS b hb;omega)⟩,λq hq=>?_,λb hb e=>?_,⟨λk=>by have:=hI _ k;omega,λk=>by have:=hS _ k;omega⟩,λb hb=>⟨λk=>by have:=hI _ k;have:=hss b hb;omega,λk=>by have:=hS _ k;have:=hss b hb;omega⟩,λb hb=>by rw[hz3];exact hss b hb,λq hq=>J4.nil _ _⟩
    .rw[hx3.block _ (bG hrs)];exact hrs
    .rw[hf0,hf1]
     have h:=heap_alloc_new ((W0.alloc (.cells #[] 28)).alloc (.cells #[] 28)) (.cells #[.slice (some ⟨W0.heap.size,0,none⟩) 0 0,.slice (some ⟨W0.heap.size+1,0,none⟩) 0 0] 47);rw[fw,fw]at h;exact h
    .rcases Qi hq with rfl|rfl
     .rw[hf0]
      exact((fC W0 w.heap.size (by omega) 28).alloc _).alloc _
     .rw[hf1]
      exact(lM W0 (.cells #[] 28) w.heap.size (by omega) 28).alloc _
    .rcases Qi hq with rfl|rfl
     .rw[hf0];simp[Value.ownBlock] <;> omega
     .rw[hf1];simp[Value.ownBlock] <;> omega
    .rw[hf0]at hb;rw[hf1]at e;simp[Value.ownBlock]at hb e;omega
   have hsl:Value.slice (some ⟨W0.heap.size+1+1,0,none⟩) 2 2=.slice (some ⟨W0.heap.size+1+1,0,none⟩) 2 2:=rfl;generalize hWW:((W0.alloc (.cells #[] 28)).alloc (.cells #[] 28)).alloc (.cells #[.slice (some ⟨W0.heap.size,0,none⟩) 0 0,.slice (some ⟨W0.heap.size+1,0,none⟩) 0 0] 47)=W1 at *;generalize W0.heap.size+1+1=bs at *;clear hsl hWW hf hW0;clear hxe hrs hB0 hcT NI acm Zm SE Ve HN;generalize acp:(λq:Nat=>(jN kd (q == 0) (bH tb)).map (gS kd))=bl at hVM;have HBL:=aH acp;clear acp;go_loopw [7] (λsi wr=>∃s vt vf S' L' f Fs,s<=2/\si=.int .i64 ((s:Nat):Int)/\Oa kd w wr px (.slice aT L.length cT) (.slice aF L.length cF) S L bl 2187 bs vt vf S' L' f Fs/\Hid (∀x,x∈L'->x∈L\/mS kd (bH x.1)<mS kd (bH tb))/\Hid (∀q,q<2->(Fs q).length=if q<s then(bl q).length else 0)) (λsi _=>2-(intOf si).toNat)
   case atStart=>exact⟨0,_,_,S,L,f,λ_=>[],by omega,rfl,hVM,aH λx hx=>.inl hx,λq _=>rfl⟩
   case round=>
    clear hVM f;obtain⟨s,vt,vf,S',L',f,Fs,hs,rfl,hV,Xm,HF⟩:=hrel;by_cases hlt3:s<2
    .have h3:((s:Nat):Int)<2:=by omega
     have cb0:=cell_of_row wr px 0 _ _ _ hV.tb.cells;obtain⟨Ts,hTs⟩:∃Ts,Ts=jN kd (((s:Nat):Int)== 0) (bH tb):=⟨_,rfl⟩;have HTS:=aH hTs;clear hTs;have h7':=H7.out;have Y1:=bz.CF kd (((s:Nat):Int)== 0) (bH tb);rw[<-HTS.out,bN]at Y1;have HMV:=aH Y1;clear Y1;go_wp2_with (go_at_call 156;refine(mJ hkd _ tb (by omega) _).mono ?_;rintro e w1 hr;obtain⟨aC,ms,cC,rfl,hmr,xP,wM⟩:=hr.open;have HML:=aH xP;have Fu:=aH wM;have hV1:=hV.ext hmr.ext;have Yh:=aH hmr;clear hr xP wM hmr)
     have abU:ms.length<=14:=(by have a:=Fu.out;have b:=HMV.out;rw[<-HTS.out]at a;omega);have hRT:Strs w1 (.slice aC ms.length cC) ms:=Strs.eO Yh.out.own (by omega);have Oc:Hid (∀b,(Value.slice aC ms.length cC).ownBlock=some b->wr.heap.size<=b/\b<w1.heap.size):=aH λb hb=>Yh.out.own.lt b hb
     have hleft:bl s=Ts.map (gS kd):=by
      have e1:(((s:Nat):Int)== 0)=(s == 0):=by rcases Qi hlt3 with rfl|rfl <;> rfl
      rw[HTS.out,e1,<-HBL.out]
     have XV:∀b,(wr.heap.size<=b/\b<w1.heap.size)->¬kR px vt vf b/\¬SS bs f b:=λb hb=>⟨λk=>by have:=hV.tb.uK k;omega,λk=>by have:=(hV.gt b k).2;omega⟩
     have HMS:Hid (ms.map bH=Ts):=aH (by rw[HML.out,HTS.out]);have HTL:=aH (show(bl s).length=ms.length by rw[hleft,aJ,<-HMS.out,aJ]);have HCT:=aH hleft;have hF0:(Fs s).length=0:=(by rw[HF.out s hlt3,if_neg (by omega)]);clear hleft hV cb0 Yh;obtain⟨wo,rfl⟩:∃wo:World,wo=wr:=⟨_,rfl⟩;go_loopw [9] (λii w2=>∃i QH QI S2 L2 f2 Ym,i<=ms.length/\ii=.int .i64 ((i:Nat):Int)/\Oa kd w w2 px (.slice aT L.length cT) (.slice aF L.length cF) S L bl 2187 bs QH QI S2 L2 f2 Ym/\Hid (∀x,x∈L2->x∈L\/mS kd (bH x.1)<mS kd (bH tb))/\(Ym s).length=i/\Hid (∀q,q<2->q≠s->Ym q=Fs q)/\Strs w2 (.slice aC ms.length cC) ms/\(∀b,(wo.heap.size<=b/\b<w1.heap.size)->¬kR px QH QI b/\¬SS bs f2 b)/\w1.heap.size<=w2.heap.size) (λii _=>ms.length-(intOf ii).toNat)
     case atStart=>exact⟨0,vt,vf,S',L',f,Fs,az _,rfl,hV1,Xm,hF0,λ_ _ _=>rfl,hRT,XV,ai _⟩
     case round=>
      clear hV1 hRT XV hF0 Xm;obtain⟨i,QH,QI,S2,L2,f2,Ym,hi,rfl,hV2,HL2,Kg,HFo,hRT,XV,ala⟩:=hrel;obtain⟨w2,rfl⟩:∃w2:World,w2=wr:=⟨_,rfl⟩;by_cases SQ:i<ms.length
      .have h4:((i:Nat):Int)<(ms.length:Int):=by omega
       go_wp2_with fail
       obtain⟨bC,oC,rfl,hcl⟩:=hRT.at SQ;have cl:=hcl i SQ;have hTb:=Oc.out bC rfl;obtain⟨sk,hsk⟩:∃sk,sk=ms[i]'SQ:=⟨_,rfl⟩;rw[<-hsk]at cl;obtain⟨xs,hown,hit⟩:=hV2.row s hlt3;obtain⟨af,cf,hfs,hcf,_⟩:=bD hown;have cs:∀W:World,W.heap[bs]?=some (.cells #[f2 0,f2 1] 47 (0,0))->W.cell? ⟨bs,s,none⟩=some (.slice af (Ym s).length cf):=λW hW=>by
        rw[cell_of_row W bs s _ _ _ hW,<-hfs];rcases Qi hlt3 with rfl|rfl <;> rfl
       have hlT:i<Ts.length:=(by rw[<-HMS.out,aJ];exact SQ);have hbd:bH sk=Ts[i]'hlT:=by
        have e:(ms.map bH)[i]?=Ts[i]?:=(by rw[HMS.out]);rw[dB,aa SQ,aa hlT,<-hsk]at e;simp only[iG,bJ]at e;exact e
       have hmem:bH sk∈jN kd (((s:Nat):Int)== 0) (bH tb):=(by rw[<-HTS.out,hbd];exact ah hlT);have hms:=bz.rC hmem;have hlk:=bz.rD GX.out hmem;have YJ:sk.size<=7:=(by have:=bz.vS hmem;rw[bN,bN]at this;have:=H7.out;omega);have he1:(bl s)[(Ym s).length]?=some (gS kd (bH sk)):=(by rw[Kg,HCT.out,dB,aa hlT,hbd];rfl);have Kb:=Nn (kd:=kd) YJ;have hx0:Ext w2 w2.drew:=⟨rfl,rfl,rfl,ai _,λ_ _=>rfl⟩;have hVd:=hV2.ext hx0;have Sz:=dn hown hx0;have ab7:=hit.ext hx0;rw[hfs,Kg]at Sz;have hzT:∀W:World,(∀b,(wo.heap.size<=b/\b<w1.heap.size)->W.heap[b]?=w2.heap[b]?)->W.cell? ⟨bC,oC+i,none⟩=some (.string sk):=λW hW=>by
        have e:=hW bC hTb;rw[World.cell?_of_block (w:=w2) e];exact cl
       have hS0:w2.cell? ⟨bs,s,none⟩=some (.slice af i cf)/\w2.cell? ⟨bC,oC+i,none⟩=some (.string sk):=⟨by rw[cs _ hV2.blk,Kg],hzT w2 (λ_ _=>rfl)⟩;rw[Kg]at cs;rw[Kg]at he1;have HE1:=aH he1;have Og:=aH Kg;have HFS:=aH hfs;have Vk:=aH (And.intro hms (And.intro hlk YJ));clear he1 Kg hfs cl hcl hbd hmem hms hlk YJ hsk hlT;refine lD (λW=>W.cell? ⟨bs,s,none⟩=some (.slice af i cf)/\W.cell? ⟨bC,oC+i,none⟩=some (.string sk)) [14,15] (by kernel_rfl) hS0 (λae=>?_);(refine kW 0 ae ?_;refine kW 1 ae ?_;refine kW 2 ae ?_;refine kW 3 ae ?_;refine kW 4 ae ?_;refine kW 5 ae ?_;refine kW 6 ae ?_;refine kW 7 ae ?_;refine kW 8 ae ?_;refine kW 9 ae ?_;refine kW 10 ae ?_);(refine stA (i:=11) λK hK=>?_;go_simp);refine(ih (mS kd (bH sk)) (by have:=Vk.out.1;omega) sk px QH QI S2 L2 _ (ai _) Vk.out.2.1 Vk.out.2.2 hVd.tb).mono ?_;rintro en w3 ⟨vN,F,Xx,Xy,S3,L3,rfl,Gc,DK,NM,hB3,hG3,hL3⟩;have Xo:Hid (∀x,x∈L3->x∈L\/mS kd (bH x.1)<mS kd (bH tb)):=aH λx hx=>by
        rcases hL3 x hx with k|k
        .exact HL2.out x k
        .have:=Vk.out.1;exact .inr (by omega)
       clear hL3;obtain⟨aN,cN,rfl⟩:=Gc.out.slice;have NJ:=hVd.go hB3 hG3;have hT3:∀b,(wo.heap.size<=b/\b<w1.heap.size)->w3.heap[b]?=w2.heap[b]?:=λb hb=>hG3.block (w:=w2.drew) (by show b<w2.heap.size;omega) (XV b hb).1
       obtain⟨hown3,hit3⟩:=hVd.aa6 hB3 hG3 hlt3 (by rw[HFS.out,Og.out];exact Sz) ab7;rw[HFS.out,Og.out]at hown3;have agb:∀b,(wo.heap.size<=b/\b<w1.heap.size)->¬kR px Xx Xy b:=λb hb k=>by
        rcases hG3.ins b k with k|k
        .exact(XV b hb).1 k
        .have:w2.drew.heap.size=w2.heap.size:=rfl;omega
       (refine hK.out _ _ (λ_=>?_) ?_)
       .exact⟨cs _ NJ.blk,hzT _ hT3⟩
       clear hK K;(try simp only[nP]);(refine stA (i:=12) λK hK=>?_;go_simp);have hx4:Ext w3 (w3.alloc (.cells #[.slice aN F.length cN] 28)):=(by go_grown);have Pw:=NJ.ext hx4;have hT4:∀b,(wo.heap.size<=b/\b<w1.heap.size)->(w3.alloc (.cells #[.slice aN F.length cN] 28)).heap[b]?=w2.heap[b]?:=λb hb=>by
        have hz3:=hG3.keep.size;have:w2.drew.heap.size=w2.heap.size:=rfl;rw[hx4.block b (by omega)];exact hT3 b hb
       (refine hK.out _ _ (λ_=>?_) ?_)
       .exact⟨cs _ Pw.blk,hzT _ hT4⟩
       clear hK K;(try simp only[nP]);refine stA (i:=13) λK hK=>?_
       refine iA rfl (.tmp 62) (.tmp 69) 47 rfl w.heap.size 28 i0 (.agg #[.slice none 0 0]) 1 24 underlying47 hi0 hz0' hz1 hz2 rfl (by decide) (.slice af i cf) i xs rfl (dn hown3 hx4) _ 1 _ [.slice aN F.length cN] rfl rfl (.inr ⟨_,rfl,cK (bP _ _ _)⟩) (by intro u hu;simp at hu;subst hu;rfl) (by unfold maxLen;omega) (by omega) (by have:=Pw.tg.keep.size;exact this) ?_;intro v5 w5 fI hg5 hl5;obtain⟨a5,c5,rfl,-⟩:=bD fI;have hap:Value.ownBlock (.slice af i cf)≠some bs:=(by have:=NJ.ap s hlt3;rw[HFS.out,Og.out]at this;exact this);have hss:∀b,Value.ownBlock (.slice af i cf)=some b->SS bs f2 b:=λb hb=>SS.of hlt3 (by rw[HFS.out,Og.out];exact hb)
       have Nz:=hx4.size;have hz3:=hG3.keep.size;have hz2:w2.drew.heap.size=w2.heap.size:=rfl;have hb5:w5.heap[bs]?=some (.cells #[f2 0,f2 1] 47 (0,0)):=by
        rw[hg5.block bs (bG Pw.blk) (λe=>hap e.symm)];exact Pw.blk
       have hT5:∀b,(wo.heap.size<=b/\b<w1.heap.size)->w5.heap[b]?=w2.heap[b]?:=λb hb=>by
        rw[hg5.block b (by omega) (λe=>(XV b hb).2 (hss b e.symm))];exact hT4 b hb
       have cbs:=cs _ hb5;have fbs:=frozen_of_row w5 bs s _ _ hb5;have Kh:oP S3 (λW=>pK W [.slice aN F.length cN] F) w3:=Gc.mono (λ_ h=>h) Gc.1 (λW h=>⟨aN,cN,rfl,h⟩);have hP:=NJ.push hlt3 (v5:=.slice a5 (i+1) c5) (e:=gS kd (bH sk)) hit3 Kh (by rw[Og.out];exact fI) (by rw[HFS.out,Og.out];exact hg5) (by rw[HFS.out,Og.out];exact hl5) (by rw[Og.out];exact HE1.out) DK (by omega);have acF:Strs (w5.setCell ⟨bs,s,none⟩ (.slice a5 (i+1) c5)) (.slice (some ⟨bC,oC,none⟩) ms.length cC) ms:=by
        refine lS.keep hRT λb hl hb=>?_
        have hr:=Oc.out b hb;rw[heap_setCell_other _ _ _ _ (λe=>(XV b hr).2 (.inl e))];exact hT5 b hr
       have acB:∀b,(wo.heap.size<=b/\b<w1.heap.size)->¬kR px Xx Xy b/\¬SS bs (λp=>if p=s then .slice a5 (i+1) c5 else f2 p) b:=λb hb=>⟨agb b hb,λk=>by
        rcases SS.push (wr:=w3.alloc (.cells #[.slice aN F.length cN] 28)) hlt3 (by rw[HFS.out,Og.out];exact hl5) b k with k|k
        .exact(XV b hb).2 k
        .omega⟩
       have hz5:w1.heap.size<=(w5.setCell ⟨bs,s,none⟩ (.slice a5 (i+1) c5)).heap.size:=(by have:=hg5.size;rw[World.size_setCell];omega);have HR:=aH (And.intro hP (And.intro acF (And.intro acB hz5)));clear hP acF acB hz5 hit3 hown3 NJ Pw hVd hT3 hT4 Kh Gc Sz ab7;(refine hK.out _ _ (λ_=>?_) ?_)
       .exact⟨cbs,hzT _ hT5⟩
       clear hK K;(try simp only[nP]);refine Yq [14,15] [_,_] ?_;go_wp2_with fail
       go_roundw
       case rel=>exact⟨i+1,Xx,Xy,S3,L3,_,_,by omega,by go_num,HR.out.1,Xo,by simp[Og.out],λq hq hqs=>by simp only[hqs,if_false];exact HFo.out q hq hqs,HR.out.2.1,HR.out.2.2.1,HR.out.2.2.2⟩
       case measure=>simp[intOf];omega
      .have h4:¬(((i:Nat):Int)<(ms.length:Int)):=by omega
       have HF2:Hid (∀q,q<2->(Ym q).length=if q<s+1 then(bl q).length else 0):=λq hq=>by
        by_cases c:q=s
        .subst c;rw[if_pos (by omega),Kg,HTL.out];omega
        .rw[HFo.out q hq c,HF.out q hq]
         by_cases d:q<s
         .rw[if_pos d,if_pos (by omega)]
         .rw[if_neg d,if_neg (by omega)]
       clear Kg;go_wp2
       go_roundw
       case rel=>exact⟨s+1,QH,QI,S2,L2,f2,Ym,by omega,by go_num,hV2,HL2,HF2.out⟩
       case measure=>simp[intOf];omega
    .have h3:¬(((s:Nat):Int)<2):=by omega
     have hse:s=2:=(by omega);subst hse;go_wp2
     obtain⟨xs0,hown0,Pp⟩:=hV.row 0 (by omega);obtain⟨xs1,hown1,Zb⟩:=hV.row 1 (by omega);obtain⟨a0,c0,hf0,hc0,_⟩:=bD hown0;obtain⟨a1,c1,hf1,hc1,_⟩:=bD hown1;have hl0:(Fs 0).length=((jN kd true (bH tb)).map (gS kd)).length:=(by have:=HF.out 0 (by omega);rw[<-HBL.out]at this;simpa using this);have hl1:(Fs 1).length=((jN kd false (bH tb)).map (gS kd)).length:=(by have:=HF.out 1 (by omega);rw[<-HBL.out]at this;simpa using this);have WG:J4 ((jN kd true (bH tb)).map (gS kd)) 2187 (Fs 0):=(by have:=hV.fs 0 (by omega);rw[<-HBL.out]at this;exact this);have WE:J4 ((jN kd false (bH tb)).map (gS kd)) 2187 (Fs 1):=(by have:=hV.fs 1 (by omega);rw[<-HBL.out]at this;exact this);have ab0:(Fs 0).length<=14:=(by rw[hl0,aJ];have:=bz.CF kd true (bH tb);have:=H7.out;rw[bN]at *;omega);have hlt1:(Fs 1).length<=14:=(by rw[hl1,aJ];have:=bz.CF kd false (bH tb);have:=H7.out;rw[bN]at *;omega);have hsz:sizes (Fs 0)+sizes (Fs 1)+1<=61237:=by
      have a:=Ey WG.lens;have b:=Ey WE.lens;have c:=iM 2187 ab0;have d:=iM 2187 hlt1;omega
     have hbl:=hV.blk;rw[hf0,hf1]at hbl;have hB0:Forms wr (.slice a0 (Fs 0).length c0) (Fs 0):=by
      rw[<-hf0];exact(Rows.eO (T:=λb=>b<wr.heap.size) hown0 rfl Pp (λb hb=>Pp.2.1 b hb) (λb hb=>(hown0.lt b hb).2) (λ_ h=>h)).forms
     have hB1:Forms wr (.slice a1 (Fs 1).length c1) (Fs 1):=by
      rw[<-hf1];exact(Rows.eO (T:=λb=>b<wr.heap.size) hown1 rfl Zb (λb hb=>Zb.2.1 b hb) (λb hb=>(hown1.lt b hb).2) (λ_ h=>h)).forms
     have HL0:=aH hl0;have HL1:=aH hl1;clear hf0 hf1 hl0 hl1;go_cut [10] (λx wc=>∃p aN cN F,x=.pointer (some ⟨p,0,none⟩)/\wr.heap.size<=p/\wc.heap[p]?=some (.cells #[.slice aN (List.length F) cN] 28 (0,0))/\Ext wr wc/\fu F (gS kd (bH tb))/\F.length<=3 ^ live kd (bH tb)/\oP (λb=>wr.heap.size<=b/\b<wc.heap.size/\b≠p) (λW=>eX W 0 (.slice aN (List.length F) cN) F) wc)
     case first=>
      have pq:∀W:World,Ext wr W->W.cell? ⟨bs,0,none⟩=some (.slice a0 (Fs 0).length c0)/\W.cell? ⟨bs,1,none⟩=some (.slice a1 (Fs 1).length c1):=λW hW=>by
       have hb:W.heap[bs]?=some (.cells #[.slice a0 (Fs 0).length c0,.slice a1 (Fs 1).length c1] 47 (0,0)):=(by rw[hW.block _ (bG hbl)];exact hbl);exact⟨cell_of_row W bs 0 _ _ _ hb,cell_of_row W bs 1 _ _ _ hb⟩
      refine lD (λW=>W.cell? ⟨bs,0,none⟩=some (.slice a0 (Fs 0).length c0)/\W.cell? ⟨bs,1,none⟩=some (.slice a1 (Fs 1).length c1)) [9] (by kernel_rfl) (pq _ ⟨rfl,rfl,rfl,ai _,λ_ _=>rfl⟩) (λae=>?_);(refine kW 0 ae ?_;refine kW 1 ae ?_;refine kW 2 ae ?_;refine kW 3 ae ?_;refine kW 4 ae ?_;refine kW 5 ae ?_);have iF:Ext wr wr.drew:=⟨rfl,rfl,rfl,ai _,λ_ _=>rfl⟩;obtain⟨W,hW⟩:∃W,W=wr.drew:=⟨_,rfl⟩;rw[<-hW]at iF ae ⊢;clear hW;have De:=True.intro;refine xD (i:=6) (j:=8) (by kernel_rfl) ?fa1 ?fb1
      case' fb1=>
       (refine rnA (i:=8) λK hK=>?_;go_simp);have NB:Ext W (W.alloc (.cells #[.slice none 0 0] 28)):=(by go_grown);have hP:(W.alloc (.cells #[.slice none 0 0] 28)).heap[W.heap.size]?=some (.cells #[.slice none 0 0] 28 (0,0)):=heap_alloc_new _ _;have hpz:wr.heap.size<=W.heap.size:=iF.size;(try have hpb:∀b,SB b->b≠W.heap.size:=λb hb e=>by have:=NK.1 b hb;omega);(try replace hN1:=hN1.ext NB);(try replace NK:=NK.ext NB);replace iF:=ay iF NB;clear NB;have ae:=pq _ iF;generalize W.alloc (.cells #[.slice none 0 0] 28)=W1 at *;generalize W.heap.size=p at *;obtain⟨W,rfl⟩:∃W,W=W1:=⟨_,rfl⟩;refine hK.out _ _ (λ_=>ae) ?_;clear hK K;(try simp only[nP]);clear De
      case' fa1=>(refine rnA (i:=6) λK hK=>?_;go_simp)
      all_goals
       first
        |(have hNP:=De;clear hNP)
        |(refine stA (i:=6) λK hK=>?_;go_simp)
       refine(Ll _ _ (Fs 0) (Fs 1) _ (hB0.ext iF) (hB1.ext iF) WG.good WE.good (by omega) (by omega) (by omega)).mono ?_;rintro e WA ⟨vN,F1,rfl,hN1,hI1,hS1,hl1,hxA⟩;replace iF:=ay iF hxA;(try replace hP:WA.heap[p]?=some (.cells #[.slice none 0 0] 28 (0,0)):=by rw[hxA.block _ (bG hP)];exact hP);clear hxA;obtain⟨W,rfl⟩:∃W,W=WA:=⟨_,rfl⟩;have ae:=pq _ iF;refine hK.out _ _ (λ_=>ae) ?_;clear hK K;(try simp only[nP])
      refine xD (i:=7) (j:=8) (by kernel_rfl) ?fa2 ?fb2
      case' fb2=>
       (refine rnA (i:=8) λK hK=>?_;go_simp);have NB:Ext W (W.alloc (.cells #[.slice none 0 0] 28)):=(by go_grown);have hP:(W.alloc (.cells #[.slice none 0 0] 28)).heap[W.heap.size]?=some (.cells #[.slice none 0 0] 28 (0,0)):=heap_alloc_new _ _;have hpz:wr.heap.size<=W.heap.size:=iF.size;(try have hpb:∀b,SB b->b≠W.heap.size:=λb hb e=>by have:=NK.1 b hb;omega);(try replace hN1:=hN1.ext NB);(try replace NK:=NK.ext NB);replace iF:=ay iF NB;clear NB;have ae:=pq _ iF;generalize W.alloc (.cells #[.slice none 0 0] 28)=W1 at *;generalize W.heap.size=p at *;obtain⟨W,rfl⟩:∃W,W=W1:=⟨_,rfl⟩;refine hK.out _ _ (λ_=>ae) ?_;clear hK K;(try simp only[nP]);clear De
      case' fa2=>(refine rnA (i:=7) λK hK=>?_;go_simp)
      all_goals
       first
        |(have hNP:=De;clear hNP)
        |(refine stA (i:=7) λK hK=>?_;go_simp)
       refine(AQ vN F1 _ (hN1.weaken (az _)) hI1.good (iY.2 hI1.ne) (by omega)).mono ?_;rintro e WB ⟨Yn,F2,g2,rfl,TC,hI2,hS2,hC2,hE2,hl2,YN⟩;obtain⟨aN,cN,rfl⟩:=TC.slice;have hval:=Oo WG WE HL0.out HL1.out hS1 hI2 hS2 hC2 hE2;obtain⟨SB,NK,hSw⟩:∃SB:Nat->Prop,oP SB (λW=>eX W 0 (.slice aN (List.length F2) cN) F2) WB/\∀b,SB b->W.heap.size<=b/\wr.heap.size<=b:=⟨λb=>W.heap.size<=b/\b<WB.heap.size,TC.sup (λb hb=>hb.2) (λb h1 h2=>⟨h1,h2⟩),λb hb=>⟨hb.1,bU iF.size hb.1⟩⟩;(try have hpb:∀b,SB b->b≠p:=λb hb e=>by have h1:=bG hP;have h2:=(hSw b hb).1;omega);have hSr:∀b,SB b->wr.heap.size<=b:=λb hb=>(hSw b hb).2
       clear hSw TC;replace iF:=ay iF YN;(try replace hP:WB.heap[p]?=some (.cells #[.slice none 0 0] 28 (0,0)):=by rw[YN.block _ (bG hP)];exact hP);clear YN;obtain⟨W,rfl⟩:∃W,W=WB:=⟨_,rfl⟩;have ae:=pq _ iF;refine hK.out _ _ (λ_=>ae) ?_;clear hK K;(try simp only[nP])
      (refine stA (i:=8) λK hK=>?_;go_simp);have NB:Ext W (W.alloc (.cells #[.slice none 0 0] 28)):=(by go_grown);have hP:(W.alloc (.cells #[.slice none 0 0] 28)).heap[W.heap.size]?=some (.cells #[.slice none 0 0] 28 (0,0)):=heap_alloc_new _ _;have hpz:wr.heap.size<=W.heap.size:=iF.size;(try have hpb:∀b,SB b->b≠W.heap.size:=λb hb e=>by have:=NK.1 b hb;omega);(try replace hN1:=hN1.ext NB);(try replace NK:=NK.ext NB);replace iF:=ay iF NB;clear NB;have ae:=pq _ iF;generalize W.alloc (.cells #[.slice none 0 0] 28)=W1 at *;generalize W.heap.size=p at *;obtain⟨W,rfl⟩:∃W,W=W1:=⟨_,rfl⟩;refine hK.out _ _ (λ_=>ae) ?_;clear hK K;(try simp only[nP])
      all_goals
       have cP:=cell_of_row W p 0 _ _ _ hP;have fP:=frozen_of_row W p 0 _ _ hP;have hP2:=heap_setCell_same W p 0 _ _ (.slice aN (List.length F2) cN) hP;have HR:=aH (And.intro hP2 (And.intro (iF.setCell (p:=⟨p,0,none⟩) hpz (.slice aN (List.length F2) cN)) (NK.keep (gI (p:=⟨p,0,none⟩) (v:=.slice aN (List.length F2) cN)) hpb)));have HT:=aH (And.intro hval (bz.Gn GX.out hval));clear hP hP2 NK hval;refine Yq [9] [_] ?_;go_wp2_with fail
       go_meet
       exact⟨p,aN,cN,F2,rfl,hpz,HR.out.1,HR.out.2.1,HT.out.1,HT.out.2,HR.out.2.2.mono (λb hb=>⟨hSr b hb,HR.out.2.2.1 b hb,hpb b hb⟩) (λb hb=>hb.2.1) (λ_ h=>h)⟩
     case rest=>
      obtain⟨p,aN,cN,F,rfl,hpz,hP,NA,DK,NM,Gc⟩:=hcut;have hpI:¬kR px vt vf p:=λk=>by have:=hV.tb.uK k;omega
      have hX1:=(hV.tb.ext NA).tx;have hVc:=hV.ext NA;have afB:=aH hV.tb.law;have TE:L'.length<=1000000:=(by have:=hV.tb.len;omega);have ahy:=aH hV.tb.nod;obtain⟨Lt,hLt⟩:∃Lt,Lt=L'.map (·.1):=⟨_,rfl⟩;obtain⟨Lf,hLf⟩:∃Lf,Lf=L'.map (·.2):=⟨_,rfl⟩;rw[<-hLt,<-hLf]at hX1;have hnT:Lt.length<=1000000:=(by rw[hLt];simpa using TE);have hnF:Lf.length<=1000000:=(by rw[hLf];simpa using TE);have dK:=aH hLt;have HLF:=aH hLf;clear hLt hLf;obtain⟨aT2,cT2,rfl,acm,_⟩:=bD hX1.texts;obtain⟨xsF,SE,Ve⟩:=hX1.forms;obtain⟨Qp,PW,rfl,Zm,_⟩:=bD SE;have b0:=cell_of_row wc px 1 _ _ _ hX1.cells;have Wz:=aH hV;have Kq:=aH hX1;have hto:=hX1.texts;have hap:=hX1.kX;have hcl:=hX1.cells;have HT:=aH DK;clear hX1 hV DK Ve SE hB0 hB1 hown0 hown1 Pp Zb WG WE hbl;go_upto_region 17 with(at_builtin;(refine bQ rfl (.tmp 84) (.tmp 86) 22 rfl 0 9 i1 (.string ⟨#[]⟩) 1 16 underlying22 hi1 hy0 hy1 hy2 rfl (by decide) (.slice aT2 Lt.length cT2) Lt.length (Lt.map Value.string) rfl (hto.alloc _) _ 1 _ [.string tb] rfl rfl (.inr ⟨_,rfl,cK (bP _ _ _)⟩) (by intro u hu;simp at hu;subst hu;rfl) (by unfold maxLen;omega) (by omega) (az _) ?_;intro v5 w5 fI hg5 hl5;obtain⟨a5,c5,rfl,-⟩:=bD fI;obtain⟨XT,Ke,b5,f5⟩:=Kq.out.text fI hg5 hl5))
      generalize w5.setCell ⟨px,1,none⟩ (.slice a5 (Lt.length+1) c5)=W5 at *;have hzp:=bG hP;have hz0:=NA.size;have Ww:W5.heap[p]?=some (.cells #[.slice aN (List.length F) cN] 28 (0,0)):=(by rw[Ke.block hzp hpI];exact hP);have hIw:∀b,kR px (.slice aT2 Lt.length cT2) (.slice Qp Lf.length PW) b->b<wr.heap.size:=λb hb=>Wz.out.tb.uK hb
      have abE:=Ke.sup Gc (λb hb k=>by have:=hIw b k;omega);obtain⟨xsF,SE,Ve⟩:=XT.forms
      have pq:∀W:World,Ext W5 W->W.cell? ⟨px,2,none⟩=some (.slice Qp Lf.length PW)/\W.cell? ⟨p,0,none⟩=some (.slice aN (List.length F) cN):=λW hW=>
       ⟨cell_of_row W px 2 _ _ _ (by rw[hW.block _ (bG XT.cells)];exact XT.cells),cell_of_row W p 0 _ _ _ (by rw[hW.block _ (bG Ww)];exact Ww)⟩
      have hxd:Ext W5 W5.drew:=⟨rfl,rfl,rfl,ai _,λ_ _=>rfl⟩;have Pv:=XT.ext hxd;have hGd:=TG.ext (px:=px) (vt:=.slice a5 (Lt.length+1) c5) (vf:=.slice Qp Lf.length PW) (S:=S') hxd;have hod:=dn SE hxd;have hid:=Ve.ext hxd;have hsd:=abE.ext hxd;have TA:W5.drew.heap[p]?=some (.cells #[.slice aN (List.length F) cN] 28 (0,0)):=Ww;have Qt:=aH Ke;clear hP Gc abE Ww XT Ke SE Ve fI hg5 hl5 b5 f5 hto hap hcl b0 hVc;refine lD (λW=>W.cell? ⟨px,2,none⟩=some (.slice Qp Lf.length PW)/\W.cell? ⟨p,0,none⟩=some (.slice aN (List.length F) cN)) [8,9,10] (by kernel_rfl) (pq _ hxd) (λae=>?_);(refine kW 0 ae ?_;refine kW 1 ae ?_;refine kW 2 ae ?_;refine kW 3 ae ?_;refine kW 4 ae ?_;refine kW 5 ae ?_);(refine stA (i:=6) λK hK=>?_;go_simp);have hx6:Ext W5.drew (W5.drew.alloc (.cells #[.slice aN (List.length F) cN] 28)):=(by go_grown);have ae:=pq _ (ay hxd hx6);refine hK.out _ _ (λ_=>ae) ?_;clear hK K;(try simp only[nP]);refine stA (i:=7) λK hK=>?_
      refine iA rfl (.tmp 94) (.tmp 96) 47 rfl 0 28 i0 (.agg #[.slice none 0 0]) 1 24 underlying47 hi0 hz0' hz1 hz2 rfl (by decide) (.slice Qp Lf.length PW) Lf.length xsF rfl (dn hod hx6) _ 1 _ [.slice aN (List.length F) cN] rfl rfl (.inr ⟨_,rfl,cK (bP _ _ _)⟩) (by intro u hu;simp at hu;subst hu;rfl) (by unfold maxLen;omega) (by omega) (az _) ?_;intro v7 w7 Hd Hf Y5;obtain⟨a7,c7,rfl,-⟩:=bD Hd;have Kh:oP (λb=>wr.heap.size<=b/\b<wc.heap.size/\b≠p) (λW=>pK W [.slice aN (List.length F) cN] F) W5.drew:=hsd.mono (λ_ h=>h) hsd.1 (λW h=>⟨aN,cN,rfl,h⟩);have Wy:∀b,kR px (.slice a5 (Lt.length+1) c5) (.slice Qp Lf.length PW) b->kR px (.slice aT2 Lt.length cT2) (.slice Qp Lf.length PW) b\/wc.heap.size<=b:=Qt.out.ins;obtain⟨hX7,Kb,hi7,b7,f7⟩:=Pv.form hid Hd Hf Y5 Kh (λb hb k=>by
       rcases Wy b k with k|k
       .have:=hIw b k;omega
       .omega)
      have hz5:=Qt.out.keep.size;have hzd:W5.drew.heap.size=W5.heap.size:=rfl;have hIp:¬kR px (.slice a5 (Lt.length+1) c5) (.slice Qp Lf.length PW) p:=λk=>by
       rcases Wy p k with k|k
       .exact hpI k
       .omega
      have hnx:p≠px:=λe=>hpI (.inl e)
      have afW:(W5.drew.alloc (.cells #[.slice aN (List.length F) cN] 28)).grownBy w7 (Value.slice Qp Lf.length PW).ownBlock:=Hf;have GG:=((((Wz.out.tg.trans (TG.ext NA)).trans Qt.out).trans hGd).trans (⟨Kb,hi7,λ_ h=>h,λ_ h=>.inl h⟩:TG W5.drew (w7.setCell ⟨px,2,none⟩ (.slice a7 (Lf.length+1) c7)) px (.slice a5 (Lt.length+1) c5) (.slice Qp Lf.length PW) S' (.slice a5 (Lt.length+1) c5) (.slice a7 (Lf.length+1) c7) S'));have YI:=Wz.out.tg.keep.size
      have hG8:TG w (w7.setCell ⟨px,2,none⟩ (.slice a7 (Lf.length+1) c7)) px (.slice aT L.length cT) (.slice aF L.length cF) S (.slice a5 (Lt.length+1) c5) (.slice a7 (Lf.length+1) c7) (λb=>S' b\/(wr.heap.size<=b/\b<wc.heap.size/\b≠p)):=
       ⟨GG.keep,GG.ins,λb h=>.inl (GG.s1 b h),λb hb=>hb.elim (GG.s2 b) (λh=>.inr (by omega))⟩
      have hr1:=bG Wz.out.res;have hIr:¬kR px (.slice a5 (Lt.length+1) c5) (.slice Qp Lf.length PW) (w.heap.size):=λk=>by
       rcases Wy _ k with k|k
       .exact Wz.out.p1.1 k
       .omega
      have agv:¬kR px (.slice a5 (Lt.length+1) c5) (.slice a7 (Lf.length+1) c7) (w.heap.size):=λk=>by
       rcases hi7 _ k with k|k
       .exact hIr k
       .omega
      have acC:∀b,S' b\/(wr.heap.size<=b/\b<wc.heap.size/\b≠p)->b≠w.heap.size:=λb hb e=>by
       rcases hb with h|h
       .exact Wz.out.p1.2 (by rw[<-e];exact h)
       .omega
      have hR7:(w7.setCell ⟨px,2,none⟩ (.slice a7 (Lf.length+1) c7)).heap[w.heap.size]?=some (.cells #[.slice none 0 0] 28 (0,0)):=by
       rw[Kb.block _ (by omega) hIr];show W5.heap[w.heap.size]?=_;rw[Qt.out.block (by omega) Wz.out.p1.1,NA.block _ hr1];exact Wz.out.res
      have hP7:(w7.setCell ⟨px,2,none⟩ (.slice a7 (Lf.length+1) c7)).heap[p]?=some (.cells #[.slice aN (List.length F) cN] 28 (0,0)):=by
       rw[Kb.block _ (by omega) hIp];exact TA
      have ae:w7.cell? ⟨px,2,none⟩=some (.slice Qp Lf.length PW)/\w7.cell? ⟨p,0,none⟩=some (.slice aN (List.length F) cN):=⟨b7,by
       have e:w7.heap[p]?=some (.cells #[.slice aN (List.length F) cN] 28 (0,0)):=by
        rw[<-hP7,heap_setCell_other _ _ _ _ hnx]
       exact cell_of_row w7 p 0 _ _ _ e⟩
      have Ql:=(hsd.keep Kb (λb hb k=>by
       rcases Wy b k with k|k
       .have:=hIw b k;omega
       .omega))
      have HX7:=aH hX7;have HG8:=aH hG8;have HSF:=aH Ql;clear hX7 hG8 Ql GG hsd Kh hod hid Pv hGd Hd Hf afW Y5 Wz Kb hi7;have c9:=cell_of_row _ p 0 _ _ _ hP7;have r9:=cell_of_row _ (w.heap.size) 0 _ _ _ hR7;have g9:=frozen_of_row _ (w.heap.size) 0 _ _ hR7;have HH:=aH (heap_setCell_same _ (w.heap.size) 0 _ _ (.slice aN (List.length F) cN) hR7);refine hK.out _ _ (λ_=>ae) ?_;clear hK K;(try simp only[nP]);refine Yq [8,9,10] [_,_,_] ?_;go_upto_region 18 with fail
      generalize w7.setCell ⟨px,2,none⟩ (.slice a7 (Lf.length+1) c7)=W9 at *;clear b7 f7 ae hP7 hR7;go_wp2
      (try simp only[Exit.inBlock,Exit.then]);refine bodyPost_ret (results_cell_row rfl _ _ (w.heap.size) 28 #[.slice aN (List.length F) cN] (0,0) _ rfl HH.out underlying28 rfl (by kernel_rfl)) rfl ?_;have hk9:=gI (w:=W9) (p:=⟨w.heap.size,0,none⟩) (v:=.slice aN (List.length F) cN);refine⟨_,F,_,_,_,L'++[(tb,F)],rfl,(HSF.out.mono (λb hb=>.inr hb) (λb hb=>HX7.out.Q5 hb) (λ_ h=>h)).keep hk9 (λb hb e=>?_),HT.out,NM,?_,HG8.out.set (p:=⟨w.heap.size,0,none⟩) (ai _) _,λx hx=>?_⟩
      .exact acC b hb e
      .have e1:(L'++[(tb,F)]).map (·.1)=Lt++[tb]:=by rw[aU,<-dK.out];rfl
       have e2:(L'++[(tb,F)]).map (·.2)=Lf++[F]:=(by rw[aU,<-HLF.out];rfl);have hX:=HX7.out;rw[<-e1,<-e2]at hX;refine(hX.tb (λx hx=>?_) ?_).keep hk9 (λb hb e=>agv (by rw[<-show b=w.heap.size from e];exact hb)) (λb hb e=>acC b hb e)
       .rcases aK.1 hx with h|h
        .exact afB.out x h
        .simp only[eH]at h
         subst h;exact⟨GX.out,H7.out,HT.out,NM⟩
       .rw[aU]
        refine kT.2 ⟨ahy.out,by simp,λa ha b hb e=>?_⟩;simp only[eZ,lU,eH]at hb;obtain⟨x,hx,rfl⟩:=aI.1 ha;rw[hb]at e;rcases Xm.out x hx with k|k
        .exact ahA.out x k e
        .rw[e]at k;omega
      .rcases aK.1 hx with h|h
       .rcases Xm.out x h with k|k
        .exact .inl k
        .exact .inr (by omega)
       .simp only[eH]at h
        subst h;exact .inr (ai _)
end Go.Proofs.YteknjeohbcgpdaaGreatDoor