/-
  Contract of the reference's book of boards: part, given value at fewer cells.
-/
import Derived.Test.YteknjeohbcgpdaaGreatDoorK37
import Derived.Test.YteknjeohbcgpdaaGreatDoorK38
set_option maxRecDepth 100000
namespace Go.Proofs.YteknjeohbcgpdaaGreatDoor
open Tryz
open Go.RowKit
open bO (dH Nd vl Same Gm Canon iO Ge fw GB fD fr gB gX kB iM)
variable {m n:Nat}
theorem J8:(prog.info? 9).map (λi=>(i.zero,i.size,i.bytes))=some (some (.string ⟨#[]⟩),1,16):=by kernel_rfl
theorem FW:(prog.info? 28).map (λi=>(i.zero,i.size,i.bytes))=some (some (.agg #[.slice none 0 0]),1,24):=by kernel_rfl
def XB(b:fw)(c px:Nat)(vt vf:Value)(S:Nat->Prop)(L:List (ByteArray × dH))(w:World)(e:Ending)(w':World):Prop:=
 ∃vN F Cn Co S' L',e=.returned (.agg #[vN])/\nN S' (λW=>fu W 0 vN F) w'/\fO F (gB (fr b))/\F.length<=kB (gX b)/\TB w' px Cn Co S' L'/\TG w w' px vt vf S Cn Co S'/\L'.length<=L.length+c
def VOk(m:Nat):Prop:=∀(ss:List ByteArray) (hh ww:Nat) (vu:Value) (px:Nat) (vt vf:Value) (S:Nat->Prop) (L:List (ByteArray × dH)) (w:World),gX (bd ss)<=m->gX (bd ss)<=9->GB (bd ss) hh ww->nN (aai w px vt vf) (λW=>Strs W vu ss) w->TB w px vt vf S L->L.length+kB (gX (bd ss))<=1000000->
 Calls prog 38 #[.pointer (some ⟨px,0,none⟩),.agg #[vu]] w (XB (bd ss) (kC (gX (bd ss))) px vt vf S L w)
def POk(m:Nat):Prop:=∀(ss:List ByteArray) (hh ww:Nat) (vu:Value) (px:Nat) (vt vf:Value) (S:Nat->Prop) (L:List (ByteArray × dH)) (w:World),gX (bd ss)<=m->gX (bd ss)<=9->GB (bd ss) hh ww->nN (aai w px vt vf) (λW=>Strs W vu ss) w->TB w px vt vf S L->L.length+kB (gX (bd ss))<=1000000->
 Calls prog 77 #[.pointer (some ⟨px,0,none⟩),.agg #[vu]] w (XB (bd ss) (kB (gX (bd ss))) px vt vf S L w)
theorem YH{k:Nat}(hm:m+1<=2*n)(h2:2<=n)(hk:k<=kB (n-2)):m*kB (n-2)+k+1<=kB n:=by
 obtain⟨q,rfl⟩:∃q,n=q+2:=⟨n-2,by omega⟩;rw[qj]at hk ⊢;have:=gZ (kB q) hm;rw[kS]at this;rw[kB];omega
theorem abK{l r:Nat}(hl:l<=n)(hr:r<=n)(h0:n<2->l=0/\r=0)(hm:m=l+r):m*kB (n-2)+1<=kB n:=by
 subst hm;exact OP hl hr h0 (ay _)
set_option maxHeartbeats 4000000 in
theorem Qr(m:Nat)(ih:∀k,k<m->VOk k):POk m:=by
 intro ss hh ww vu px vt vf S L w hm XL g hv hB hroom;obtain⟨i0,hi0,hz0',hz1,hz2⟩:=info_parts FW;obtain⟨i1,hi1,hy0,hy1,hy2⟩:=info_parts J8;obtain⟨au,wu,rfl,hlc,hcap⟩:=hv.out.open;have U6:=bO.kB_9 XL;have hcl0:=zt g true;have Cc:=zt g false;have HC0:=aQ (And.intro hcl0 (And.intro Cc (And.intro (λh=>xc g true h) (λh=>xc g false h))));have HN9:=aQ XL;obtain⟨nB,XK⟩:∃nB,nB=gX (bd ss):=⟨_,rfl⟩;rw[<-XK]at hm hroom U6 HC0 HN9;clear hcl0 Cc XL;go_enter Tryz.func77,Tryz.ntmps77
 go_upto_region 1 with fail
 have hxe:Ext w ((w.alloc (.cells #[.slice au ss.length wu] 31)).alloc (.cells #[.slice none 0 0] 28)):=by go_grown
 have hbx:((w.alloc (.cells #[.slice au ss.length wu] 31)).alloc (.cells #[.slice none 0 0] 28)).heap[w.heap.size]?=some (.cells #[.slice au ss.length wu] 31 (0,0)):=by
  rw[Below.heap_alloc _ _ _ (by simp)];exact heap_alloc_new _ _
 have hrs:((w.alloc (.cells #[.slice au ss.length wu] 31)).alloc (.cells #[.slice none 0 0] 28)).heap[w.heap.size+1]?=some (.cells #[.slice none 0 0] 28 (0,0)):=by
  have h:=heap_alloc_new (w.alloc (.cells #[.slice au ss.length wu] 31)) (.cells #[.slice none 0 0] 28);rw[eQ]at h;exact h
 generalize (w.alloc (.cells #[.slice au ss.length wu] 31)).alloc (.cells #[.slice none 0 0] 28)=We at *;have c0:=cell_of_row We w.heap.size 0 _ _ _ hbx;go_upto_region 3 with(go_at_call 128;refine(JX _ ss hh ww _ (hv.ext hxe).out g).mono ?_;rintro e W0 ⟨tb,rfl,htb,hxt⟩)
 replace hbx:=(hxt.block _ (bu hbx)).trans hbx;replace hrs:=(hxt.block _ (bu hrs)).trans hrs;replace hxe:=ax hxe hxt;have HT3:=aQ htb;clear hxt htb c0;have HZW:=aQ (show w.heap.size+2<=W0.heap.size by have:=bu hrs;omega);have hB0:=hB.ext hxe;have hv0:=hv.ext hxe;have hcx:=cell_of_row W0 px 0 _ _ _ hB0.cells;have hcy:=cell_of_row W0 px 1 _ _ _ hB0.cells;obtain⟨aT,cT,rfl,hcT,afK⟩:=bH hB0.texts;obtain⟨xsF,UY,XN⟩:=hB.forms;have UY:=bY UY hxe;obtain⟨aF,cF,rfl,O8,acz⟩:=bH UY;go_loop [6] (λii=>∃q,q<=L.length/\ii=.int .i64 ((q:Nat):Int)/\Hid (∀j (h:j<L.length),j<q->(L[j]).1≠tb)) (λii=>L.length-(intOf ii).toNat)
 case atStart=>exact⟨0,aJ _,rfl,λj _ h=>absurd h (by omega)⟩
 case round=>
  obtain⟨q,hq,rfl,HN⟩:=hrel;by_cases hlt2:q<L.length
  .have h2:((q:Nat):Int)<(L.length:Int):=by omega
   obtain⟨gT,cT',he,-,-,Vh⟩:=gV hB0.texts (by omega);simp only[Value.slice.injEq]at he;obtain⟨rfl,-,rfl⟩:=he;have ct:=Vh q (by omega);rw[dm,aa hlt2,jP]at ct;clear Vh;by_cases heq:(L[q]).1=tb
   .have aqQ:((L[q]).1.toList == tb.toList)=true:=(Lib.bytes_beq_iff _ _).2 heq
    obtain⟨b',h',w',g',hx1,-,hV',hl'⟩:=hB0.law _ (ai hlt2);have hun:b'=bd ss:=g'.inj g (by rw[<-hx1,heq,HT3.out]);subst hun;have hlF:(L.map (·.2)).length=L.length:=(by simp);obtain⟨gF,cF',he,-,-,Vi⟩:=gV UY (by omega);simp only[Value.slice.injEq]at he;obtain⟨rfl,-,rfl⟩:=he;obtain⟨aN,cN,e1,hN1⟩:=XN.2.out q (by simpa using hlt2);have cf:=Vi q (by omega);rw[CV e1]at cf;simp only[fT]at cf hN1;have aaB:nN S (λW=>fu W 0 (.slice aN (L[q]).2.length cN) (L[q]).2) w:=⟨XN.2.1,λw2 h2=>by
     obtain⟨aN',cN',e1',agm⟩:=XN.2.2 w2 h2 q (by simpa using hlt2);rw[e1]at e1';simp only[fT,jQ,Value.slice.injEq,true_and,and_true]at e1' agm;obtain⟨rfl,rfl⟩:=e1';exact agm⟩
    have cr0:=cell_of_row W0 (w.heap.size+1) 0 _ _ _ hrs;have fr0:=frozen_of_row W0 (w.heap.size+1) 0 _ _ hrs;have HH:Hid ((W0.setCell ⟨w.heap.size+1,0,none⟩ (.slice aN (L[q]).2.length cN)).heap[w.heap.size+1]?=some (.cells #[.slice aN (L[q]).2.length cN] 28 (0,0))):=heap_setCell_same _ _ _ _ _ _ hrs;have HV:=aQ (And.intro hV' (And.intro hl' aaB));have HQ:=aQ heq;clear heq hx1 hV' hl' aaB hN1 e1 Vi hlF;go_wp2
    (try simp only[Exit.inBlock,Exit.then]);refine bodyPost_ret (results_cell_row rfl _ _ (w.heap.size+1) 28 #[.slice aN (L[q]).2.length cN] (0,0) _ rfl HH.out underlying28 rfl (by kernel_rfl)) rfl ?_;have IM:Ext w (W0.setCell ⟨w.heap.size+1,0,none⟩ (.slice aN (L[q]).2.length cN)):=hxe.setCell (p:=⟨w.heap.size+1,0,none⟩) (by show w.heap.size<=w.heap.size+1;omega) _;exact⟨_,(L[q]).2,_,_,S,L,rfl,HV.out.2.2.ext IM,HV.out.1,HV.out.2.1,hB.ext IM,TG.ext IM,Nat.le_add_right _ _⟩
   .have hne:((L[q]).1.toList == tb.toList)=false:=(Lib.bytes_beq_false_iff _ _).2 heq
    have HQ:=aQ heq;clear heq;go_wp2
    go_round
    case rel=>exact⟨q+1,by omega,by go_num,λj hj hjq=>by
     by_cases e:j=q
     .subst e;exact HQ.out
     .exact HN.out j hj (by omega)⟩
    case measure=>simp[intOf];omega
  .have h2:¬(((q:Nat):Int)<(L.length:Int)):=by omega
   have hqe:q=L.length:=(by omega);go_wp2
   clear hcx hcy h2;subst hqe;have hW0:=HZW.out;obtain⟨f,hf⟩:∃f:Nat->Value,f=λp=>if p=0 then .slice (some ⟨W0.heap.size,0,none⟩) 0 0 else .slice (some ⟨W0.heap.size+1,0,none⟩) 0 0:=⟨_,rfl⟩
   have hVM:VM w (((W0.alloc (.cells #[] 28)).alloc (.cells #[] 28)).alloc (.cells #[.slice (some ⟨W0.heap.size,0,none⟩) 0 0,.slice (some ⟨W0.heap.size+1,0,none⟩) 0 0] 47)) px (.slice aT L.length cT) (.slice aF L.length cF) S L (.cells #[.slice au ss.length wu] 31 (0,0)) (λq=>iM (q == 0) (bd ss) ww hh) (kB (nB-2)) (W0.heap.size+1+1) (.slice aT L.length cT) (.slice aF L.length cF) S L f (λ_=>[]):=by
    have hx3:Ext W0 (((W0.alloc (.cells #[] 28)).alloc (.cells #[] 28)).alloc (.cells #[.slice (some ⟨W0.heap.size,0,none⟩) 0 0,.slice (some ⟨W0.heap.size+1,0,none⟩) 0 0] 47)):=(by go_grown);have hI:∀b,kD px (.slice aT L.length cT) (.slice aF L.length cF) b->b<w.heap.size:=λb=>hB.vJ
    have hS:∀b,S b->b<w.heap.size:=λb=>hB.Tf
    have hf0:f 0=.slice (some ⟨W0.heap.size,0,none⟩) 0 0:=(by rw[hf];rfl);have hf1:f 1=.slice (some ⟨W0.heap.size+1,0,none⟩) 0 0:=(by rw[hf];rfl);have hz3:(((W0.alloc (.cells #[] 28)).alloc (.cells #[] 28)).alloc (.cells #[.slice (some ⟨W0.heap.size,0,none⟩) 0 0,.slice (some ⟨W0.heap.size+1,0,none⟩) 0 0] 47)).heap.size=W0.heap.size+3:=(by simp);have hss:∀b,SS (W0.heap.size+1+1) f b->w.heap.size+1<b/\b<W0.heap.size+3:=λb hb=>by
     rcases hb with hb|hb|hb
     .omega
     .rw[hf0]at hb;simp[Value.ownBlock]at hb;omega
     .rw[hf1]at hb;simp[Value.ownBlock]at hb;omega
    refine⟨hB.ext (ax hxe hx3),TG.ext (ax hxe hx3),?_,?_,?_,λq hq=>⟨[],?_,Items.nil (λb hb=>by have:=hS b hb;omega)⟩,λq hq=>?_,λb hb e=>?_,⟨λk=>by have:=hI _ k;omega,λk=>by have:=hS _ k;omega⟩,⟨λk=>by have:=hI _ k;omega,λk=>by have:=hS _ k;omega⟩,λb hb=>⟨λk=>by have:=hI _ k;have:=hss b hb;omega,λk=>by have:=hS _ k;have:=hss b hb;omega⟩,λb hb=>by rw[hz3];exact hss b hb,λq hq=>uC.nil _ _⟩
    .rw[hx3.block _ (bu hbx)];exact hbx
    .rw[hx3.block _ (bu hrs)];exact hrs
    .rw[hf0,hf1]
     have h:=heap_alloc_new ((W0.alloc (.cells #[] 28)).alloc (.cells #[] 28)) (.cells #[.slice (some ⟨W0.heap.size,0,none⟩) 0 0,.slice (some ⟨W0.heap.size+1,0,none⟩) 0 0] 47);rw[eQ,eQ]at h;exact h
    .rcases ME hq with rfl|rfl
     .rw[hf0]
      exact((fZ W0 w.heap.size (by omega) 28).alloc _).alloc _
     .rw[hf1]
      exact(lH W0 (.cells #[] 28) w.heap.size (by omega) 28).alloc _
    .rcases ME hq with rfl|rfl
     .rw[hf0];simp[Value.ownBlock] <;> omega
     .rw[hf1];simp[Value.ownBlock] <;> omega
    .rw[hf0]at hb;rw[hf1]at e;simp[Value.ownBlock]at hb e;omega
   have hsl:Value.slice (some ⟨W0.heap.size+1+1,0,none⟩) 2 2=.slice (some ⟨W0.heap.size+1+1,0,none⟩) 2 2:=rfl;generalize hWW:((W0.alloc (.cells #[] 28)).alloc (.cells #[] 28)).alloc (.cells #[.slice (some ⟨W0.heap.size,0,none⟩) 0 0,.slice (some ⟨W0.heap.size+1,0,none⟩) 0 0] 47)=W1 at *;generalize W0.heap.size+1+1=bs at *;clear hsl hWW hf hW0;clear hxe hbx hrs hB0 hv0 hcT O8 afK acz UY XN HN;generalize hX0:(Obj.cells #[.slice au ss.length wu] 31 (0,0))=X0 at hVM;generalize afP:(λq:Nat=>iM (q == 0) (bd ss) ww hh)=bl at hVM;generalize afs:kB (nB-2)=kk at hVM;have HKK:=aQ afs;have HBL:=aQ afP;clear afs afP;go_loopw [8] (λsi wr=>∃s vt vf S' L' f Fs,s<=2/\si=.int .i64 ((s:Nat):Int)/\VM w wr px (.slice aT L.length cT) (.slice aF L.length cF) S L X0 bl kk bs vt vf S' L' f Fs/\L'.length<=L.length+((Fs 0).length+(Fs 1).length)*kk/\Hid (∀q,q<2->(Fs q).length=if q<s then(bl q).length else 0)) (λsi _=>2-(intOf si).toNat)
   case atStart=>exact⟨0,_,_,S,L,f,λ_=>[],by omega,rfl,hVM,by omega,λq _=>rfl⟩
   case round=>
    clear hVM f;obtain⟨s,vt,vf,S',L',f,Fs,hs,rfl,hV,XU,HF⟩:=hrel;by_cases hlt3:s<2
    .have h3:((s:Nat):Int)<2:=by omega
     have hvr:=(hV.tg.sup hv (λb hb=>hb.2)).out;have jF:wr.heap[w.heap.size]?=some (.cells #[.slice au ss.length wu] 31 (0,0)):=(by rw[hX0];exact hV.box);have cb0:=cell_of_row wr w.heap.size 0 _ _ _ jF;obtain⟨Ts,hTs⟩:∃Ts,Ts=iM (((s:Nat):Int)== 0) (bd ss) ww hh:=⟨_,rfl⟩;have Sa:=aQ hTs;clear hTs;go_wp2_with (go_at_call 129;refine(G8 _ ss hh ww _ _ hvr g).mono ?_;rintro e w1 ⟨vC,rfl,IQ,hx1⟩;rw[<-Sa.out]at IQ;have hV1:=hV.ext hx1;obtain⟨xsC,aC,cC,rfl,hcC,aq7,-⟩:=id IQ)
     have hleft:bl s=Ts:=by
      have e1:(((s:Nat):Int)== 0)=(s == 0):=by rcases ME hlt3 with rfl|rfl <;> rfl
      rw[Sa.out,e1,<-HBL.out]
     have XR:∀b,(wr.heap.size<=b/\b<w1.heap.size)->¬kD px vt vf b/\¬SS bs f b:=λb hb=>⟨λk=>by have:=hV.tb.vJ k;omega,λk=>by have:=(hV.gt b k).2;omega⟩
     have HTL:=aQ (show(bl s).length=Ts.length by rw[hleft]);have HCT:=aQ hleft;have hF0:(Fs s).length=0:=(by rw[HF.out s hlt3,if_neg (by omega)]);clear hleft hV cb0 hvr hx1 jF;obtain⟨wo,rfl⟩:∃wo:World,wo=wr:=⟨_,rfl⟩;go_loopw [10] (λii w2=>∃i RN RO S2 L2 f2 Ez,i<=Ts.length/\ii=.int .i64 ((i:Nat):Int)/\VM w w2 px (.slice aT L.length cT) (.slice aF L.length cF) S L X0 bl kk bs RN RO S2 L2 f2 Ez/\L2.length<=L.length+((Ez 0).length+(Ez 1).length)*kk/\(Ez s).length=i/\Hid (∀q,q<2->q≠s->Ez q=Fs q)/\Rows uM 1 (λb=>wo.heap.size<=b/\b<w1.heap.size) w2 (.slice aC Ts.length cC) Ts/\(∀b,(wo.heap.size<=b/\b<w1.heap.size)->¬kD px RN RO b/\¬SS bs f2 b)/\w1.heap.size<=w2.heap.size) (λii _=>Ts.length-(intOf ii).toNat)
     case atStart=>exact⟨0,vt,vf,S',L',f,Fs,aJ _,rfl,hV1,XU,hF0,λ_ _ _=>rfl,IQ,XR,ay _⟩
     case round=>
      clear hV1 IQ XR hF0 XU;obtain⟨i,RN,RO,S2,L2,f2,Ez,hi,rfl,hV2,hL2,IU,HFo,IQ,XR,apV⟩:=hrel;obtain⟨w2,rfl⟩:∃w2:World,w2=wr:=⟨_,rfl⟩;by_cases aca:i<Ts.length
      .have h4:((i:Nat):Int)<(Ts.length:Int):=by omega
       go_wp2_with fail
       obtain⟨bC,agS,aU,cU,sk,he,hTb,cl,hbd,R4⟩:=IQ.Ad aca;simp only[Value.slice.injEq]at he;obtain⟨rfl,-,rfl⟩:=he;obtain⟨xs,hown,hit⟩:=hV2.row s hlt3;obtain⟨af,cf,hfs,hcf,_⟩:=bH hown;have cs:∀W:World,W.heap[bs]?=some (.cells #[f2 0,f2 1] 47 (0,0))->W.cell? ⟨bs,s,none⟩=some (.slice af (Ez s).length cf):=λW hW=>by
        rw[cell_of_row W bs s _ _ _ hW,<-hfs];rcases ME hlt3 with rfl|rfl <;> rfl
       have ard:(bl 0).length<=nB/\(bl 1).length<=nB/\(nB<2->(bl 0).length=0/\(bl 1).length=0):=by
        rw[<-HBL.out];exact⟨HC0.out.1,HC0.out.2.1,λh=>⟨HC0.out.2.2.1 h,HC0.out.2.2.2 h⟩⟩
       have htot:(Ez 0).length+(Ez 1).length+1<=2*nB/\2<=nB:=by
        have hl:=HTL.out;rcases ME hlt3 with rfl|rfl
        .have e1:=HFo.out 1 (by omega) (by omega);have h0:=HF.out 1 (by omega);rw[e1,h0,IU];simp;omega
        .have e1:=HFo.out 0 (by omega) (by omega);have h0:=HF.out 0 (by omega);rw[e1,h0,IU];simp;omega
       have hi8:i<=9:=by
        have:=HN9.out;have hl:=HTL.out;rcases ME hlt3 with rfl|rfl <;> omega
       have afZ:Ts=iM (s == 0) (bd ss) ww hh:=(by rw[<-HCT.out,<-HBL.out]);have hmem:bd sk∈Ts:=(by rw[hbd];exact ai aca);rw[afZ]at hmem;obtain⟨g',hl'⟩:=rF g hmem;rw[<-XK]at hl';have he1:(bl s)[(Ez s).length]?=some (bd sk):=(by rw[IU,HCT.out,hbd];exact aa aca);have hck:gX (bd sk)=nB-2:=(by omega);have hkk:=HKK.out;have hkr:=YH (k:=kB (gX (bd sk))) htot.1 htot.2 (by rw[hck];exact ay _);have hkm:kC (gX (bd sk))<=kk:=(by rw[<-hkk,<-hck];exact aay _);rw[hkk]at hkr;have aqu:kB (gX (bd sk))=kk:=(by rw[hck,hkk]);clear hkk;have hx0:Ext w2 w2.drew:=⟨rfl,rfl,rfl,ay _,λ_ _=>rfl⟩;have hVd:=hV2.ext hx0;have UU:=bY hown hx0;have afv:=hit.ext hx0;rw[hfs,IU]at UU;have agt:nN (aai w2.drew px RN RO) (λW=>Strs W (.slice aU (List.length sk) cU) sk) w2.drew:=(R4.ext hx0).mono (λb hb=>⟨(R4.ext hx0).1 b hb,(XR b hb).1⟩) (λb hb=>hb.1) (λ_ h=>h);have hzT:∀W:World,(∀b,(wo.heap.size<=b/\b<w1.heap.size)->W.heap[b]?=w2.heap[b]?)->W.cell? ⟨bC,i,none⟩=some (.slice aU (List.length sk) cU):=λW hW=>by
        have e:=hW bC hTb;rw[World.cell?_of_block (w:=w2) e];exact cl
       have hS0:w2.cell? ⟨bs,s,none⟩=some (.slice af i cf)/\w2.cell? ⟨bC,i,none⟩=some (.slice aU (List.length sk) cU):=⟨by rw[cs _ hV2.blk,IU],hzT w2 (λ_ _=>rfl)⟩;rw[IU]at cs;rw[IU]at he1;have HE1:=aQ he1;have PN:=aQ IU;have HFS:=aQ hfs;clear he1 IU hfs cl hbd hmem afZ;refine lq (λW=>W.cell? ⟨bs,s,none⟩=some (.slice af i cf)/\W.cell? ⟨bC,i,none⟩=some (.slice aU (List.length sk) cU)) [14,15] (by kernel_rfl) hS0 (λah=>?_);(refine kM 0 ah ?_;refine kM 1 ah ?_;refine kM 2 ah ?_;refine kM 3 ah ?_;refine kM 4 ah ?_;refine kM 5 ah ?_;refine kM 6 ah ?_;refine kM 7 ah ?_;refine kM 8 ah ?_;refine kM 9 ah ?_;refine kM 10 ah ?_);(refine stA (i:=11) λK hK=>?_;go_simp);refine(ih (gX (bd sk)) (by omega) sk hh ww _ px RN RO S2 L2 _ (ay _) (by have:=HN9.out;omega) g' agt hVd.tb (by omega)).mono ?_;rintro en w3 ⟨vN,F,vt3,vf3,S3,L3,rfl,He,Ev,Pe,hB3,hG3,hL3⟩;obtain⟨aN,cN,rfl⟩:=He.out.slice;have Lp:=hVd.go hB3 hG3;have hT3:∀b,(wo.heap.size<=b/\b<w1.heap.size)->w3.heap[b]?=w2.heap[b]?:=λb hb=>hG3.block (w:=w2.drew) (by show b<w2.heap.size;omega) (XR b hb).1
       have af4:=(IQ.ext hx0).keep hG3.keep (λb hb=>(XR b hb).1);obtain⟨hown3,hit3⟩:=hVd.aet hB3 hG3 hlt3 (by rw[HFS.out,PN.out];exact UU) afv;rw[HFS.out,PN.out]at hown3;have akp:∀b,(wo.heap.size<=b/\b<w1.heap.size)->¬kD px vt3 vf3 b:=λb hb k=>by
        rcases hG3.ins b k with k|k
        .exact(XR b hb).1 k
        .have:w2.drew.heap.size=w2.heap.size:=rfl;omega
       (refine hK.out _ _ (λ_=>?_) ?_)
       .exact⟨cs _ Lp.blk,hzT _ hT3⟩
       clear hK K;(try simp only[nP]);(refine stA (i:=12) λK hK=>?_;go_simp);have hx4:Ext w3 (w3.alloc (.cells #[.slice aN F.length cN] 28)):=(by go_grown);have Q0:=Lp.ext hx4;have hT4:∀b,(wo.heap.size<=b/\b<w1.heap.size)->(w3.alloc (.cells #[.slice aN F.length cN] 28)).heap[b]?=w2.heap[b]?:=λb hb=>by
        have hz3:=hG3.keep.size;have:w2.drew.heap.size=w2.heap.size:=rfl;rw[hx4.block b (by omega)];exact hT3 b hb
       (refine hK.out _ _ (λ_=>?_) ?_)
       .exact⟨cs _ Q0.blk,hzT _ hT4⟩
       clear hK K;(try simp only[nP]);refine stA (i:=13) λK hK=>?_
       refine gY rfl (.tmp 61) (.tmp 68) 47 rfl w.heap.size 28 i0 (.agg #[.slice none 0 0]) 1 24 underlying47 hi0 hz0' hz1 hz2 rfl (by decide) (.slice af i cf) i xs rfl (bY hown3 hx4) _ 1 _ [.slice aN F.length cN] rfl rfl (.inr ⟨_,rfl,dJ (dh _ _ _)⟩) (by intro u hu;simp at hu;subst hu;rfl) (by unfold maxLen;omega) (by omega) (by have:=Q0.tg.keep.size;exact this) ?_;intro v5 w5 iT hg5 hl5;obtain⟨a5,c5,rfl,-⟩:=bH iT;have hap:Value.ownBlock (.slice af i cf)≠some bs:=(by have:=Lp.ap s hlt3;rw[HFS.out,PN.out]at this;exact this);have hss:∀b,Value.ownBlock (.slice af i cf)=some b->SS bs f2 b:=λb hb=>SS.of hlt3 (by rw[HFS.out,PN.out];exact hb)
       have EL:=hx4.size;have hz3:=hG3.keep.size;have hz2:w2.drew.heap.size=w2.heap.size:=rfl;have hb5:w5.heap[bs]?=some (.cells #[f2 0,f2 1] 47 (0,0)):=by
        rw[hg5.block bs (bu Q0.blk) (λe=>hap e.symm)];exact Q0.blk
       have hT5:∀b,(wo.heap.size<=b/\b<w1.heap.size)->w5.heap[b]?=w2.heap[b]?:=λb hb=>by
        rw[hg5.block b (by omega) (λe=>(XR b hb).2 (hss b e.symm))];exact hT4 b hb
       have cbs:=cs _ hb5;have fbs:=frozen_of_row w5 bs s _ _ hb5;have Lv:nN S3 (λW=>pU W [.slice aN F.length cN] F) w3:=He.mono (λ_ h=>h) He.1 (λW h=>⟨aN,cN,rfl,h⟩);have hP:=Lp.push hlt3 (v5:=.slice a5 (i+1) c5) (e:=bd sk) hit3 Lv (by rw[PN.out];exact iT) (by rw[HFS.out,PN.out];exact hg5) (by rw[HFS.out,PN.out];exact hl5) (by rw[PN.out];exact HE1.out) Ev (by omega);have af3:Rows uM 1 (λb=>wo.heap.size<=b/\b<w1.heap.size) (w5.setCell ⟨bs,s,none⟩ (.slice a5 (i+1) c5)) (.slice (some ⟨bC,0,none⟩) Ts.length cC) Ts:=by
        refine af4.keep (G:=SS bs f2) ⟨hg5.os,hg5.tape,hg5.output,by have:=hg5.size;rw[World.size_setCell];omega,λk hk hn=>?_⟩ (λb hb=>(XR b hb).2);rw[heap_setCell_other _ _ _ _ (λe=>hn (.inl e)),hg5.block k (by omega) (λe=>hn (hss k e.symm)),hx4.block k hk]
       have af0:∀b,(wo.heap.size<=b/\b<w1.heap.size)->¬kD px vt3 vf3 b/\¬SS bs (λp=>if p=s then .slice a5 (i+1) c5 else f2 p) b:=λb hb=>⟨akp b hb,λk=>by
        rcases SS.push (wr:=w3.alloc (.cells #[.slice aN F.length cN] 28)) hlt3 (by rw[HFS.out,PN.out];exact hl5) b k with k|k
        .exact(XR b hb).2 k
        .omega⟩
       have UA:w1.heap.size<=(w5.setCell ⟨bs,s,none⟩ (.slice a5 (i+1) c5)).heap.size:=(by have:=hg5.size;rw[World.size_setCell];omega);have hLn:L3.length<=L.length+(((λp=>if p=s then Ez s++[F]else Ez p) 0).length+((λp=>if p=s then Ez s++[F]else Ez p) 1).length)*kk:=by
        have e:((λp=>if p=s then Ez s++[F]else Ez p) 0).length+((λp=>if p=s then Ez s++[F]else Ez p) 1).length=(Ez 0).length+(Ez 1).length+1:=by
         rcases ME hlt3 with rfl|rfl <;> simp <;> omega
        rw[e,kS];omega
       have HR:=aQ (And.intro hP (And.intro af3 (And.intro af0 (And.intro UA hLn))));clear hP af3 af0 UA hLn af4 hit3 hown3 Lp Q0 hVd hT3 hT4 Lv He UU afv agt R4;(refine hK.out _ _ (λ_=>?_) ?_)
       .exact⟨cbs,hzT _ hT5⟩
       clear hK K;(try simp only[nP]);refine tlA [14,15] [_,_] ?_;go_wp2_with fail
       go_roundw
       case rel=>exact⟨i+1,vt3,vf3,S3,L3,_,_,by omega,by go_num,HR.out.1,HR.out.2.2.2.2,by simp[PN.out],λq hq hqs=>by simp only[hqs,if_false];exact HFo.out q hq hqs,HR.out.2.1,HR.out.2.2.1,HR.out.2.2.2.1⟩
       case measure=>simp[intOf];omega
      .have h4:¬(((i:Nat):Int)<(Ts.length:Int)):=by omega
       have HF2:Hid (∀q,q<2->(Ez q).length=if q<s+1 then(bl q).length else 0):=λq hq=>by
        by_cases c:q=s
        .subst c;rw[if_pos (by omega),IU,HTL.out];omega
        .rw[HFo.out q hq c,HF.out q hq]
         by_cases d:q<s
         .rw[if_pos d,if_pos (by omega)]
         .rw[if_neg d,if_neg (by omega)]
       clear IU;go_wp2
       go_roundw
       case rel=>exact⟨s+1,RN,RO,S2,L2,f2,Ez,by omega,by go_num,hV2,hL2,HF2.out⟩
       case measure=>simp[intOf];omega
    .have h3:¬(((s:Nat):Int)<2):=by omega
     have hse:s=2:=(by omega);subst hse;go_wp2
     obtain⟨xs0,hown0,QT⟩:=hV.row 0 (by omega);obtain⟨xs1,hown1,ack⟩:=hV.row 1 (by omega);obtain⟨a0,c0,hf0,hc0,_⟩:=bH hown0;obtain⟨a1,c1,hf1,hc1,_⟩:=bH hown1;have hl0:(Fs 0).length=(iM true (bd ss) ww hh).length:=(by have:=HF.out 0 (by omega);rw[<-HBL.out]at this;simpa using this);have hl1:(Fs 1).length=(iM false (bd ss) ww hh).length:=(by have:=HF.out 1 (by omega);rw[<-HBL.out]at this;simpa using this);have VE:uC (iM true (bd ss) ww hh) (kB (nB-2)) (Fs 0):=(by have:=hV.fs 0 (by omega);rw[<-HBL.out,<-HKK.out]at this;exact this);have VD:uC (iM false (bd ss) ww hh) (kB (nB-2)) (Fs 1):=(by have:=hV.fs 1 (by omega);rw[<-HBL.out,<-HKK.out]at this;exact this);rw[XK]at VE VD;have hsz:=NG g VE VD hl0 hl1;rw[<-XK]at hsz;have hc0:=HC0.out.1;have hc1:=HC0.out.2.1;rw[<-hl0]at hc0;rw[<-hl1]at hc1;have XL:=HN9.out;have hall:((Fs 0).length+(Fs 1).length)*kk+1<=kB nB:=by
      rw[<-HKK.out];exact abK hc0 hc1 (λh=>⟨by rw[hl0];exact HC0.out.2.2.1 h,by rw[hl1];exact HC0.out.2.2.2 h⟩) rfl
     have hbl:=hV.blk;rw[hf0,hf1]at hbl;have hB0:Forms wr (.slice a0 (Fs 0).length c0) (Fs 0):=by
      rw[<-hf0];exact(Rows.eD (T:=λb=>b<wr.heap.size) hown0 rfl QT (λb hb=>QT.2.1 b hb) (λb hb=>(hown0.lt b hb).2) (λ_ h=>h)).forms
     have hB1:Forms wr (.slice a1 (Fs 1).length c1) (Fs 1):=by
      rw[<-hf1];exact(Rows.eD (T:=λb=>b<wr.heap.size) hown1 rfl ack (λb hb=>ack.2.1 b hb) (λb hb=>(hown1.lt b hb).2) (λ_ h=>h)).forms
     have HL0:=aQ hl0;have HL1:=aQ hl1;have ajJ:(Fs 0).length<=9:=(by omega);have hlt1:(Fs 1).length<=9:=(by omega);clear hf0 hf1 hl0 hl1;go_cut [11] (λx wc=>∃p aN cN F,x=.pointer (some ⟨p,0,none⟩)/\wr.heap.size<=p/\wc.heap[p]?=some (.cells #[.slice aN (List.length F) cN] 28 (0,0))/\Ext wr wc/\fO F (gB (fr (bd ss)))/\F.length<=kB (gX (bd ss))/\nN (λb=>wr.heap.size<=b/\b<wc.heap.size/\b≠p) (λW=>fu W 0 (.slice aN (List.length F) cN) F) wc)
     case first=>
      have pF:∀W:World,Ext wr W->W.cell? ⟨bs,0,none⟩=some (.slice a0 (Fs 0).length c0)/\W.cell? ⟨bs,1,none⟩=some (.slice a1 (Fs 1).length c1):=λW hW=>by
       have hb:W.heap[bs]?=some (.cells #[.slice a0 (Fs 0).length c0,.slice a1 (Fs 1).length c1] 47 (0,0)):=(by rw[hW.block _ (bu hbl)];exact hbl);exact⟨cell_of_row W bs 0 _ _ _ hb,cell_of_row W bs 1 _ _ _ hb⟩
      refine lq (λW=>W.cell? ⟨bs,0,none⟩=some (.slice a0 (Fs 0).length c0)/\W.cell? ⟨bs,1,none⟩=some (.slice a1 (Fs 1).length c1)) [9] (by kernel_rfl) (pF _ ⟨rfl,rfl,rfl,ay _,λ_ _=>rfl⟩) (λah=>?_);(refine kM 0 ah ?_;refine kM 1 ah ?_;refine kM 2 ah ?_;refine kM 3 ah ?_;refine kM 4 ah ?_;refine kM 5 ah ?_);have iA:Ext wr wr.drew:=⟨rfl,rfl,rfl,ay _,λ_ _=>rfl⟩;obtain⟨W,hW⟩:∃W,W=wr.drew:=⟨_,rfl⟩;rw[<-hW]at iA ah ⊢;clear hW;have DW:=True.intro;refine yn (i:=6) (j:=8) (by kernel_rfl) ?fa1 ?fb1
      case' fb1=>
       (refine rnA (i:=8) λK hK=>?_;go_simp);have OW:Ext W (W.alloc (.cells #[.slice none 0 0] 28)):=(by go_grown);have hP:(W.alloc (.cells #[.slice none 0 0] 28)).heap[W.heap.size]?=some (.cells #[.slice none 0 0] 28 (0,0)):=heap_alloc_new _ _;have hpz:wr.heap.size<=W.heap.size:=iA.size;(try have hpb:∀b,SB b->b≠W.heap.size:=λb hb e=>by have:=O9.1 b hb;omega);(try replace hN1:=hN1.ext OW);(try replace O9:=O9.ext OW);replace iA:=ax iA OW;clear OW;have ah:=pF _ iA;generalize W.alloc (.cells #[.slice none 0 0] 28)=W1 at *;generalize W.heap.size=p at *;obtain⟨W,rfl⟩:∃W,W=W1:=⟨_,rfl⟩;refine hK.out _ _ (λ_=>ah) ?_;clear hK K;(try simp only[nP]);clear DW
      case' fa1=>(refine rnA (i:=6) λK hK=>?_;go_simp)
      all_goals
       first
        |(have hNP:=DW;clear hNP)
        |(refine stA (i:=6) λK hK=>?_;go_simp)
       refine(MK _ _ (Fs 0) (Fs 1) _ (hB0.ext iA) (hB1.ext iA) VE.good VD.good (by omega) (by omega) (by omega)).mono ?_;rintro e WA ⟨vN,F1,rfl,hN1,hI1,hS1,hl1,hxA⟩;replace iA:=ax iA hxA;(try replace hP:WA.heap[p]?=some (.cells #[.slice none 0 0] 28 (0,0)):=by rw[hxA.block _ (bu hP)];exact hP);clear hxA;obtain⟨W,rfl⟩:∃W,W=WA:=⟨_,rfl⟩;have ah:=pF _ iA;refine hK.out _ _ (λ_=>ah) ?_;clear hK K;(try simp only[nP])
      refine yn (i:=7) (j:=8) (by kernel_rfl) ?fa2 ?fb2
      case' fb2=>
       (refine rnA (i:=8) λK hK=>?_;go_simp);have OW:Ext W (W.alloc (.cells #[.slice none 0 0] 28)):=(by go_grown);have hP:(W.alloc (.cells #[.slice none 0 0] 28)).heap[W.heap.size]?=some (.cells #[.slice none 0 0] 28 (0,0)):=heap_alloc_new _ _;have hpz:wr.heap.size<=W.heap.size:=iA.size;(try have hpb:∀b,SB b->b≠W.heap.size:=λb hb e=>by have:=O9.1 b hb;omega);(try replace hN1:=hN1.ext OW);(try replace O9:=O9.ext OW);replace iA:=ax iA OW;clear OW;have ah:=pF _ iA;generalize W.alloc (.cells #[.slice none 0 0] 28)=W1 at *;generalize W.heap.size=p at *;obtain⟨W,rfl⟩:∃W,W=W1:=⟨_,rfl⟩;refine hK.out _ _ (λ_=>ah) ?_;clear hK K;(try simp only[nP]);clear DW
      case' fa2=>(refine rnA (i:=7) λK hK=>?_;go_simp)
      all_goals
       first
        |(have hNP:=DW;clear hNP)
        |(refine stA (i:=7) λK hK=>?_;go_simp)
       refine(BB vN F1 _ (hN1.weaken (aJ _)) hI1.good (kQ.2 hI1.ne) (by omega)).mono ?_;rintro e WB ⟨vN2,F2,g2,rfl,Vy,hI2,hS2,hC2,hE2,hl2,hxB⟩;obtain⟨aN,cN,rfl⟩:=Vy.slice;have hval:=Rm g VE VD HL0.out HL1.out hS1 hI2 hS2 hC2 hE2;obtain⟨SB,O9,hSw⟩:∃SB:Nat->Prop,nN SB (λW=>fu W 0 (.slice aN (List.length F2) cN) F2) WB/\∀b,SB b->W.heap.size<=b/\wr.heap.size<=b:=⟨λb=>W.heap.size<=b/\b<WB.heap.size,Vy.sup (λb hb=>hb.2) (λb h1 h2=>⟨h1,h2⟩),λb hb=>⟨hb.1,dn iA.size hb.1⟩⟩;(try have hpb:∀b,SB b->b≠p:=λb hb e=>by have h1:=bu hP;have h2:=(hSw b hb).1;omega);have hSr:∀b,SB b->wr.heap.size<=b:=λb hb=>(hSw b hb).2
       clear hSw Vy;replace iA:=ax iA hxB;(try replace hP:WB.heap[p]?=some (.cells #[.slice none 0 0] 28 (0,0)):=by rw[hxB.block _ (bu hP)];exact hP);clear hxB;obtain⟨W,rfl⟩:∃W,W=WB:=⟨_,rfl⟩;have ah:=pF _ iA;refine hK.out _ _ (λ_=>ah) ?_;clear hK K;(try simp only[nP])
      (refine stA (i:=8) λK hK=>?_;go_simp);have OW:Ext W (W.alloc (.cells #[.slice none 0 0] 28)):=(by go_grown);have hP:(W.alloc (.cells #[.slice none 0 0] 28)).heap[W.heap.size]?=some (.cells #[.slice none 0 0] 28 (0,0)):=heap_alloc_new _ _;have hpz:wr.heap.size<=W.heap.size:=iA.size;(try have hpb:∀b,SB b->b≠W.heap.size:=λb hb e=>by have:=O9.1 b hb;omega);(try replace hN1:=hN1.ext OW);(try replace O9:=O9.ext OW);replace iA:=ax iA OW;clear OW;have ah:=pF _ iA;generalize W.alloc (.cells #[.slice none 0 0] 28)=W1 at *;generalize W.heap.size=p at *;obtain⟨W,rfl⟩:∃W,W=W1:=⟨_,rfl⟩;refine hK.out _ _ (λ_=>ah) ?_;clear hK K;(try simp only[nP])
      all_goals
       have cP:=cell_of_row W p 0 _ _ _ hP;have fP:=frozen_of_row W p 0 _ _ hP;have hP2:=heap_setCell_same W p 0 _ _ (.slice aN (List.length F2) cN) hP;have HR:=aQ (And.intro hP2 (And.intro (iA.setCell (p:=⟨p,0,none⟩) hpz (.slice aN (List.length F2) cN)) (O9.keep (dV (p:=⟨p,0,none⟩) (v:=.slice aN (List.length F2) cN)) hpb)));have HT:=aQ (And.intro hval (show List.length F2<=kB (gX (bd ss)) by rw[<-XK];omega));clear hP hP2 O9 hval;refine tlA [9] [_] ?_;go_wp2_with fail
       go_meet
       exact⟨p,aN,cN,F2,rfl,hpz,HR.out.1,HR.out.2.1,HT.out.1,HT.out.2,HR.out.2.2.mono (λb hb=>⟨hSr b hb,HR.out.2.2.1 b hb,hpb b hb⟩) (λb hb=>hb.2.1) (λ_ h=>h)⟩
     case rest=>
      obtain⟨p,aN,cN,F,rfl,hpz,hP,OV,Ev,Pe,He⟩:=hcut;have hpI:¬kD px vt vf p:=λk=>by have:=hV.tb.vJ k;omega
      have hX1:=(hV.tb.ext OV).tx;have hVc:=hV.ext OV;have ajK:=aQ hV.tb.law;have VA:L'.length<=1000000:=(by omega);have agr:L'.length+1<=L.length+kB nB:=(by omega);obtain⟨Lt,hLt⟩:∃Lt,Lt=L'.map (·.1):=⟨_,rfl⟩;obtain⟨Lf,hLf⟩:∃Lf,Lf=L'.map (·.2):=⟨_,rfl⟩;rw[<-hLt,<-hLf]at hX1;have hnT:Lt.length<=1000000:=(by rw[hLt];simpa using VA);have hnF:Lf.length<=1000000:=(by rw[hLf];simpa using VA);have fJ:=aQ hLt;have HLF:=aQ hLf;clear hLt hLf;obtain⟨aT2,cT2,rfl,afK,_⟩:=bH hX1.texts;obtain⟨xsF,UY,XN⟩:=hX1.forms;obtain⟨R8,Ri,rfl,acz,_⟩:=bH UY;have b0:=cell_of_row wc px 0 _ _ _ hX1.cells;have Zj:=aQ hV;have HX1:=aQ hX1;have hto:=hX1.texts;have hap:=hX1.kP;have hcl:=hX1.cells;have HT:=aQ Ev;clear hX1 hV Ev XN UY hB0 hB1 hown0 hown1 QT ack VE VD hbl;go_upto_region 18 with(at_builtin;(refine dC rfl (.tmp 83) (.tmp 85) 22 rfl 0 9 i1 (.string ⟨#[]⟩) 1 16 underlying22 hi1 hy0 hy1 hy2 rfl (by decide) (.slice aT2 Lt.length cT2) Lt.length (Lt.map Value.string) rfl (hto.alloc _) _ 1 _ [.string tb] rfl rfl (.inr ⟨_,rfl,dJ (dh _ _ _)⟩) (by intro u hu;simp at hu;subst hu;rfl) (by unfold maxLen;omega) (by omega) (aJ _) ?_;intro v5 w5 iT hg5 hl5;obtain⟨a5,c5,rfl,-⟩:=bH iT;obtain⟨hX5,AL,b5,f5⟩:=HX1.out.text iT hg5 hl5))
      generalize w5.setCell ⟨px,0,none⟩ (.slice a5 (Lt.length+1) c5)=W5 at *;have hzp:=bu hP;have hz0:=OV.size;have Hm:W5.heap[p]?=some (.cells #[.slice aN (List.length F) cN] 28 (0,0)):=(by rw[AL.block hzp hpI];exact hP);have hIw:∀b,kD px (.slice aT2 Lt.length cT2) (.slice R8 Lf.length Ri) b->b<wr.heap.size:=λb hb=>Zj.out.tb.vJ hb
      have aeY:=AL.sup He (λb hb k=>by have:=hIw b k;omega);obtain⟨xsF,UY,XN⟩:=hX5.forms
      have pF:∀W:World,Ext W5 W->W.cell? ⟨px,1,none⟩=some (.slice R8 Lf.length Ri)/\W.cell? ⟨p,0,none⟩=some (.slice aN (List.length F) cN):=λW hW=>
       ⟨cell_of_row W px 1 _ _ _ (by rw[hW.block _ (bu hX5.cells)];exact hX5.cells),cell_of_row W p 0 _ _ _ (by rw[hW.block _ (bu Hm)];exact Hm)⟩
      have hxd:Ext W5 W5.drew:=⟨rfl,rfl,rfl,ay _,λ_ _=>rfl⟩;have QZ:=hX5.ext hxd;have hGd:=TG.ext (px:=px) (vt:=.slice a5 (Lt.length+1) c5) (vf:=.slice R8 Lf.length Ri) (S:=S') hxd;have hod:=bY UY hxd;have hid:=XN.ext hxd;have hsd:=aeY.ext hxd;have Vw:W5.drew.heap[p]?=some (.cells #[.slice aN (List.length F) cN] 28 (0,0)):=Hm;have X6:=aQ AL;have amg:=aQ agr;clear hP He aeY Hm hX5 AL UY XN iT hg5 hl5 b5 f5 hto hap hcl b0 hVc agr XU;refine lq (λW=>W.cell? ⟨px,1,none⟩=some (.slice R8 Lf.length Ri)/\W.cell? ⟨p,0,none⟩=some (.slice aN (List.length F) cN)) [8,9,10] (by kernel_rfl) (pF _ hxd) (λah=>?_);(refine kM 0 ah ?_;refine kM 1 ah ?_;refine kM 2 ah ?_;refine kM 3 ah ?_;refine kM 4 ah ?_;refine kM 5 ah ?_);(refine stA (i:=6) λK hK=>?_;go_simp);have hx6:Ext W5.drew (W5.drew.alloc (.cells #[.slice aN (List.length F) cN] 28)):=(by go_grown);have ah:=pF _ (ax hxd hx6);refine hK.out _ _ (λ_=>ah) ?_;clear hK K;(try simp only[nP]);refine stA (i:=7) λK hK=>?_
      refine gY rfl (.tmp 93) (.tmp 95) 47 rfl 0 28 i0 (.agg #[.slice none 0 0]) 1 24 underlying47 hi0 hz0' hz1 hz2 rfl (by decide) (.slice R8 Lf.length Ri) Lf.length xsF rfl (bY hod hx6) _ 1 _ [.slice aN (List.length F) cN] rfl rfl (.inr ⟨_,rfl,dJ (dh _ _ _)⟩) (by intro u hu;simp at hu;subst hu;rfl) (by unfold maxLen;omega) (by omega) (aJ _) ?_;intro v7 w7 BF DR YW;obtain⟨a7,c7,rfl,-⟩:=bH BF;have Lv:nN (λb=>wr.heap.size<=b/\b<wc.heap.size/\b≠p) (λW=>pU W [.slice aN (List.length F) cN] F) W5.drew:=hsd.mono (λ_ h=>h) hsd.1 (λW h=>⟨aN,cN,rfl,h⟩);have Zi:∀b,kD px (.slice a5 (Lt.length+1) c5) (.slice R8 Lf.length Ri) b->kD px (.slice aT2 Lt.length cT2) (.slice R8 Lf.length Ri) b\/wc.heap.size<=b:=X6.out.ins;obtain⟨hX7,O5,hi7,b7,f7⟩:=QZ.form hid BF DR YW Lv (λb hb k=>by
       rcases Zi b k with k|k
       .have:=hIw b k;omega
       .omega)
      have UA:=X6.out.keep.size;have hzd:W5.drew.heap.size=W5.heap.size:=rfl;have hIp:¬kD px (.slice a5 (Lt.length+1) c5) (.slice R8 Lf.length Ri) p:=λk=>by
       rcases Zi p k with k|k
       .exact hpI k
       .omega
      have hnx:p≠px:=λe=>hpI (.inl e)
      have aj8:(W5.drew.alloc (.cells #[.slice aN (List.length F) cN] 28)).grownBy w7 (Value.slice R8 Lf.length Ri).ownBlock:=DR;have GG:=((((Zj.out.tg.trans (TG.ext OV)).trans X6.out).trans hGd).trans (⟨O5,hi7,λ_ h=>h,λ_ h=>.inl h⟩:TG W5.drew (w7.setCell ⟨px,1,none⟩ (.slice a7 (Lf.length+1) c7)) px (.slice a5 (Lt.length+1) c5) (.slice R8 Lf.length Ri) S' (.slice a5 (Lt.length+1) c5) (.slice a7 (Lf.length+1) c7) S'));have XH:=Zj.out.tg.keep.size
      have hG8:TG w (w7.setCell ⟨px,1,none⟩ (.slice a7 (Lf.length+1) c7)) px (.slice aT L.length cT) (.slice aF L.length cF) S (.slice a5 (Lt.length+1) c5) (.slice a7 (Lf.length+1) c7) (λb=>S' b\/(wr.heap.size<=b/\b<wc.heap.size/\b≠p)):=
       ⟨GG.keep,GG.ins,λb h=>.inl (GG.s1 b h),λb hb=>hb.elim (GG.s2 b) (λh=>.inr (by omega))⟩
      have hr1:=bu Zj.out.res;have hIr:¬kD px (.slice a5 (Lt.length+1) c5) (.slice R8 Lf.length Ri) (w.heap.size+1):=λk=>by
       rcases Zi _ k with k|k
       .exact Zj.out.p1.1 k
       .omega
      have akJ:¬kD px (.slice a5 (Lt.length+1) c5) (.slice a7 (Lf.length+1) c7) (w.heap.size+1):=λk=>by
       rcases hi7 _ k with k|k
       .exact hIr k
       .omega
      have af1:∀b,S' b\/(wr.heap.size<=b/\b<wc.heap.size/\b≠p)->b≠w.heap.size+1:=λb hb e=>by
       rcases hb with h|h
       .exact Zj.out.p1.2 (by rw[<-e];exact h)
       .omega
      have hR7:(w7.setCell ⟨px,1,none⟩ (.slice a7 (Lf.length+1) c7)).heap[w.heap.size+1]?=some (.cells #[.slice none 0 0] 28 (0,0)):=by
       rw[O5.block _ (by omega) hIr];show W5.heap[w.heap.size+1]?=_;rw[X6.out.block (by omega) Zj.out.p1.1,OV.block _ hr1];exact Zj.out.res
      have hP7:(w7.setCell ⟨px,1,none⟩ (.slice a7 (Lf.length+1) c7)).heap[p]?=some (.cells #[.slice aN (List.length F) cN] 28 (0,0)):=by
       rw[O5.block _ (by omega) hIp];exact Vw
      have ah:w7.cell? ⟨px,1,none⟩=some (.slice R8 Lf.length Ri)/\w7.cell? ⟨p,0,none⟩=some (.slice aN (List.length F) cN):=⟨b7,by
       have e:w7.heap[p]?=some (.cells #[.slice aN (List.length F) cN] 28 (0,0)):=by
        rw[<-hP7,heap_setCell_other _ _ _ _ hnx]
       exact cell_of_row w7 p 0 _ _ _ e⟩
      have RX:=(hsd.keep O5 (λb hb k=>by
       rcases Zi b k with k|k
       .have:=hIw b k;omega
       .omega))
      have HX7:=aQ hX7;have HG8:=aQ hG8;have HSF:=aQ RX;clear hX7 hG8 RX GG hsd Lv hod hid QZ hGd BF DR aj8 YW Zj O5 hi7;have c9:=cell_of_row _ p 0 _ _ _ hP7;have r9:=cell_of_row _ (w.heap.size+1) 0 _ _ _ hR7;have g9:=frozen_of_row _ (w.heap.size+1) 0 _ _ hR7;have HH:=aQ (heap_setCell_same _ (w.heap.size+1) 0 _ _ (.slice aN (List.length F) cN) hR7);refine hK.out _ _ (λ_=>ah) ?_;clear hK K;(try simp only[nP]);refine tlA [8,9,10] [_,_,_] ?_;go_upto_region 19 with fail
      generalize w7.setCell ⟨px,1,none⟩ (.slice a7 (Lf.length+1) c7)=W9 at *;clear b7 f7 ah hP7 hR7;go_wp2
      (try simp only[Exit.inBlock,Exit.then]);refine bodyPost_ret (results_cell_row rfl _ _ (w.heap.size+1) 28 #[.slice aN (List.length F) cN] (0,0) _ rfl HH.out underlying28 rfl (by kernel_rfl)) rfl ?_;have U6:=dV (w:=W9) (p:=⟨w.heap.size+1,0,none⟩) (v:=.slice aN (List.length F) cN);refine⟨_,F,_,_,_,L'++[(tb,F)],rfl,(HSF.out.mono (λb hb=>.inr hb) (λb hb=>HX7.out.Tf hb) (λ_ h=>h)).keep U6 (λb hb e=>?_),HT.out,Pe,?_,HG8.out.set (p:=⟨w.heap.size+1,0,none⟩) (by show w.heap.size<=w.heap.size+1;omega) _,by rw[aK,<-XK];simpa using amg.out⟩
      .exact af1 b hb e
      .have e1:(L'++[(tb,F)]).map (·.1)=Lt++[tb]:=by rw[bG,<-fJ.out];rfl
       have e2:(L'++[(tb,F)]).map (·.2)=Lf++[F]:=(by rw[bG,<-HLF.out];rfl);have hX:=HX7.out;rw[<-e1,<-e2]at hX;refine(hX.tb (λx hx=>?_)).keep U6 (λb hb e=>akJ (by rw[<-show b=w.heap.size+1 from e];exact hb)) (λb hb e=>af1 b hb e);rcases bq.1 hx with h|h
       .exact ajK.out x h
       .simp only[lC]at h
        subst h;exact⟨bd ss,hh,ww,g,HT3.out,by rw[<-XK];exact HN9.out,HT.out,Pe⟩
end Go.Proofs.YteknjeohbcgpdaaGreatDoor