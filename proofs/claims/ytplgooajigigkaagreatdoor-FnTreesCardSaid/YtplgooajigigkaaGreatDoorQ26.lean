/- 26 -/
import Derived.Test.YtplgooajigigkaaGreatDoorQ25
set_option maxRecDepth 100000
set_option maxHeartbeats 4000000
namespace Go.Proofs.YtplgooajigigkaaGreatDoor
open Tryz
open Go.RowKit
open aZ (cZ Nd vl Same Gm Canon eU Ge)
theorem zO:(prog.info? 9).map (λi=>(i.zero,i.size,i.bytes))=some (some (.string ⟨#[]⟩),1,16):=by kernel_rfl
theorem O8:(prog.info? 30).map (λi=>(i.zero,i.size,i.bytes))=some (some (.agg #[.slice none 0 0]),1,24):=by kernel_rfl
def Ya(us:List Int)(s:List UInt8)(px:Nat)(vt vf:Value)(S:Nat->Prop)(L:List (ByteArray × cZ))(w:World)(e:Ending)(w':World):Prop:=
 ∃vN F EE EH S' L',e=.returned (.agg #[vN])/\nN S' (λW=>eZ W 0 vN F) w'/\kg F us s/\F.length<=kN us.length/\TB w' px EE EH S' L'/\TG w w' px vt vf S EE EH S'/\L'.length<=L.length+kN us.length
def UG(m:Nat):Prop:=∀(us:List Int) (sb:ByteArray) (vu:Value) (px:Nat) (vt vf:Value) (S:Nat->Prop) (L:List (ByteArray × cZ)) (w:World),us.length<=m->GT us sb.data.toList->nN (abl w px vt vf) (λW=>Ints W vu us) w->TB w px vt vf S L->L.length+kN us.length<=1000000->
 Calls prog 48 #[.pointer (some ⟨px,0,none⟩),.agg #[vu,.string sb]] w (Ya us sb.data.toList px vt vf S L w)
theorem JR(m:Nat)(ih:∀k,k<m->UG k):UG m:=by
 intro us sb vu px vt vf S L w hm g hv hB hroom;obtain⟨i0,hi0,hz0',hz1,hz2⟩:=info_parts O8;obtain⟨i1,hi1,hy0,hy1,hy2⟩:=info_parts zO;obtain⟨au,jm,rfl,hlc,hcap,-⟩:=hv.out;have Pj:=g.small;go_enter Tryz.func48,Tryz.ntmps48
 go_wp2
 have hxe:Ext w ((w.alloc (.cells #[.slice au us.length jm,.string sb] 43)).alloc (.cells #[.slice none 0 0] 30)):=by go_grown
 have hbx:((w.alloc (.cells #[.slice au us.length jm,.string sb] 43)).alloc (.cells #[.slice none 0 0] 30)).heap[w.heap.size]?=some (.cells #[.slice au us.length jm,.string sb] 43 (0,0)):=by
  rw[gI _ _ _ (by simp)];exact dV _ _
 have hrs:((w.alloc (.cells #[.slice au us.length jm,.string sb] 43)).alloc (.cells #[.slice none 0 0] 30)).heap[w.heap.size+1]?=some (.cells #[.slice none 0 0] 30 (0,0)):=by
  have h:=dV (w.alloc (.cells #[.slice au us.length jm,.string sb] 43)) (.cells #[.slice none 0 0] 30);rw[eX]at h;exact h
 have hzW:((w.alloc (.cells #[.slice au us.length jm,.string sb] 43)).alloc (.cells #[.slice none 0 0] 30)).heap.size=w.heap.size+2:=by simp
 generalize (w.alloc (.cells #[.slice au us.length jm,.string sb] 43)).alloc (.cells #[.slice none 0 0] 30)=W0 at *;have HZW:=aI hzW;clear hzW;have hB0:=hB.ext hxe;have hv0:=hv.ext hxe;have cb0:=bI W0 w.heap.size 0 _ _ _ hbx;have hso:sb.size<=8:=by have:=g.len;simp at this;have:sb.size=sb.data.size:=rfl;omega
 go_loop [5,6] (λtx ii=>∃k tb,k<=us.length/\ii=.int .i64 ((k:Nat):Int)/\tx=.string tb/\Hid (tb.data.toList=sb.data.toList++txt 46 (us.take k))/\tb.size<=8+3*k) (λ_ ii=>us.length-(intOf ii).toNat)
 case atStart=>exact⟨0,sb,az _,rfl,rfl,by simp[Hid,txt],by omega⟩
 case round=>
  obtain⟨k,tb,hk,rfl,rfl,HT,hts⟩:=hrel;by_cases hlt:k<us.length
  .have h1:((k:Nat):Int)<(us.length:Int):=by omega
   obtain⟨a',c',he,-,-,hcell⟩:=hv0.out;simp only[gz]at he;obtain⟨rfl,-,rfl⟩:=he;obtain⟨b,off,rfl,hcell2⟩:=hcell (by omega);have cu:=hcell2 k hlt;have hu:=g.up k hlt;have hns:(vR (dD us k)).size<=2:=by
    have:(vR (dD us k)).size=(oU (dD us k)).length:=(by simp[vR,ByteArray.size]);rw[this,oU];split <;> simp
   have HT2:Hid ((tb++⟨#[46]⟩++vR (dD us k)).data.toList=sb.data.toList++txt 46 (us.take (k+1))):=by
    have e1:({ data:=#[46] }:ByteArray).data.toList=[46]:=rfl;unfold Hid;rw[mX hlt,Gv,kG,lU,kG,lU,HT.out,DX,e1];simp
   clear hcell hcell2;go_wp2_with (go_at_call 93;refine(O0 _ (by omega) (by omega) _).mono ?_;rintro e w1 ⟨rfl,rfl⟩)
   go_round
   case rel=>exact⟨k+1,_,by omega,by go_num,rfl,HT2,by have e46:({ data:=#[46] }:ByteArray).size=1:=rfl;rw[ig,ig,e46];omega⟩
   case measure=>simp[intOf];omega
  .have h1:¬(((k:Nat):Int)<(us.length:Int)):=by omega
   have hke:k=us.length:=(by omega);have HT3:Hid (tb.data.toList=sb.data.toList++txt 46 us):=(by have:=HT.out;rw[hke,dH (ax _)]at this;exact this);clear HT hke;have HTS:=aI hts;clear hts;go_wp2
   have hcx:=bI W0 px 0 _ _ _ hB0.cells;have hcy:=bI W0 px 1 _ _ _ hB0.cells;obtain⟨aT,cT,rfl,LB,ac8⟩:=bu hB0.texts;obtain⟨xsF,SA,Vu⟩:=hB.forms;have SA:=bW SA hxe;obtain⟨aF,cF,rfl,Qf,aai⟩:=bu SA;go_loop [7] (λii=>∃q,q<=L.length/\ii=.int .i64 ((q:Nat):Int)/\Hid (∀j (h:j<L.length),j<q->(L[j]).1≠tb)) (λii=>L.length-(intOf ii).toNat)
   case atStart=>exact⟨0,az _,rfl,λj _ h=>absurd h (by omega)⟩
   case round=>
    obtain⟨q,hq,rfl,HN⟩:=hrel;by_cases hlt2:q<L.length
    .have h2:((q:Nat):Int)<(L.length:Int):=by omega
     obtain⟨gT,cT',he,-,-,Td⟩:=gY hB0.texts (by omega);simp only[gz]at he;obtain⟨rfl,-,rfl⟩:=he;have ct:=Td q (by omega);rw[bO,ae hlt2,eT]at ct;clear Td;by_cases heq:(L[q]).1=tb
     .have amF:((L[q]).1.toList == tb.toList)=true:=(Lib.bytes_beq_iff _ _).2 heq
      obtain⟨Yu,s',g',hx1,hV',hl'⟩:=hB0.law _ (aj hlt2);have hun:Yu=us/\s'=sb.data.toList:=Gy (c:=46) (by decide) g' g (by rw[<-hx1,heq,HT3.out]);obtain⟨rfl,rfl⟩:=hun;have hlF:(L.map (·.2)).length=L.length:=(by simp);obtain⟨gF,cF',he,-,-,Te⟩:=gY SA (by omega);simp only[gz]at he;obtain⟨rfl,-,rfl⟩:=he;obtain⟨aN,cN,e1,hN1⟩:=Vu.2.out q (by simpa using hlt2);have cf:=Te q (by omega);rw[QO e1]at cf;simp only[fT]at cf hN1;have YM:nN S (λW=>eZ W 0 (.slice aN (L[q]).2.length cN) (L[q]).2) w:=⟨Vu.2.1,λw2 h2=>by
       obtain⟨aN',cN',e1',adC⟩:=Vu.2.2 w2 h2 q (by simpa using hlt2);rw[e1]at e1';simp only[fT,iZ,gz,true_and,and_true]at e1' adC;obtain⟨rfl,rfl⟩:=e1';exact adC⟩
      have cr0:=bI W0 (w.heap.size+1) 0 _ _ _ hrs;have fr0:=iW W0 (w.heap.size+1) 0 _ _ hrs;have HH:Hid ((W0.setCell ⟨w.heap.size+1,0,none⟩ (.slice aN (L[q]).2.length cN)).heap[w.heap.size+1]?=some (.cells #[.slice aN (L[q]).2.length cN] 30 (0,0))):=iV _ _ _ _ _ _ hrs;have HV:=yD hV' hl' YM;have HQ:=aI heq;clear heq hx1 hV' hl' YM hN1 e1 Te hlF;go_wp2
      (try simp only[Exit.inBlock,Exit.then]);refine bodyPost_ret (results_cell_row rfl _ _ (w.heap.size+1) 30 #[.slice aN (L[q]).2.length cN] (0,0) _ rfl HH.out underlying30 rfl (by kernel_rfl)) rfl ?_;have Pf:Ext w (W0.setCell ⟨w.heap.size+1,0,none⟩ (.slice aN (L[q]).2.length cN)):=oG hxe (w.heap.size+1) 0 _;exact⟨_,(L[q]).2,_,_,S,L,rfl,HV.out.2.2.ext Pf,HV.out.1,HV.out.2.1,hB.ext Pf,TG.ext Pf,by omega⟩
     .have hne:((L[q]).1.toList == tb.toList)=false:=(Lib.bytes_beq_false_iff _ _).2 heq
      have HQ:=aI heq;clear heq;go_wp2
      go_round
      case rel=>exact⟨q+1,by omega,by go_num,λj hj hjq=>by
       by_cases e:j=q
       .subst e;exact HQ.out
       .exact HN.out j hj (by omega)⟩
      case measure=>simp[intOf];omega
    .have h2:¬(((q:Nat):Int)<(L.length:Int)):=by omega
     have hqe:q=L.length:=(by omega);go_wp2
     clear hcx hcy cb0 h2;subst hqe;have hW0:=HZW.out;obtain⟨f,hf⟩:∃f:Nat->Value,f=λp=>if p=0 then .slice (some ⟨W0.heap.size,0,none⟩) 0 0 else .slice (some ⟨W0.heap.size+1,0,none⟩) 0 0:=⟨_,rfl⟩
     have hVM:VM w (((W0.alloc (.cells #[] 30)).alloc (.cells #[] 30)).alloc (.cells #[.slice (some ⟨W0.heap.size,0,none⟩) 0 0,.slice (some ⟨W0.heap.size+1,0,none⟩) 0 0] 80)) px (.slice aT L.length cT) (.slice aF L.length cF) S L us sb (.slice au us.length jm) (W0.heap.size+1+1) (.slice aT L.length cT) (.slice aF L.length cF) S L f (λ_=>[]):=by
      have hx3:Ext W0 (((W0.alloc (.cells #[] 30)).alloc (.cells #[] 30)).alloc (.cells #[.slice (some ⟨W0.heap.size,0,none⟩) 0 0,.slice (some ⟨W0.heap.size+1,0,none⟩) 0 0] 80)):=(by go_grown);have hI:∀b,kM px (.slice aT L.length cT) (.slice aF L.length cF) b->b<w.heap.size:=λb=>hB.zN
      have hS:∀b,S b->b<w.heap.size:=λb=>hB.Yz
      have hf0:f 0=.slice (some ⟨W0.heap.size,0,none⟩) 0 0:=(by rw[hf];rfl);have hf1:f 1=.slice (some ⟨W0.heap.size+1,0,none⟩) 0 0:=(by rw[hf];rfl);have hz3:(((W0.alloc (.cells #[] 30)).alloc (.cells #[] 30)).alloc (.cells #[.slice (some ⟨W0.heap.size,0,none⟩) 0 0,.slice (some ⟨W0.heap.size+1,0,none⟩) 0 0] 80)).heap.size=W0.heap.size+3:=(by simp);have hss:∀b,SS (W0.heap.size+1+1) f b->w.heap.size+1<b/\b<W0.heap.size+3:=λb hb=>by
       rcases hb with hb|hb|hb
       .omega
       .rw[hf0]at hb;simp[Value.ownBlock]at hb;omega
       .rw[hf1]at hb;simp[Value.ownBlock]at hb;omega
      refine⟨hB.ext (ah hxe hx3),TG.ext (ah hxe hx3),?_,?_,?_,λq hq=>⟨[],?_,Items.nil (λb hb=>by have:=hS b hb;omega)⟩,λq hq=>?_,λb hb e=>?_,⟨λk=>by have:=hI _ k;omega,λk=>by have:=hS _ k;omega⟩,⟨λk=>by have:=hI _ k;omega,λk=>by have:=hS _ k;omega⟩,λb hb=>⟨λk=>by have:=hI _ k;have:=hss b hb;omega,λk=>by have:=hS _ k;have:=hss b hb;omega⟩,λb hb=>by rw[hz3];exact hss b hb,λq hq=>qx.nil _ _ _⟩
      .rw[hx3.block _ (bq hbx)];exact hbx
      .rw[hx3.block _ (bq hrs)];exact hrs
      .rw[hf0,hf1]
       have h:=dV ((W0.alloc (.cells #[] 30)).alloc (.cells #[] 30)) (.cells #[.slice (some ⟨W0.heap.size,0,none⟩) 0 0,.slice (some ⟨W0.heap.size+1,0,none⟩) 0 0] 80);rw[eX,eX]at h;exact h
      .rcases KI hq with rfl|rfl
       .rw[hf0]
        exact((gG W0 w.heap.size (by omega) 30).alloc _).alloc _
       .rw[hf1]
        exact(lF W0 (.cells #[] 30) w.heap.size (by omega) 30).alloc _
      .rcases KI hq with rfl|rfl
       .rw[hf0];simp[Value.ownBlock] <;> omega
       .rw[hf1];simp[Value.ownBlock] <;> omega
      .rw[hf0]at hb;rw[hf1]at e;simp[Value.ownBlock]at hb e;omega
     have hsl:Value.slice (some ⟨W0.heap.size+1+1,0,none⟩) 2 2=.slice (some ⟨W0.heap.size+1+1,0,none⟩) 2 2:=rfl;generalize hWW:((W0.alloc (.cells #[] 30)).alloc (.cells #[] 30)).alloc (.cells #[.slice (some ⟨W0.heap.size,0,none⟩) 0 0,.slice (some ⟨W0.heap.size+1,0,none⟩) 0 0] 80)=W1 at *;generalize W0.heap.size+1+1=bs at *;clear hsl hWW hf hW0;clear hxe hbx hrs hB0 hv0 LB Qf ac8 aai SA Vu HN;go_loopw [9] (λss wr=>∃s vt vf S' L' f Fs,s<=2/\ss=.int .i64 ((s:Nat):Int)/\VM w wr px (.slice aT L.length cT) (.slice aF L.length cF) S L us sb (.slice au us.length jm) bs vt vf S' L' f Fs/\L'.length<=L.length+((Fs 0).length+(Fs 1).length)*kN (us.length-1)/\Hid (∀q,q<2->(Fs q).length=if q<s then(dU sb.data.toList (q == 0) us.length).length else 0)) (λss _=>2-(intOf ss).toNat)
     case atStart=>exact⟨0,_,_,S,L,f,λ_=>[],by omega,rfl,hVM,by omega,λq _=>rfl⟩
     case round=>
      clear hVM f;obtain⟨s,vt,vf,S',L',f,Fs,hs,rfl,hV,Y6,HF⟩:=hrel;by_cases hlt3:s<2
      .have h3:((s:Nat):Int)<2:=by omega
       have WV:=(hV.tg.sup hv (λb hb=>hb.2)).out;have cb0:=bI wr w.heap.size 0 _ _ _ hV.box;have cb1:=bI wr w.heap.size 1 _ _ _ hV.box;go_wp2_with (go_at_call 94;refine(Iu _ us sb _ _ WV g).mono ?_;rintro e w1 ⟨vC,Ts,rfl,hRT,hCT,hx1⟩;have hV1:=hV.ext hx1;obtain⟨xsC,aC,cC,rfl,hcC,amR,-⟩:=id hRT)
       have hleft:kE us sb.data.toList (s == 0) us.length Ts:=by
        have e1:(((s:Nat):Int)== 0)=(s == 0):=by rcases KI hlt3 with rfl|rfl <;> rfl
        rw[<-e1];exact hCT
       have Vx:∀b,(wr.heap.size<=b/\b<w1.heap.size)->¬kM px vt vf b/\¬SS bs f b:=λb hb=>⟨λk=>by have:=hV.tb.zN k;omega,λk=>by have:=(hV.gt b k).2;omega⟩
       have HTL:=aI hleft.len;have HCT:=aI hleft;have hF0:(Fs s).length=0:=(by rw[HF.out s hlt3,if_neg (by omega)]);clear hCT hleft hV cb0 cb1 WV hx1;obtain⟨wo,rfl⟩:∃wo:World,wo=wr:=⟨_,rfl⟩;go_loopw [11] (λii w2=>∃i vt2 vf2 S2 L2 f2 Dk,i<=Ts.length/\ii=.int .i64 ((i:Nat):Int)/\VM w w2 px (.slice aT L.length cT) (.slice aF L.length cF) S L us sb (.slice au us.length jm) bs vt2 vf2 S2 L2 f2 Dk/\L2.length<=L.length+((Dk 0).length+(Dk 1).length)*kN (us.length-1)/\(Dk s).length=i/\Hid (∀q,q<2->q≠s->Dk q=Fs q)/\Rows Cw 2 (λb=>wo.heap.size<=b/\b<w1.heap.size) w2 (.slice aC Ts.length cC) Ts/\(∀b,(wo.heap.size<=b/\b<w1.heap.size)->¬kM px vt2 vf2 b/\¬SS bs f2 b)/\w1.heap.size<=w2.heap.size) (λii _=>Ts.length-(intOf ii).toNat)
       case atStart=>exact⟨0,vt,vf,S',L',f,Fs,az _,rfl,hV1,Y6,hF0,λ_ _ _=>rfl,hRT,Vx,ax _⟩
       case round=>
        clear hV1 hRT Vx hF0 Y6;obtain⟨i,vt2,vf2,S2,L2,f2,Dk,hi,rfl,hV2,hL2,Ak,HFo,hRT,Vx,Pe⟩:=hrel;obtain⟨w2,rfl⟩:∃w2:World,w2=wr:=⟨_,rfl⟩;by_cases acR:i<Ts.length
        .have h4:((i:Nat):Int)<(Ts.length:Int):=by omega
         go_wp2_with fail
         obtain⟨bC,anX,aU,cU,he,hTb,cl,cr,hIU⟩:=hRT.tree acR;simp only[gz]at he;obtain⟨rfl,-,rfl⟩:=he;obtain⟨xs,hown,hit⟩:=hV2.row s hlt3;obtain⟨af,cf,hfs,hcf,_⟩:=bu hown;have cs:∀W:World,W.heap[bs]?=some (.cells #[f2 0,f2 1] 80 (0,0))->W.cell? ⟨bs,s,none⟩=some (.slice af (Dk s).length cf):=λW hW=>by
          rw[bI W bs s _ _ _ hW,<-hfs];rcases KI hlt3 with rfl|rfl <;> rfl
         have htot:(Dk 0).length+(Dk 1).length+1<=us.length:=by
          have el:=lV sb.data.toList us.length;have hl:=HTL.out;rcases KI hlt3 with rfl|rfl
          .have e1:=HFo.out 1 (by omega) (by omega);have h0:=HF.out 1 (by omega);rw[e1,h0,Ak];simp at hl ⊢;omega
          .have e1:=HFo.out 0 (by omega) (by omega);have h0:=HF.out 0 (by omega);rw[e1,h0,Ak];simp at hl ⊢;omega
         have hkr:=Ni htot;have hi8:i<=8:=by have:=Ak;rcases KI hlt3 with rfl|rfl <;> omega
         obtain⟨e,he1,he2,he3⟩:=HCT.out.at acR;obtain⟨g',hl'⟩:=qh g (uR (fq he1));rw[<-he2]at g' hl';rw[<-he3]at g';have hkm:kN (Ts[i]).1.length<=kN (us.length-1):=vL (by omega);have hx0:Ext w2 w2.drew:=⟨rfl,rfl,rfl,ax _,λ_ _=>rfl⟩;have hVd:=hV2.ext hx0;have Sw:=bW hown hx0;have acW:=hit.ext hx0;rw[hfs,Ak]at Sw;have adI:nN (abl w2.drew px vt2 vf2) (λW=>Ints W (.slice aU (Ts[i]).1.length cU) (Ts[i]).1) w2.drew:=(hIU.ext hx0).mono (λb hb=>⟨(hIU.ext hx0).1 b hb,(Vx b hb).1⟩) (λb hb=>hb.1) (λ_ h=>h);have hzT:∀W:World,(∀b,(wo.heap.size<=b/\b<w1.heap.size)->W.heap[b]?=w2.heap[b]?)->W.cell? ⟨bC,i*2,none⟩=some (.slice aU (Ts[i]).1.length cU)/\W.cell? ⟨bC,i*2+1,none⟩=some (.string (Ts[i]).2):=λW hW=>by
          have e:=hW bC hTb;exact⟨by rw[lh (w:=w2) e];exact cl,by rw[lh (w:=w2) e];exact cr⟩
         have hS0:w2.cell? ⟨bs,s,none⟩=some (.slice af i cf)/\w2.cell? ⟨bC,i*2,none⟩=some (.slice aU (Ts[i]).1.length cU)/\w2.cell? ⟨bC,i*2+1,none⟩=some (.string (Ts[i]).2):=⟨by rw[cs _ hV2.blk,Ak],hzT w2 (λ_ _=>rfl)⟩;rw[Ak]at cs;have HE1:=aI he1;have HE2:=aI he2;have HE3:=aI he3;have Mt:=aI Ak;have HFS:=aI hfs;clear he1 he2 he3 Ak hfs cl cr;refine kH (λW=>W.cell? ⟨bs,s,none⟩=some (.slice af i cf)/\W.cell? ⟨bC,i*2,none⟩=some (.slice aU (Ts[i]).1.length cU)/\W.cell? ⟨bC,i*2+1,none⟩=some (.string (Ts[i]).2)) [14,15] (by kernel_rfl) hS0 (λaa=>?_);(refine jT 0 aa ?_;refine jT 1 aa ?_;refine jT 2 aa ?_;refine jT 3 aa ?_;refine jT 4 aa ?_;refine jT 5 aa ?_;refine jT 6 aa ?_;refine jT 7 aa ?_;refine jT 8 aa ?_;refine jT 9 aa ?_;refine jT 10 aa ?_);(refine stA (i:=11) λK hK=>?_;go_simp);refine(ih (Ts[i]).1.length (by omega) (Ts[i]).1 (Ts[i]).2 _ px vt2 vf2 S2 L2 _ (ax _) g' adI hVd.tb (by omega)).mono ?_;rintro en w3 ⟨vN,F,vt3,vf3,S3,L3,rfl,Qd,LC,hFk,hB3,hG3,hL3⟩;obtain⟨aN,cN,rfl⟩:=Qd.out.slice;have Vw:=hVd.go hB3 hG3;have hT3:∀b,(wo.heap.size<=b/\b<w1.heap.size)->w3.heap[b]?=w2.heap[b]?:=λb hb=>hG3.block (w:=w2.drew) (by show b<w2.heap.size;omega) (Vx b hb).1
         have adt:=(hRT.ext hx0).keep hG3.keep (λb hb=>(Vx b hb).1);obtain⟨hown3,hit3⟩:=hVd.ab3 hB3 hG3 hlt3 (by rw[HFS.out,Mt.out];exact Sw) acW;rw[HFS.out,Mt.out]at hown3;have ag2:∀b,(wo.heap.size<=b/\b<w1.heap.size)->¬kM px vt3 vf3 b:=λb hb k=>by
          rcases hG3.ins b k with k|k
          .exact(Vx b hb).1 k
          .have:w2.drew.heap.size=w2.heap.size:=rfl;omega
         (refine hK.out _ _ (λ_=>?_) ?_)
         .exact⟨cs _ Vw.blk,hzT _ hT3⟩
         clear hK K;(try simp only[nP]);(refine stA (i:=12) λK hK=>?_;go_simp);have hx4:Ext w3 (w3.alloc (.cells #[.slice aN F.length cN] 30)):=(by go_grown);have hV4:=Vw.ext hx4;have hT4:∀b,(wo.heap.size<=b/\b<w1.heap.size)->(w3.alloc (.cells #[.slice aN F.length cN] 30)).heap[b]?=w2.heap[b]?:=λb hb=>by
          have hz3:=hG3.keep.size;have:w2.drew.heap.size=w2.heap.size:=rfl;rw[hx4.block b (by omega)];exact hT3 b hb
         (refine hK.out _ _ (λ_=>?_) ?_)
         .exact⟨cs _ hV4.blk,hzT _ hT4⟩
         clear hK K;(try simp only[nP]);refine stA (i:=13) λK hK=>?_
         refine gu rfl (.tmp 78) (.tmp 85) 80 rfl w.heap.size 30 i0 (.agg #[.slice none 0 0]) 1 24 underlying80 hi0 hz0' hz1 hz2 rfl (by decide) (.slice af i cf) i xs rfl (bW hown3 hx4) _ 1 _ [.slice aN F.length cN] rfl rfl (.inr ⟨_,rfl,dA (bY _ _ _)⟩) (by intro u hu;simp at hu;subst hu;rfl) (by unfold maxLen;omega) (by omega) (by have:=hV4.tg.keep.size;exact this) ?_;intro v5 w5 ji hg5 hl5;obtain⟨a5,c5,rfl,-⟩:=bu ji;have hap:Value.ownBlock (.slice af i cf)≠some bs:=(by have:=Vw.ap s hlt3;rw[HFS.out,Mt.out]at this;exact this);have hss:∀b,Value.ownBlock (.slice af i cf)=some b->SS bs f2 b:=λb hb=>SS.of hlt3 (by rw[HFS.out,Mt.out];exact hb)
         have Nl:=hx4.size;have hz3:=hG3.keep.size;have hz2:w2.drew.heap.size=w2.heap.size:=rfl;have hb5:w5.heap[bs]?=some (.cells #[f2 0,f2 1] 80 (0,0)):=by
          rw[hg5.block bs (bq hV4.blk) (λe=>hap e.symm)];exact hV4.blk
         have hT5:∀b,(wo.heap.size<=b/\b<w1.heap.size)->w5.heap[b]?=w2.heap[b]?:=λb hb=>by
          rw[hg5.block b (by omega) (λe=>(Vx b hb).2 (hss b e.symm))];exact hT4 b hb
         have cbs:=cs _ hb5;have fbs:=iW w5 bs s _ _ hb5;have JJ:nN S3 (λW=>tY W [.slice aN F.length cN] F) w3:=Qd.mono (λ_ h=>h) Qd.1 (λW h=>⟨aN,cN,rfl,h⟩);have hP:=Vw.push hlt3 (v5:=.slice a5 (i+1) c5) (e:=e) hit3 JJ (by rw[Mt.out];exact ji) (by rw[HFS.out,Mt.out];exact hg5) (by rw[HFS.out,Mt.out];exact hl5) (by rw[Mt.out];exact HE1.out) (by rw[<-HE2.out,<-HE3.out];exact LC) (by omega);have ads:Rows Cw 2 (λb=>wo.heap.size<=b/\b<w1.heap.size) (w5.setCell ⟨bs,s,none⟩ (.slice a5 (i+1) c5)) (.slice (some ⟨bC,0,none⟩) Ts.length cC) Ts:=by
          refine adt.keep (G:=SS bs f2) ⟨hg5.os,hg5.tape,hg5.output,by have:=hg5.size;rw[World.size_setCell];omega,λk hk hn=>?_⟩ (λb hb=>(Vx b hb).2);rw[jH _ _ _ _ (λe=>hn (.inl e)),hg5.block k (by omega) (λe=>hn (hss k e.symm)),hx4.block k hk]
         have adn:∀b,(wo.heap.size<=b/\b<w1.heap.size)->¬kM px vt3 vf3 b/\¬SS bs (λp=>if p=s then .slice a5 (i+1) c5 else f2 p) b:=λb hb=>⟨ag2 b hb,λk=>by
          rcases SS.push (wr:=w3.alloc (.cells #[.slice aN F.length cN] 30)) hlt3 (by rw[HFS.out,Mt.out];exact hl5) b k with k|k
          .exact(Vx b hb).2 k
          .omega⟩
         have Nk:w1.heap.size<=(w5.setCell ⟨bs,s,none⟩ (.slice a5 (i+1) c5)).heap.size:=(by have:=hg5.size;rw[World.size_setCell];omega);have hLn:L3.length<=L.length+(((λp=>if p=s then Dk s++[F]else Dk p) 0).length+((λp=>if p=s then Dk s++[F]else Dk p) 1).length)*kN (us.length-1):=by
          have e:((λp=>if p=s then Dk s++[F]else Dk p) 0).length+((λp=>if p=s then Dk s++[F]else Dk p) 1).length=(Dk 0).length+(Dk 1).length+1:=by
           rcases KI hlt3 with rfl|rfl <;> simp <;> omega
          rw[e,rJ];omega
         have HR:=Hi5 hP ads adn Nk hLn;clear hP ads adn Nk hLn adt hit3 hown3 Vw hV4 hVd hT3 hT4 JJ Qd Sw acW adI hIU;(refine hK.out _ _ (λ_=>?_) ?_)
         .exact⟨cbs,hzT _ hT5⟩
         clear hK K;(try simp only[nP]);refine VX [14,15] [_,_] ?_;go_wp2_with fail
         go_roundw
         case rel=>exact⟨i+1,vt3,vf3,S3,L3,_,_,by omega,by go_num,HR.out.1,HR.out.2.2.2.2,by simp[Mt.out],λq hq hqs=>by simp only[hqs,if_false];exact HFo.out q hq hqs,HR.out.2.1,HR.out.2.2.1,HR.out.2.2.2.1⟩
         case measure=>simp[intOf];omega
        .have h4:¬(((i:Nat):Int)<(Ts.length:Int)):=by omega
         have HF2:Hid (∀q,q<2->(Dk q).length=if q<s+1 then(dU sb.data.toList (q == 0) us.length).length else 0):=λq hq=>by
          by_cases c:q=s
          .subst c;rw[if_pos (by omega),Ak,<-HTL.out];omega
          .rw[HFo.out q hq c,HF.out q hq]
           by_cases d:q<s
           .rw[if_pos d,if_pos (by omega)]
           .rw[if_neg d,if_neg (by omega)]
         clear Ak;go_wp2
         go_roundw
         case rel=>exact⟨s+1,vt2,vf2,S2,L2,f2,Dk,by omega,by go_num,hV2,hL2,HF2.out⟩
         case measure=>simp[intOf];omega
      .have h3:¬(((s:Nat):Int)<2):=by omega
       have hse:s=2:=(by omega);subst hse;go_wp2
       obtain⟨xs0,hown0,Z8⟩:=hV.row 0 (by omega);obtain⟨xs1,hown1,SN⟩:=hV.row 1 (by omega);obtain⟨a0,c0,hf0,hc0,_⟩:=bu hown0;obtain⟨a1,c1,hf1,hc1,_⟩:=bu hown1;have hl0:(Fs 0).length=(dU sb.data.toList true us.length).length:=(by have:=HF.out 0 (by omega);simpa using this);have hl1:(Fs 1).length=(dU sb.data.toList false us.length).length:=(by have:=HF.out 1 (by omega);simpa using this);have LJ:qx us sb.data.toList true (Fs 0):=hV.fs 0 (by omega);have LH:qx us sb.data.toList false (Fs 1):=hV.fs 1 (by omega);have hsz:=N7 LJ LH hl0 hl1;have hk8:=kN_8 Pj;have hll:=lV sb.data.toList us.length;have hbl:=hV.blk;rw[hf0,hf1]at hbl;have hB0:Forms wr (.slice a0 (Fs 0).length c0) (Fs 0):=by
        rw[<-hf0];exact(Rows.dX (T:=λb=>b<wr.heap.size) hown0 rfl Z8 (λb hb=>Z8.2.1 b hb) (λb hb=>(hown0.lt b hb).2) (λ_ h=>h)).forms
       have hB1:Forms wr (.slice a1 (Fs 1).length c1) (Fs 1):=by
        rw[<-hf1];exact(Rows.dX (T:=λb=>b<wr.heap.size) hown1 rfl SN (λb hb=>SN.2.1 b hb) (λb hb=>(hown1.lt b hb).2) (λ_ h=>h)).forms
       have HL0:=aI hl0;have HL1:=aI hl1;have amm:(Fs 0).length<=8:=(by omega);have hlt1:(Fs 1).length<=8:=(by omega);clear hf0 hf1 hl0 hl1 hll;go_cut [12] (λx wc=>∃p aN cN F,x=.pointer (some ⟨p,0,none⟩)/\wr.heap.size<=p/\wc.heap[p]?=some (.cells #[.slice aN (List.length F) cN] 30 (0,0))/\Ext wr wc/\kg F us sb.data.toList/\F.length<=kN us.length/\nN (λb=>wr.heap.size<=b/\b<wc.heap.size/\b≠p) (λW=>eZ W 0 (.slice aN (List.length F) cN) F) wc)
       case first=>
        have nZ:∀W:World,Ext wr W->W.cell? ⟨bs,0,none⟩=some (.slice a0 (Fs 0).length c0)/\W.cell? ⟨bs,1,none⟩=some (.slice a1 (Fs 1).length c1):=λW hW=>by
         have hb:W.heap[bs]?=some (.cells #[.slice a0 (Fs 0).length c0,.slice a1 (Fs 1).length c1] 80 (0,0)):=(by rw[hW.block _ (bq hbl)];exact hbl);exact⟨bI W bs 0 _ _ _ hb,bI W bs 1 _ _ _ hb⟩
        refine kH (λW=>W.cell? ⟨bs,0,none⟩=some (.slice a0 (Fs 0).length c0)/\W.cell? ⟨bs,1,none⟩=some (.slice a1 (Fs 1).length c1)) [9] (by kernel_rfl) (nZ _ ⟨rfl,rfl,rfl,ax _,λ_ _=>rfl⟩) (λaa=>?_);(refine jT 0 aa ?_;refine jT 1 aa ?_;refine jT 2 aa ?_;refine jT 3 aa ?_;refine jT 4 aa ?_;refine jT 5 aa ?_);have fH:Ext wr wr.drew:=⟨rfl,rfl,rfl,ax _,λ_ _=>rfl⟩;obtain⟨W,hW⟩:=eu wr.drew;rw[<-hW]at fH aa ⊢;clear hW;refine wN (i:=6) (j:=8) (by kernel_rfl) ?_ ?_
        ·(refine rnA (i:=6) λK hK=>?_;go_simp)
         refine(BH _ _ (Fs 0) (Fs 1) _ (hB0.ext fH) (hB1.ext fH) LJ.good LH.good (by omega) (by omega) (by omega)).mono ?_;rintro e WA ⟨vN,F1,rfl,hN1,hI1,hS1,hl1,ZN⟩;replace fH:=ah fH ZN;(try replace hP:WA.heap[p]?=some (.cells #[.slice none 0 0] 30 (0,0)):=by rw[ZN.block _ (bq hP)];exact hP);clear ZN;obtain⟨W,rfl⟩:=eu WA;have aa:=nZ _ fH;refine hK.out _ _ (λ_=>aa) ?_;clear hK K;(try simp only[nP]);refine wN (i:=7) (j:=8) (by kernel_rfl) ?_ ?_
         ·(refine rnA (i:=7) λK hK=>?_;go_simp)
          refine(uL vN F1 _ (hN1.weaken (az _)) hI1.good (lT.2 hI1.ne) (by omega)).mono ?_;rintro e WB ⟨Yt,F2,g2,rfl,LD,hI2,hS2,hC2,hE2,hl2,KY⟩;obtain⟨aN,cN,rfl⟩:=LD.slice;have hval:=AX g LJ LH HL0.out HL1.out hS1 hI2 hS2 hC2 hE2;obtain⟨SB,Ef,hSw⟩:∃SB:Nat->Prop,nN SB (λW=>eZ W 0 (.slice aN (List.length F2) cN) F2) WB/\∀b,SB b->W.heap.size<=b/\wr.heap.size<=b:=⟨λb=>W.heap.size<=b/\b<WB.heap.size,LD.sup (λb hb=>hb.2) (λb h1 h2=>⟨h1,h2⟩),λb hb=>⟨hb.1,df fH.size hb.1⟩⟩;(try have hpb:∀b,SB b->b≠p:=λb hb e=>by have h1:=bq hP;have h2:=(hSw b hb).1;omega);have hSr:∀b,SB b->wr.heap.size<=b:=λb hb=>(hSw b hb).2
          clear hSw LD;replace fH:=ah fH KY;(try replace hP:WB.heap[p]?=some (.cells #[.slice none 0 0] 30 (0,0)):=by rw[KY.block _ (bq hP)];exact hP);clear KY;obtain⟨W,rfl⟩:=eu WB;have aa:=nZ _ fH;refine hK.out _ _ (λ_=>aa) ?_;clear hK K;(try simp only[nP]);(refine stA (i:=8) λK hK=>?_;go_simp);have Nn:Ext W (W.alloc (.cells #[.slice none 0 0] 30)):=(by go_grown);have hP:(W.alloc (.cells #[.slice none 0 0] 30)).heap[W.heap.size]?=some (.cells #[.slice none 0 0] 30 (0,0)):=dV _ _;have hpz:wr.heap.size<=W.heap.size:=fH.size;(try have hpb:∀b,SB b->b≠W.heap.size:=λb hb e=>by have:=Ef.1 b hb;omega);(try replace hN1:=hN1.ext Nn);(try replace Ef:=Ef.ext Nn);replace fH:=ah fH Nn;clear Nn;have aa:=nZ _ fH;generalize W.alloc (.cells #[.slice none 0 0] 30)=W1 at *;generalize W.heap.size=p at *;obtain⟨W,rfl⟩:=eu W1;refine hK.out _ _ (λ_=>aa) ?_;clear hK K;(try simp only[nP]);have cP:=bI W p 0 _ _ _ hP;have fP:=iW W p 0 _ _ hP;have hP2:=iV W p 0 _ _ (.slice aN (List.length F2) cN) hP;have HR:=yD hP2 (fH.setCell (p:=⟨p,0,none⟩) hpz (.slice aN (List.length F2) cN)) (Ef.keep (dx (p:=⟨p,0,none⟩) (v:=.slice aN (List.length F2) cN)) hpb);have HT:=jW hval (show List.length F2<=kN us.length by omega);clear hP hP2 Ef hval;refine VX [9] [_] ?_;go_wp2_with fail
          go_meet
          exact⟨p,aN,cN,F2,rfl,hpz,HR.out.1,HR.out.2.1,HT.out.1,HT.out.2,HR.out.2.2.mono (λb hb=>⟨hSr b hb,HR.out.2.2.1 b hb,hpb b hb⟩) (λb hb=>hb.2.1) (λ_ h=>h)⟩
         ·(refine rnA (i:=8) λK hK=>?_;go_simp)
          have Nn:Ext W (W.alloc (.cells #[.slice none 0 0] 30)):=(by go_grown);have hP:(W.alloc (.cells #[.slice none 0 0] 30)).heap[W.heap.size]?=some (.cells #[.slice none 0 0] 30 (0,0)):=dV _ _;have hpz:wr.heap.size<=W.heap.size:=fH.size;(try have hpb:∀b,SB b->b≠W.heap.size:=λb hb e=>by have:=Ef.1 b hb;omega);(try replace hN1:=hN1.ext Nn);(try replace Ef:=Ef.ext Nn);replace fH:=ah fH Nn;clear Nn;have aa:=nZ _ fH;generalize W.alloc (.cells #[.slice none 0 0] 30)=W1 at *;generalize W.heap.size=p at *;obtain⟨W,rfl⟩:=eu W1;refine hK.out _ _ (λ_=>aa) ?_;clear hK K;(try simp only[nP]);(refine stA (i:=7) λK hK=>?_;go_simp);refine(uL vN F1 _ (hN1.weaken (az _)) hI1.good (lT.2 hI1.ne) (by omega)).mono ?_;rintro e WB ⟨Yt,F2,g2,rfl,LD,hI2,hS2,hC2,hE2,hl2,KY⟩;obtain⟨aN,cN,rfl⟩:=LD.slice;have hval:=AX g LJ LH HL0.out HL1.out hS1 hI2 hS2 hC2 hE2;obtain⟨SB,Ef,hSw⟩:∃SB:Nat->Prop,nN SB (λW=>eZ W 0 (.slice aN (List.length F2) cN) F2) WB/\∀b,SB b->W.heap.size<=b/\wr.heap.size<=b:=⟨λb=>W.heap.size<=b/\b<WB.heap.size,LD.sup (λb hb=>hb.2) (λb h1 h2=>⟨h1,h2⟩),λb hb=>⟨hb.1,df fH.size hb.1⟩⟩;(try have hpb:∀b,SB b->b≠p:=λb hb e=>by have h1:=bq hP;have h2:=(hSw b hb).1;omega);have hSr:∀b,SB b->wr.heap.size<=b:=λb hb=>(hSw b hb).2
          clear hSw LD;replace fH:=ah fH KY;(try replace hP:WB.heap[p]?=some (.cells #[.slice none 0 0] 30 (0,0)):=by rw[KY.block _ (bq hP)];exact hP);clear KY;obtain⟨W,rfl⟩:=eu WB;have aa:=nZ _ fH;refine hK.out _ _ (λ_=>aa) ?_;clear hK K;(try simp only[nP]);have cP:=bI W p 0 _ _ _ hP;have fP:=iW W p 0 _ _ hP;have hP2:=iV W p 0 _ _ (.slice aN (List.length F2) cN) hP;have HR:=yD hP2 (fH.setCell (p:=⟨p,0,none⟩) hpz (.slice aN (List.length F2) cN)) (Ef.keep (dx (p:=⟨p,0,none⟩) (v:=.slice aN (List.length F2) cN)) hpb);have HT:=jW hval (show List.length F2<=kN us.length by omega);clear hP hP2 Ef hval;refine VX [9] [_] ?_;go_wp2_with fail
          go_meet
          exact⟨p,aN,cN,F2,rfl,hpz,HR.out.1,HR.out.2.1,HT.out.1,HT.out.2,HR.out.2.2.mono (λb hb=>⟨hSr b hb,HR.out.2.2.1 b hb,hpb b hb⟩) (λb hb=>hb.2.1) (λ_ h=>h)⟩
        ·(refine rnA (i:=8) λK hK=>?_;go_simp)
         have Nn:Ext W (W.alloc (.cells #[.slice none 0 0] 30)):=(by go_grown);have hP:(W.alloc (.cells #[.slice none 0 0] 30)).heap[W.heap.size]?=some (.cells #[.slice none 0 0] 30 (0,0)):=dV _ _;have hpz:wr.heap.size<=W.heap.size:=fH.size;(try have hpb:∀b,SB b->b≠W.heap.size:=λb hb e=>by have:=Ef.1 b hb;omega);(try replace hN1:=hN1.ext Nn);(try replace Ef:=Ef.ext Nn);replace fH:=ah fH Nn;clear Nn;have aa:=nZ _ fH;generalize W.alloc (.cells #[.slice none 0 0] 30)=W1 at *;generalize W.heap.size=p at *;obtain⟨W,rfl⟩:=eu W1;refine hK.out _ _ (λ_=>aa) ?_;clear hK K;(try simp only[nP]);(refine stA (i:=6) λK hK=>?_;go_simp);refine(BH _ _ (Fs 0) (Fs 1) _ (hB0.ext fH) (hB1.ext fH) LJ.good LH.good (by omega) (by omega) (by omega)).mono ?_;rintro e WA ⟨vN,F1,rfl,hN1,hI1,hS1,hl1,ZN⟩;replace fH:=ah fH ZN;(try replace hP:WA.heap[p]?=some (.cells #[.slice none 0 0] 30 (0,0)):=by rw[ZN.block _ (bq hP)];exact hP);clear ZN;obtain⟨W,rfl⟩:=eu WA;have aa:=nZ _ fH;refine hK.out _ _ (λ_=>aa) ?_;clear hK K;(try simp only[nP]);(refine stA (i:=7) λK hK=>?_;go_simp);refine(uL vN F1 _ (hN1.weaken (az _)) hI1.good (lT.2 hI1.ne) (by omega)).mono ?_;rintro e WB ⟨Yt,F2,g2,rfl,LD,hI2,hS2,hC2,hE2,hl2,KY⟩;obtain⟨aN,cN,rfl⟩:=LD.slice;have hval:=AX g LJ LH HL0.out HL1.out hS1 hI2 hS2 hC2 hE2;obtain⟨SB,Ef,hSw⟩:∃SB:Nat->Prop,nN SB (λW=>eZ W 0 (.slice aN (List.length F2) cN) F2) WB/\∀b,SB b->W.heap.size<=b/\wr.heap.size<=b:=⟨λb=>W.heap.size<=b/\b<WB.heap.size,LD.sup (λb hb=>hb.2) (λb h1 h2=>⟨h1,h2⟩),λb hb=>⟨hb.1,df fH.size hb.1⟩⟩;(try have hpb:∀b,SB b->b≠p:=λb hb e=>by have h1:=bq hP;have h2:=(hSw b hb).1;omega);have hSr:∀b,SB b->wr.heap.size<=b:=λb hb=>(hSw b hb).2
         clear hSw LD;replace fH:=ah fH KY;(try replace hP:WB.heap[p]?=some (.cells #[.slice none 0 0] 30 (0,0)):=by rw[KY.block _ (bq hP)];exact hP);clear KY;obtain⟨W,rfl⟩:=eu WB;have aa:=nZ _ fH;refine hK.out _ _ (λ_=>aa) ?_;clear hK K;(try simp only[nP]);have cP:=bI W p 0 _ _ _ hP;have fP:=iW W p 0 _ _ hP;have hP2:=iV W p 0 _ _ (.slice aN (List.length F2) cN) hP;have HR:=yD hP2 (fH.setCell (p:=⟨p,0,none⟩) hpz (.slice aN (List.length F2) cN)) (Ef.keep (dx (p:=⟨p,0,none⟩) (v:=.slice aN (List.length F2) cN)) hpb);have HT:=jW hval (show List.length F2<=kN us.length by omega);clear hP hP2 Ef hval;refine VX [9] [_] ?_;go_wp2_with fail
         go_meet
         exact⟨p,aN,cN,F2,rfl,hpz,HR.out.1,HR.out.2.1,HT.out.1,HT.out.2,HR.out.2.2.mono (λb hb=>⟨hSr b hb,HR.out.2.2.1 b hb,hpb b hb⟩) (λb hb=>hb.2.1) (λ_ h=>h)⟩
       case rest=>
        obtain⟨p,aN,cN,F,rfl,hpz,hP,tV,LC,hFk,Qd⟩:=hcut;have hpI:¬kM px vt vf p:=λk=>by have:=hV.tb.zN k;omega
        have hX1:=(hV.tb.ext tV).tx;have hVc:=hV.ext tV;have agv:=aI hV.tb.law;have Vz:L'.length<=1000000:=by
         have h1:((Fs 0).length+(Fs 1).length)*kN (us.length-1)+1<=kN us.length:=by
          have:=lV sb.data.toList us.length;have e:(Fs 0).length+(Fs 1).length=us.length:=(by rw[HL0.out,HL1.out];exact this);rw[e];cases us.length with
          |zero=>simp[kN]
          |succ n=>rw[kN];simp;omega
         omega
        have adG:L'.length+1<=L.length+kN us.length:=by
         have h1:((Fs 0).length+(Fs 1).length)*kN (us.length-1)+1<=kN us.length:=by
          have:=lV sb.data.toList us.length;have e:(Fs 0).length+(Fs 1).length=us.length:=(by rw[HL0.out,HL1.out];exact this);rw[e];cases us.length with
          |zero=>simp[kN]
          |succ n=>rw[kN];simp;omega
         omega
        obtain⟨Lt,hLt⟩:=eu (L'.map (·.1));obtain⟨Lf,hLf⟩:=eu (L'.map (·.2));rw[<-hLt,<-hLf]at hX1;have hnT:Lt.length<=1000000:=(by rw[hLt];simpa using Vz);have hnF:Lf.length<=1000000:=(by rw[hLf];simpa using Vz);have Qn:=aI hLt;have HLF:=aI hLf;clear hLt hLf;obtain⟨aT2,cT2,rfl,ac8,_⟩:=bu hX1.texts;obtain⟨xsF,SA,Vu⟩:=hX1.forms;obtain⟨Qm,PM,rfl,aai,_⟩:=bu SA;have b0:=bI wc px 0 _ _ _ hX1.cells;have XD:=aI hV;have Dj:=aI hX1;have hto:=hX1.texts;have hap:=hX1.kD;have hcl:=hX1.cells;have HT:=aI LC;clear hX1 hV LC Vu SA hB0 hB1 hown0 hown1 Z8 SN LJ LH hbl;go_upto_region 22 with(at_builtin;(refine dm rfl (.tmp 100) (.tmp 102) 74 rfl 0 9 i1 (.string ⟨#[]⟩) 1 16 underlying74 hi1 hy0 hy1 hy2 rfl (by decide) (.slice aT2 Lt.length cT2) Lt.length (Lt.map Value.string) rfl (hto.alloc _) _ 1 _ [.string tb] rfl rfl (.inr ⟨_,rfl,dA (bY _ _ _)⟩) (by intro u hu;simp at hu;subst hu;rfl) (by unfold maxLen;omega) (by omega) (az _) ?_;intro v5 w5 ji hg5 hl5;obtain⟨a5,c5,rfl,-⟩:=bu ji;obtain⟨YY,Gc,b5,f5⟩:=Dj.out.text ji hg5 hl5))
        generalize w5.setCell ⟨px,0,none⟩ (.slice a5 (Lt.length+1) c5)=W5 at *;have hzp:=bq hP;have hz0:=tV.size;have hP5:W5.heap[p]?=some (.cells #[.slice aN (List.length F) cN] 30 (0,0)):=(by rw[Gc.block hzp hpI];exact hP);have hIw:∀b,kM px (.slice aT2 Lt.length cT2) (.slice Qm Lf.length PM) b->b<wr.heap.size:=λb hb=>XD.out.tb.zN hb
        have acz:=Gc.sup Qd (λb hb k=>by have:=hIw b k;omega);obtain⟨xsF,SA,Vu⟩:=YY.forms
        have nZ:∀W:World,Ext W5 W->W.cell? ⟨px,1,none⟩=some (.slice Qm Lf.length PM)/\W.cell? ⟨p,0,none⟩=some (.slice aN (List.length F) cN):=λW hW=>
         ⟨bI W px 1 _ _ _ (by rw[hW.block _ (bq YY.cells)];exact YY.cells),bI W p 0 _ _ _ (by rw[hW.block _ (bq hP5)];exact hP5)⟩
        have hxd:Ext W5 W5.drew:=⟨rfl,rfl,rfl,ax _,λ_ _=>rfl⟩;have Pp:=YY.ext hxd;have hGd:=TG.ext (px:=px) (vt:=.slice a5 (Lt.length+1) c5) (vf:=.slice Qm Lf.length PM) (S:=S') hxd;have hod:=bW SA hxd;have hid:=Vu.ext hxd;have hsd:=acz.ext hxd;have Y3:W5.drew.heap[p]?=some (.cells #[.slice aN (List.length F) cN] 30 (0,0)):=hP5;have Qo:=aI Gc;have air:=aI adG;clear hP Qd acz hP5 YY Gc SA Vu ji hg5 hl5 b5 f5 hto hap hcl b0 hVc adG Y6;refine kH (λW=>W.cell? ⟨px,1,none⟩=some (.slice Qm Lf.length PM)/\W.cell? ⟨p,0,none⟩=some (.slice aN (List.length F) cN)) [8,9,10] (by kernel_rfl) (nZ _ hxd) (λaa=>?_);(refine jT 0 aa ?_;refine jT 1 aa ?_;refine jT 2 aa ?_;refine jT 3 aa ?_;refine jT 4 aa ?_;refine jT 5 aa ?_);(refine stA (i:=6) λK hK=>?_;go_simp);have hx6:Ext W5.drew (W5.drew.alloc (.cells #[.slice aN (List.length F) cN] 30)):=(by go_grown);have aa:=nZ _ (ah hxd hx6);refine hK.out _ _ (λ_=>aa) ?_;clear hK K;(try simp only[nP]);refine stA (i:=7) λK hK=>?_
        refine gu rfl (.tmp 110) (.tmp 112) 80 rfl 0 30 i0 (.agg #[.slice none 0 0]) 1 24 underlying80 hi0 hz0' hz1 hz2 rfl (by decide) (.slice Qm Lf.length PM) Lf.length xsF rfl (bW hod hx6) _ 1 _ [.slice aN (List.length F) cN] rfl rfl (.inr ⟨_,rfl,dA (bY _ _ _)⟩) (by intro u hu;simp at hu;subst hu;rfl) (by unfold maxLen;omega) (by omega) (az _) ?_;intro v7 w7 zf zS Lj;obtain⟨a7,c7,rfl,-⟩:=bu zf;have JJ:nN (λb=>wr.heap.size<=b/\b<wc.heap.size/\b≠p) (λW=>tY W [.slice aN (List.length F) cN] F) W5.drew:=hsd.mono (λ_ h=>h) hsd.1 (λW h=>⟨aN,cN,rfl,h⟩);have XC:∀b,kM px (.slice a5 (Lt.length+1) c5) (.slice Qm Lf.length PM) b->kM px (.slice aT2 Lt.length cT2) (.slice Qm Lf.length PM) b\/wc.heap.size<=b:=Qo.out.ins;obtain⟨hX7,SK,hi7,b7,f7⟩:=Pp.form hid zf zS Lj JJ (λb hb k=>by
         rcases XC b k with k|k
         .have:=hIw b k;omega
         .omega)
        have Nk:=Qo.out.keep.size;have hzd:W5.drew.heap.size=W5.heap.size:=rfl;have hIp:¬kM px (.slice a5 (Lt.length+1) c5) (.slice Qm Lf.length PM) p:=λk=>by
         rcases XC p k with k|k
         .exact hpI k
         .omega
        have hnx:p≠px:=λe=>hpI (.inl e)
        have agO:(W5.drew.alloc (.cells #[.slice aN (List.length F) cN] 30)).grownBy w7 (Value.slice Qm Lf.length PM).ownBlock:=zS;have GG:=((((XD.out.tg.trans (TG.ext tV)).trans Qo.out).trans hGd).trans (⟨SK,hi7,λ_ h=>h,λ_ h=>.inl h⟩:TG W5.drew (w7.setCell ⟨px,1,none⟩ (.slice a7 (Lf.length+1) c7)) px (.slice a5 (Lt.length+1) c5) (.slice Qm Lf.length PM) S' (.slice a5 (Lt.length+1) c5) (.slice a7 (Lf.length+1) c7) S'));have YI:=XD.out.tg.keep.size
        have hG8:TG w (w7.setCell ⟨px,1,none⟩ (.slice a7 (Lf.length+1) c7)) px (.slice aT L.length cT) (.slice aF L.length cF) S (.slice a5 (Lt.length+1) c5) (.slice a7 (Lf.length+1) c7) (λb=>S' b\/(wr.heap.size<=b/\b<wc.heap.size/\b≠p)):=
         ⟨GG.keep,GG.ins,λb h=>.inl (GG.s1 b h),λb hb=>hb.elim (GG.s2 b) (λh=>.inr (by omega))⟩
        have hr1:=bq XD.out.res;have hIr:¬kM px (.slice a5 (Lt.length+1) c5) (.slice Qm Lf.length PM) (w.heap.size+1):=λk=>by
         rcases XC _ k with k|k
         .exact XD.out.p1.1 k
         .omega
        have ahm:¬kM px (.slice a5 (Lt.length+1) c5) (.slice a7 (Lf.length+1) c7) (w.heap.size+1):=λk=>by
         rcases hi7 _ k with k|k
         .exact hIr k
         .omega
        have ado:∀b,S' b\/(wr.heap.size<=b/\b<wc.heap.size/\b≠p)->b≠w.heap.size+1:=λb hb e=>by
         rcases hb with h|h
         .exact XD.out.p1.2 (by rw[<-e];exact h)
         .omega
        have hR7:(w7.setCell ⟨px,1,none⟩ (.slice a7 (Lf.length+1) c7)).heap[w.heap.size+1]?=some (.cells #[.slice none 0 0] 30 (0,0)):=by
         rw[SK.block _ (by omega) hIr];show W5.heap[w.heap.size+1]?=_;rw[Qo.out.block (by omega) XD.out.p1.1,tV.block _ hr1];exact XD.out.res
        have hP7:(w7.setCell ⟨px,1,none⟩ (.slice a7 (Lf.length+1) c7)).heap[p]?=some (.cells #[.slice aN (List.length F) cN] 30 (0,0)):=by
         rw[SK.block _ (by omega) hIp];exact Y3
        have aa:w7.cell? ⟨px,1,none⟩=some (.slice Qm Lf.length PM)/\w7.cell? ⟨p,0,none⟩=some (.slice aN (List.length F) cN):=⟨b7,by
         have e:w7.heap[p]?=some (.cells #[.slice aN (List.length F) cN] 30 (0,0)):=by
          rw[<-hP7,jH _ _ _ _ hnx]
         exact bI w7 p 0 _ _ _ e⟩
        have hSF:=(hsd.keep SK (λb hb k=>by
         rcases XC b k with k|k
         .have:=hIw b k;omega
         .omega))
        have HX7:=aI hX7;have HG8:=aI hG8;have HSF:=aI hSF;clear hX7 hG8 hSF GG hsd JJ hod hid Pp hGd zf zS agO Lj XD SK hi7;have c9:=bI _ p 0 _ _ _ hP7;have r9:=bI _ (w.heap.size+1) 0 _ _ _ hR7;have g9:=iW _ (w.heap.size+1) 0 _ _ hR7;have HH:=aI (iV _ (w.heap.size+1) 0 _ _ (.slice aN (List.length F) cN) hR7);refine hK.out _ _ (λ_=>aa) ?_;clear hK K;(try simp only[nP]);refine VX [8,9,10] [_,_,_] ?_;go_upto_region 23 with fail
        generalize w7.setCell ⟨px,1,none⟩ (.slice a7 (Lf.length+1) c7)=W9 at *;clear b7 f7 aa hP7 hR7;go_wp2
        (try simp only[Exit.inBlock,Exit.then]);refine bodyPost_ret (results_cell_row rfl _ _ (w.heap.size+1) 30 #[.slice aN (List.length F) cN] (0,0) _ rfl HH.out underlying30 rfl (by kernel_rfl)) rfl ?_;have hk9:=dx (w:=W9) (p:=⟨w.heap.size+1,0,none⟩) (v:=.slice aN (List.length F) cN);refine⟨_,F,_,_,_,L'++[(tb,F)],rfl,(HSF.out.mono (λb hb=>.inr hb) (λb hb=>HX7.out.Yz hb) (λ_ h=>h)).keep hk9 (λb hb e=>?_),HT.out,hFk,?_,HG8.out.set (p:=⟨w.heap.size+1,0,none⟩) (by show w.heap.size<=w.heap.size+1;omega) _,by rw[aK];simpa using air.out⟩
        .exact ado b hb e
        .have e1:(L'++[(tb,F)]).map (·.1)=Lt++[tb]:=by rw[bz,<-Qn.out];rfl
         have e2:(L'++[(tb,F)]).map (·.2)=Lf++[F]:=(by rw[bz,<-HLF.out];rfl);have hX:=HX7.out;rw[<-e1,<-e2]at hX;refine(hX.tb (λx hx=>?_)).keep hk9 (λb hb e=>ahm (by rw[<-show b=w.heap.size+1 from e];exact hb)) (λb hb e=>ado b hb e);rcases aM.1 hx with h|h
         .exact agv.out x h
         .simp only[dB]at h
          subst h;exact⟨us,sb.data.toList,g,HT3.out,HT.out,hFk⟩
theorem NV(m:Nat):UG m:=by
 induction m using Nat.strongRecOn with
 |ind m ih=>exact JR m ih
