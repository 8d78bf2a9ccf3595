/-
  Contract of the program's DominoValue. (3 texts.)
-/
import Derived.Test.YteknjeohbcgpdaaGreatDoorK27
import Derived.Test.YteknjeohbcgpdaaGreatDoorK41
import Derived.Test.YteknjeohbcgpdaaGreatDoorK46
import Derived.Laws.EntriesVeiled
set_option maxRecDepth 100000
namespace Go.Proofs.YteknjeohbcgpdaaGreatDoor
open Tryz
section
open Go.RowKit
open bO (fw GB fD fr wS mH rD pK can pq iM)
variable {w w3 wr:World} {ov:Value} {out:List ByteArray}
structure X9(w w3 wr:World)(ov:Value)(out:List ByteArray):Prop where
 keep:dX (λb=>b=w.heap.size) w3 wr
 own:wr.ownsRow w.heap.size 9 1 ov out.length (out.map Value.string)
 sep:∀b,ov.ownBlock=some b->b=w.heap.size\/w3.heap.size<=b
theorem X9.ext'{w2:World}(m:X9 w w3 wr ov out)(hx:Ext wr w2):X9 w w3 w2 ov out:=
 ⟨m.keep.trans (fq (F:=λb=>b=w.heap.size) hx) (λ_ _ h=>h),bY m.own hx,m.sep⟩
theorem X9.ext(m:X9 w w3 wr ov out)(h:Ext w w3):Ext w wr:=jw h m.keep λx e=>by omega
theorem X9.push{w4 w5:World}{v5:Value}{X:Obj}{s:ByteArray}(m:X9 w w3 wr ov out)(hx:Ext wr w4)
 (ho:w5.ownsRow w.heap.size 9 1 v5 (out.length+1) (out.map Value.string++[.string s])) (hg:(w4.alloc X).grownBy w5 ov.ownBlock) (hl:kR (w4.alloc X) ov v5):X9 w w3 w5 v5 (out++[s]):=by
 have hz:(w4.alloc X).heap.size=w4.heap.size+1:=eQ _ _;have z1:=m.keep.size;have z4:=hx.size;have zg:=hg.size;refine⟨?_,by rw[bG,aK];exact ho,λb hb=>?_⟩
 .have hk:dX (λb=>ov.ownBlock=some b) wr w5:=⟨hg.os.trans hx.os,hg.tape.trans hx.tape,hg.output.trans hx.output,by omega,λb hb hn=>by
   rw[hg.block b (by omega) (λe=>hn e.symm),Below.heap_alloc _ _ _ (by omega),hx.block b hb]⟩
  exact m.keep.trans hk λb hb e=>by rcases m.sep b e with k|k;exact k;omega
 .rcases hl with e|⟨q,e,k⟩
  .exact m.sep b (by rw[<-e];exact hb)
  .rw[e]at hb;injection hb with hb;exact .inr (by omega)
theorem OC{b:fw}{hh ww:Nat}(g:GB b hh ww){left:Bool}{y:fw}(hy:y∈iM left b ww hh):GB y hh ww:=by
 obtain⟨r,c,_,rfl⟩:=(bO.vk g).1 hy;exact g.wS left r c
theorem Jh(w:World)(xs:List ByteArray)(h:xs.length<=1152921504606846976){n:Nat}(hn:n=xs.length):Strs (w.alloc (.cells (xs.map Value.string).toArray 9)) (.slice (some ⟨w.heap.size,0,none⟩) n n) xs:=by
 subst hn;refine⟨_,xs.length,by rw[bD],by simp,by simpa using h,λh0=>⟨w.heap.size,0,rfl,λi hi=>?_⟩⟩;rw[jf,cell_of_row _ w.heap.size i _ _ (0,0) (heap_alloc_new w _)];simp at hi ⊢
def Od(b:fw)(hh ww:Nat)(left:Bool)(w:World)(e:Ending)(w':World):Prop:=
 ∃(v:Value) (ss:List ByteArray),e=.returned v/\w'.ownsRow w.heap.size 9 1 v ss.length (ss.map Value.string)/\ss.map ll=(iM left b ww hh).map fD/\Ext w w'
set_option maxHeartbeats 4000000 in
theorem NK(sb:ByteArray)(b:fw)(hh ww:Nat)(left:Bool)(m:Int)(w:World)(g:GB b hh ww)(hb:ll sb=fD b)(hm:w.cell? ⟨0,0,none⟩=some (.int .i64 m)):
 Calls prog 45 #[.string sb,.bool left] w (Od b hh ww left w):=by
 obtain⟨i0,hi0,hz0,hz1,hz2⟩:=info_parts pX;obtain⟨hcnt,UL⟩:=qR g hb;have hh8:=g.h1;have hw8:=g.w1;have hbl:b.length=hh:=g.hgt;have hsz:sb.size<4294967281:=by
  have:=rW (b:=b) λr hr=>by have:=(g.row r hr).1;have:=g.w1;omega
  rw[<-hb,jA]at this;omega
 have hm0:=lt_of_cell hm;obtain⟨parts,hparts⟩:∃parts,parts=Lib.splitB ⟨#[47]⟩ 0 (Lib.countB sb ⟨#[47]⟩) sb:=⟨_,rfl⟩;rw[<-hparts]at UL;have hpl:Lib.countB sb ⟨#[47]⟩+1=parts.length:=by rw[hcnt,<-UL,iy]
 have hr0:=World.ownsRow_made w (base:=w.heap.size) (e:=9) (size:=1) #[] 0 (ay _) (by decide) (by simp);have hx1:Ext w (w.alloc (.cells #[] 9)):=by go_grown
 have YK:(w.alloc (.cells #[] 9)).heap.size=w.heap.size+1:=eQ _ _;have hm1:=(hx1.cell (lt_of_cell hm)).trans hm;have hst:=Jh (w.alloc (.cells #[] 9)) parts (by rw[<-hpl,hcnt];omega) hpl;have hx2:Ext (w.alloc (.cells #[] 9)) ((w.alloc (.cells #[] 9)).alloc (.cells (parts.map Value.string).toArray 9)):=by go_grown
 have hsplit:=Tryz.strings_Split sb ⟨#[47]⟩ m (w.alloc (.cells #[] 9)) hsz hm1 (by decide);rw[<-hparts,YK]at hsplit;rw[YK]at hst;have hmv:=Qy _ parts hh ww left _ hst (by rw[UL];exact g);rw[UL]at hmv;obtain⟨Ts,hTs⟩:∃Ts,Ts=iM left b ww hh:=⟨_,rfl⟩;unfold IB at hmv;rw[<-hTs]at hmv;have Sa:=aQ hTs;have HG:=aQ g;have HTL:Hid (Ts.length<=64):=aQ (by
  rw[hTs];have hTL:=bO.vw left b ww hh;have arn:=gu hh8.2 hw8.2;omega)
 generalize Lib.countB sb ⟨#[47]⟩+1=nc at *;clear hcnt UL hparts hst hm hm1 hbl g hpl hsz hTs;go_enter Tryz.func45,Tryz.ntmps45
 go_upto_region 2 with fail
 go_upto_region 3 with(first
  |(go_at_call 87;refine hmv.mono ?_;rintro e w3 ⟨vT,rfl,IQ,hx3⟩;obtain⟨xsT,aT,cT,rfl,-,-,-⟩:=id IQ)
  |(go_at_call 72;refine hsplit.mono ?_;rintro e w2 ⟨rfl,rfl⟩))
 have hM0:X9 w w3 w3 (.slice (some ⟨w.heap.size,0,none⟩) 0 0) []:=⟨fq (Below.refl _ _),bY hr0 (ax hx2 hx3),λb hb=>by simp[Value.ownBlock]at hb;exact .inl hb.symm⟩;have PO:=aQ (ax hx1 (ax hx2 hx3));obtain⟨SP,aku,IQ⟩:∃SP:Nat->Prop,(∀b,SP b->w.heap.size<b/\b<w3.heap.size)/\Rows uM 1 SP w3 (.slice aT Ts.length cT) Ts:=⟨_,λb hb=>⟨by have:=hb.1;have:=hx2.size;omega,hb.2⟩,IQ⟩;have Xg:=aQ IQ;clear hr0 hx1 hx2 hx3 IQ hmv hsplit YK;go_loopw [5,15] (λov ii wr=>∃(k:Nat) (out:List ByteArray),ii=.int .i64 ((k:Nat):Int)/\k<=Ts.length/\X9 w w3 wr ov out/\Hid (out.map ll=(Ts.take k).map fD)) (λ_ ii _=>Ts.length-(intOf ii).toNat)
 case atStart=>exact⟨0,[],rfl,aJ _,hM0,aQ rfl⟩
 case round=>
  clear hM0;obtain⟨k,out,rfl,hk,hM,xN⟩:=hrel;by_cases hlt:k<Ts.length
  .have hil:((k:Nat):Int)<((Ts.length:Nat):Int):=by omega
   have fJ:=aQ hlt;have aqB:k<64:=(by have:=HTL.out;omega);have hRw:=Xg.out.keep hM.keep (λb hb e=>by have:=(aku b hb).1;omega);obtain⟨bC,agS,aU,cU,sk,he,-,cl,hbd,R4⟩:=hRw.Ad fJ.out;simp only[Value.slice.injEq]at he;obtain⟨rfl,-,rfl⟩:=he;have hgk:GB (bd sk) hh ww:=by
    refine OC HG.out (left:=left) ?_;rw[hbd,<-Sa.out];exact ai fJ.out
   have hS:=R4.out;have hol:out.length=k:=(by have:=congrArg List.length xN.out;simp at this;omega);have ae9:out.length<=64:=(by have:=HTL.out;omega);have PQ:=aQ hbd;have HM:=aQ hM;obtain⟨ao,co,rfl,-,-⟩:=bH hM.own;have ho:=hM.own;have XH:=hM.keep.size;have aiS:=PO.out.size;clear hRw R4 hbd hM hlt hol;go_upto_region 5 with fail
   have hx4:Ext wr (wr.alloc (.cells #[.slice aU sk.length cU] 31)):=(by go_grown);have hb4:=heap_alloc_new wr (.cells #[.slice aU sk.length cU] 31);have yJ:=bY ho hx4;have Pb:=Strs.ext hS hx4;generalize wr.alloc (.cells #[.slice aU sk.length cU] 31)=W4 at *;generalize wr.heap.size=p4 at *;have cb4:=cell_of_row W4 p4 0 _ _ _ hb4;simp only[gE]at cb4;have EL:w.heap.size<=W4.heap.size:=(by have:=bu hb4;omega);clear ho hb4 hS cl
   go_wp2_with (first
    |(at_builtin;refine dC rfl (.tmp 19) (.tmp 22) 22 rfl w.heap.size 9 i0 (.string ⟨#[]⟩) 1 16 underlying22 hi0 hz0 hz1 hz2 rfl (by decide) (.slice ao out.length co) out.length (out.map Value.string) rfl (iT.alloc _) _ 1 _ [.string so] rfl rfl (.inr ⟨_,rfl,dJ (dh _ _ _)⟩) (by intro u hu;simp at hu;subst hu;rfl) (by unfold maxLen;omega) (by omega) (by rw[eQ];omega) ?_;intro v6 w6 OZ Km YX)
    |(go_at_call 43;refine(sW _ sk hh ww _ Pb hgk).mono ?_;rintro e w5 ⟨so,rfl,hso,hx5⟩;have iT:=bY yJ hx5;have UA:=hx5.size))
   go_roundw
   case rel=>exact⟨k+1,out++[so],by go_num,fJ.out,HM.out.push (ax hx4 hx5) OZ Km YX,aQ (by rw[bG,xN.out,bg fJ.out,bG,<-PQ.out];simp[hso])⟩
   case measure=>have:=fJ.out;simp[intOf];omega
  .have hil:¬(((k:Nat):Int)<((Ts.length:Nat):Int)):=by omega
   have hke:k=Ts.length:=(by omega);have HR:Hid (out.map ll=(iM left b ww hh).map fD):=aQ (by rw[xN.out,hke,dB,Sa.out]);have HO:=aQ hM.own;have HE:=aQ (hM.ext PO.out);clear hM hke;go_wp2
   go_ret
   exact⟨_,out,rfl,HO.out,HR.out,HE.out⟩
end
section
open Go.RowKit
open bO (dH Nd vl Gm Canon iO fC dZ Same)
variable {V:Sv}
theorem ac4(hV:V.Ok):∀n,Ob V n:=by
 intro n
 induction n with
 |zero=>intro w0 pp h kb s fk n g sb w hn;omega
 |succ n ih=>exact Q7 hV ih
theorem VN(hV:V.Ok)(w0:World)(pp h kb:Nat)(s:iH)(fk:Value->Option Value)(n:Nat)(g:Gm)(sb:ByteArray)(w:World)(hT:V.T n g sb)(K:Ep V 0 w0 w pp h kb s fk)(hG:V.G w0):
 Calls prog 86 #[.agg #[.pointer (some ⟨pp,0,none⟩),.map (some kb),.func (.func V.fn) #[] #[]],.string sb] w (wJ V w0 pp h kb s fk n g w):=
 ac4 hV (n+1) w0 pp h kb s fk n g sb w (by omega) hT K hG
def NR(g:Gm)(w:World)(e:Ending)(w':World):Prop:=
 ∃F vN Fr ok sl,e=.returned (.tuple #[.agg #[vN],.bool ok])/\fO F g/\ok=iQ F/\Fr=(if ok then F else [])/\FO w' w.heap.size vN Fr.length sl (oZ Fr)/\Ext w w'
def L6:List Row:=[⟨0,[],12,[6]⟩,⟨1,[0],13,[11]⟩,⟨2,[],14,[6]⟩,⟨3,[],15,[0]⟩,⟨4,[2,3],16,[13,14]⟩,⟨5,[1,4,4],17,[12,15]⟩,⟨6,[5],18,[16]⟩,⟨7,[5],19,[16]⟩,⟨8,[6,5,0,1,2,3,4,5,6,7],0,[4,17]⟩,⟨9,[7,8,0,1,2,3,4,5,6,7,8],6,[18]⟩]
def JD:iH:=⟨.slice none 0 0,.slice none 0 0,.slice none 0 0,[],λ_=>False,λ_=>none⟩
set_option maxHeartbeats 4000000 in
theorem LW(hV:V.Ok)(n:Nat)(g:Gm)(sb:ByteArray)(w:World)(hT:V.T n g sb)(hG:V.G w):
 Calls prog 44 #[.string sb,.func (.func V.fn) #[] #[]] w (NR g w):=by
 have hb1:(w.alloc (.cells #[.slice none 0 0] 28)).heap[w.heap.size]?=some (.cells #[.slice none 0 0] 28 (0,0)):=heap_alloc_new _ _;have hx1:Ext w (w.alloc (.cells #[.slice none 0 0] 28)):=by go_grown
 have hmm:=λw:World=>run_makeMap_plain (P:=prog) (w:=w) 113
 go_enter Tryz.func44,Tryz.ntmps44
 go_upto_region 1 with fail
 generalize w.alloc (.cells #[.slice none 0 0] 28)=W1 at *;generalize hf1:w.heap.size=f1 at *;have QU:f1<W1.heap.size:=bu hb1;go_upto_region 2 with(go_at_call 68;refine(Zaa W1).mono ?_;rintro e w2 ⟨h,hh,rfl,hp2,zF,hz2,hx2⟩)
 subst hh;have hx3:Ext w2 (w2.alloc (.map #[] 0)):=bS (Below.refl _ _) _;have aft:(w2.alloc (.map #[] 0)).heap[W1.heap.size+6]?=some (.map #[] 0):=by rw[<-hz2];exact heap_alloc_new _ _
 have hz3:(w2.alloc (.map #[] 0)).heap.size=W1.heap.size+6+1:=by rw[eQ,hz2]
 have aaG:=(dz.empty hp2 zF).ext hx3;have ui:=ax hx2 hx3;generalize w2.alloc (.map #[] 0)=W3 at *;have K3:Ep V 0 W1 W3 (W1.heap.size+1+1+1+1+1) W1.heap.size (W1.heap.size+6) JD (λ_=>none):=by
  have hp:∀b,jN (W1.heap.size+1+1+1+1+1) W1.heap.size JD b->W1.heap.size<=b/\b<=W1.heap.size+5:=by
   intro b hb;rcases hb with h|h|h|h|h
   .omega
   .omega
   .simp[JD,Value.ownBlock]at h
   .simp[JD,Value.ownBlock]at h
   .simp[JD,Value.ownBlock]at h
  exact⟨aaG,λx hx=>absurd hx (by simp[JD]),(gz.made _ _ aft).mono (aJ _),λ_ _ h=>(by cases h),aJ _,λh=>by have:=(hp _ h).2;omega,λh=>h.elim,by omega,λb hb=>(hp b hb).1,ui⟩
 have hx4:Ext W3 (W3.alloc (.cells #[.pointer (some ⟨W1.heap.size+1+1+1+1+1,0,none⟩),.map (some (W1.heap.size+6)),.func (.func V.fn) #[] #[]] 115)):=bS (Below.refl _ _) _;have hb4:(W3.alloc (.cells #[.pointer (some ⟨W1.heap.size+1+1+1+1+1,0,none⟩),.map (some (W1.heap.size+6)),.func (.func V.fn) #[] #[]] 115)).heap[W1.heap.size+6+1]?=some (.cells #[.pointer (some ⟨W1.heap.size+1+1+1+1+1,0,none⟩),.map (some (W1.heap.size+6)),.func (.func V.fn) #[] #[]] 115 (0,0)):=by rw[<-hz3];exact heap_alloc_new _ _
 have hK4:=K3.ext' hx4;have hax:=K3.aside (b:=W1.heap.size+6+1) (by omega) (bu hb4);have hG1:=hV.ac3 hG hx1;generalize W3.alloc (.cells #[.pointer (some ⟨W1.heap.size+1+1+1+1+1,0,none⟩),.map (some (W1.heap.size+6)),.func (.func V.fn) #[] #[]] 115)=W4 at *;generalize W1.heap.size+6+1=px at *;generalize W1.heap.size+6=kb at *;obtain⟨h,hh⟩:∃h,h=W1.heap.size:=⟨_,rfl⟩;rw[<-hh]at hK4 hax hb4 QU ⊢;generalize h+1+1+1+1+1=pp at *;clear hp2 zF hz2 hz3 K3 aaG aft hx3 hx4 ui hx2 hmm;have b0:=cell_of_row W4 px 0 _ _ _ hb4;have b1:=cell_of_row W4 px 1 _ _ _ hb4;have b2:=cell_of_row W4 px 2 _ _ _ hb4;simp only[gP,eP,eZ]at b0 b1 b2;have hcall:∀W,Ext W4 W->Calls prog 86 #[.agg #[.pointer (some ⟨pp,0,none⟩),.map (some kb),.func (.func V.fn) #[] #[]],.string sb] W (wJ V W1 pp h kb JD (λ_=>none) n g W):=λW hW=>VN hV W1 pp h kb JD (λ_=>none) n g sb W hT (hK4.ext' hW) hG1
 refine bV (λW=>W.cell? ⟨px,0,none⟩=some (.pointer (some ⟨pp,0,none⟩))/\W.cell? ⟨px,1,none⟩=some (.map (some kb))/\W.cell? ⟨px,2,none⟩=some (.func (.func V.fn) #[] #[])) [8,9] L6 (by kernel_rfl) ⟨by kernel_rfl,by kernel_rfl,by kernel_rfl⟩ ⟨b0,b1,b2⟩ (λaz ah=>?_);(refine bT 0 az ah ?_;refine bT 1 az ah ?_;refine bT 2 az ah ?_;refine bT 3 az ah ?_);(refine nM az (i:=4) λK hK=>?_;go_simp);refine(hcall _ (eU ⟨1,rfl⟩)).mono ?_;rintro e5 w5 ⟨s5,fk5,i,rfl,K5,G5,-,hi5,RV,he5⟩;have hxd:Ext W4 (W4.drewN 1):=eU ⟨1,rfl⟩;have hb5:=((((hax.go (tq.ext hxd)).1).go G5).2.trans (hax.go (tq.ext hxd)).2).trans hb4;have d0:=cell_of_row w5 px 0 _ _ _ hb5;have d1:=cell_of_row w5 px 1 _ _ _ hb5;have d2:=cell_of_row w5 px 2 _ _ _ hb5;simp only[gP,eP,eZ]at d0 d1 d2;(refine hK.out _ _ (λ_=>?_) ?_)
 .exact⟨d0,d1,d2⟩
 clear hK K;(try simp only[nP]);(refine nM az (i:=5) λK hK=>?_;go_simp);refine(Al pp h s5 i w5 K5.pool hi5).mono ?_;rintro e6 w6 ⟨F,vN,Fr,ok,sl,rfl,hF1,hF2,hok,Kt,DX,hx6⟩;obtain⟨aN,cN,rfl⟩:=DX.top;have HOK:=aQ (And.intro hok Kt);clear hok Kt;have hS6:w6.cell? ⟨px,0,none⟩=some (.pointer (some ⟨pp,0,none⟩))/\w6.cell? ⟨px,1,none⟩=some (.map (some kb))/\w6.cell? ⟨px,2,none⟩=some (.func (.func V.fn) #[] #[]):=⟨(hx6.cell (lt_of_cell d0)).trans d0,(hx6.cell (lt_of_cell d1)).trans d1,(hx6.cell (lt_of_cell d2)).trans d2⟩;(refine hK.out _ _ (λ_=>?_) ?_)
 .exact hS6
 clear hK K;(try simp only[nP]);clear ah;have ah:=hS6;(refine bT 6 az ah ?_;refine bT 7 az ah ?_);refine nU az [8,9] [_,_] ?_;have Q4:=ax K5.ext hx6;have hbf:=(Q4.block f1 (by omega)).trans hb1;have hsz5:=K5.ext.size;have c0:=cell_of_row w6 f1 0 _ _ _ hbf;have q0:=frozen_of_row w6 f1 0 _ _ hbf;have HW:=aQ (heap_setCell_same w6 f1 0 _ _ (.slice aN Fr.length cN) hbf);have HEr:=aQ ((ax hx1 Q4).setCell (p:=⟨f1,0,none⟩) (by show w.heap.size<=f1;omega) (.slice aN Fr.length cN));have HFO:=aQ ((DX.xV (dV (p:=⟨f1,0,none⟩) (v:=.slice aN Fr.length cN)) (λb hb=>by subst hb;omega)).lower (show f1<=w5.heap.size by omega));have HV:=aQ (show fO F g from⟨hF1,_,hF2,RV,he5⟩);clear az ah d0 d1 d2 b0 b1 b2 hS6 DX hF1 hF2 RV he5 hcall hb5 hax K5 G5 hK4;go_wp2
 (try simp only[Exit.inBlock,Exit.then]);refine bodyPost_ret (dO rfl _ _ f1 28 #[.slice aN Fr.length cN] (0,0) _ rfl HW.out underlying28 rfl (by kernel_rfl) rfl) rfl ?_;exact⟨F,_,Fr,ok,sl,rfl,HV.out,HOK.out.1,HOK.out.2,by rw[hf1];exact HFO.out,HEr.out⟩
end
section
open Go.RowKit
open bO (dH Nd vl Gm Canon iO fC dZ Same fw GB iG fD fr gB gX iM wS vary Marks)
variable {b:fw} {hh ww:Nat}
theorem VU(args:Array Value)(w:World):(callFunc 45 args).run prog w=.ok (.enter 45 args) w:=by kernel_rfl
def agW(b0:fw)(hh ww:Nat):Sv where
 fn:=45
 T:=λn g sb=>∃b,GB b hh ww/\ll sb=fD b/\fD b∈vary (fD b0)/\n=gX b/\g=gB (fr b)
 U:=(vary (fD b0)).map λl=>⟨l.toArray⟩
 G:=λw=>∃m,w.cell? ⟨0,0,none⟩=some (.int .i64 m)
theorem abG(s:ByteArray):(⟨(ll s).toArray⟩:ByteArray)=s:=by unfold ll;cases s;simp
theorem MC(g:GB b hh ww){left:Bool}{y:fw}(hy:y∈iM left b ww hh):Marks (fD b) (fD y):=by
 obtain⟨r,c,_,rfl⟩:=(bO.vk g).1 hy;exact bO.Qm g left r c
theorem ZF{b0:fw}(h9:gX b0<=9):(agW b0 hh ww).Ok where
 room:=by
  show((vary (fD b0)).map λl=>(⟨l.toArray⟩:ByteArray)).length<=400000;rw[bD,bO.Sw,bO.CS];have:2 ^ gX b0<=2 ^ 9:=Nat.pow_le_pow_right (by omega) h9;omega
 mem:=by
  rintro n g sb ⟨b,_,hb,hv,_,_⟩;exact aH.2 ⟨fD b,hv,by rw[<-hb];exact abG sb⟩
 one:=by
  rintro n g sb n' g' ⟨b,k,hb,_,rfl,rfl⟩ ⟨b',k',hb',_,rfl,rfl⟩;have:b=b':=k.inj k' (hb.symm.trans hb');subst this;exact⟨rfl,iO.refl _⟩
 size:=by
  rintro n g sb ⟨b,k,hb,_,_,_⟩;have:=rW (b:=b) λr hr=>by have:=(k.row r hr).1;have:=k.w1;omega
  have h1:=k.h1;have h2:=k.hgt;rw[<-hb,jA]at this;unfold maxLen;omega
 ac3:=by
  rintro w w' ⟨m,h⟩ hx;exact⟨m,(hx.cell (lt_of_cell h)).trans h⟩
 ent:=VU
 moves:=by
  rintro n g sb left w ⟨b,k,hb,hv,rfl,rfl⟩ ⟨m,hm⟩;refine(NK sb b hh ww left m w k hb hm).mono ?_;rintro e w' ⟨v,ss,rfl,ho,hss,hx⟩;have hl:ss.length=(iM left b ww hh).length:=by have:=congrArg List.length hss;simpa using this
  have hT:∀j (h:j<ss.length) (h':j<(iM left b ww hh).length),(agW b0 hh ww).T (gX (iM left b ww hh)[j]) (gB (fr (iM left b ww hh)[j])) ss[j]:=λj h h'=>by
   refine⟨(iM left b ww hh)[j],OC k (ai h'),?_,bO.PS hv (MC k (ai h')),rfl,rfl⟩;have e1:(ss.map ll)[j]?=((iM left b ww hh).map fD)[j]?:=(by rw[hss]);rw[dm,dm,aa h,aa h']at e1
   simpa using e1
  have hsd:∀x,x∈side (gB (fr b)) left↔∃y,y∈iM left b ww hh/\x=gB (fr y):=λx=>bO.DY k left
  refine⟨v,ss,rfl,ho,?_,⟨λj h=>?_,λx hx=>?_⟩,hx⟩
  .have l1:=bO.vw left b ww hh
   have l2:=gu k.h1.2 k.w1.2;omega
  .have h':j<(iM left b ww hh).length:=by omega
   refine⟨_,_,?_,(hsd _).2 ⟨_,ai h',rfl⟩,hT j h h'⟩;have:=(rF k (ai h')).2;omega
  .obtain⟨y,hy,rfl⟩:=(hsd x).1 hx
   obtain⟨j,hj,rfl⟩:=aW.1 hy;exact⟨j,by omega,_,hT j (by omega) hj⟩
def Rx(b:fw)(w:World)(e:Ending)(w':World):Prop:=
 ∃vN Fr ok sl,e=.returned (.tuple #[.agg #[vN],.bool ok])/\ES b Fr ok/\FO w' w.heap.size vN Fr.length sl (oZ Fr)/\Ext w w'
theorem Gg{s:ByteArray}(h:ll s=fD b):Lib.countByte s.data.toList 46=gX b:=by
 have:s.data.toList=fD b:=h;unfold Lib.countByte;rw[this,<-bO.CS];rfl
set_option maxHeartbeats 2000000 in
theorem qA(v:Value)(ss:List ByteArray)(m:Int)(w:World)(hv:Strs w v ss)(hl:ss.length<=1048576)(hs:∀s,s∈ss->s.size<=1048576)(hm:w.cell? ⟨0,0,none⟩=some (.int .i64 m)):Calls prog 10 #[.agg #[v]] w (Rx (bd ss) w):=by
 obtain⟨a,cap,rfl,hcap,p8⟩:=hv.open;have hb1:((w.alloc (.cells #[.slice a ss.length cap] 31)).alloc (.cells #[.slice none 0 0] 28)).heap[w.heap.size]?=some (.cells #[.slice a ss.length cap] 31 (0,0)):=by
  rw[Below.heap_alloc _ _ _ (by simp)];exact heap_alloc_new _ _
 have hb2:((w.alloc (.cells #[.slice a ss.length cap] 31)).alloc (.cells #[.slice none 0 0] 28)).heap[w.heap.size+1]?=some (.cells #[.slice none 0 0] 28 (0,0)):=by
  have h:=heap_alloc_new (w.alloc (.cells #[.slice a ss.length cap] 31)) (.cells #[.slice none 0 0] 28);rw[eQ]at h;exact h
 have hx2:Ext w ((w.alloc (.cells #[.slice a ss.length cap] 31)).alloc (.cells #[.slice none 0 0] 28)):=by go_grown
 have HV:=aQ hv;have HS:=aQ (And.intro hl hs);have HM:=aQ hm;clear hl hs hv hm;cases hg:iG (bd ss)with
 |false=>
  have Sc:Hid (iG (bd ss)=false\/¬gX (bd ss)<=9):=aQ (.inl hg);go_enter Tryz.func10,Tryz.ntmps10
  go_upto_region 1 with fail
  generalize (w.alloc (.cells #[.slice a ss.length cap] 31)).alloc (.cells #[.slice none 0 0] 28)=W at *;have c0:=cell_of_row W w.heap.size 0 _ _ _ hb1;go_upto_region 2 with(go_at_call 41;refine(jU _ ss _ (HV.out.ext hx2) HS.out.1 HS.out.2).mono ?_;rintro e w1 ⟨he,hx1⟩;rw[hg]at he;subst he)
  have hr1:w1.heap[w.heap.size+1]?=some (.cells #[.slice none 0 0] 28 (0,0)):=(hx1.block _ (bu hb2)).trans hb2;have d0:=cell_of_row w1 (w.heap.size+1) 0 _ _ _ hr1;have f0:=frozen_of_row w1 (w.heap.size+1) 0 _ _ hr1;have HE:=aQ (ax hx2 hx1);clear c0;go_wp2
  have HH:=aQ (heap_setCell_same w1 (w.heap.size+1) 0 _ _ (.slice none 0 0) hr1);(try simp only[Exit.inBlock,Exit.then]);refine bodyPost_ret (dO rfl _ _ (w.heap.size+1) 28 #[.slice none 0 0] (0,0) _ rfl HH.out underlying28 rfl (by kernel_rfl) rfl) rfl ?_;exact⟨_,[],false,λ_=>undef,rfl,.inr ⟨Sc.out,rfl,rfl⟩,FO.none _ _ _ _,HE.out.setCell (p:=⟨w.heap.size+1,0,none⟩) (by show w.heap.size<=w.heap.size+1;omega) _⟩
 |true=>
  obtain⟨hh,ww,g⟩:=bO.nK.1 hg;by_cases h9:gX (bd ss)<=9
  .go_enter Tryz.func10,Tryz.ntmps10
   go_upto_region 1 with fail
   generalize (w.alloc (.cells #[.slice a ss.length cap] 31)).alloc (.cells #[.slice none 0 0] 28)=W at *;have c0:=cell_of_row W w.heap.size 0 _ _ _ hb1;have hq9:¬((9:Int)<((gX (bd ss):Nat):Int)):=(by omega);have H9:=aQ h9;clear h9
   go_upto_region 3 with(first
    |(go_at_call 42;refine(Tryz.strings_Count_one so 46 _).mono ?_;rintro e w3 ⟨rfl,rfl⟩)
    |(go_at_call 43;refine(sW _ ss hh ww w1 (HV.out.ext (ax hx2 hx1)) g).mono ?_;rintro e w2 ⟨so,rfl,hso,xE⟩;have hco:=Gg hso)
    |(go_at_call 41;refine(jU _ ss _ (HV.out.ext hx2) HS.out.1 HS.out.2).mono ?_;rintro e w1 ⟨he,hx1⟩;rw[hg]at he;subst he;have c1:=(hx1.cell (lt_of_cell c0)).trans c0))
   have ui:=ax (ax hx2 hx1) xE;have BD:=ax hx1 xE;have hr1:w3.heap[w.heap.size+1]?=some (.cells #[.slice none 0 0] 28 (0,0)):=(BD.block _ (bu hb2)).trans hb2;have hq1:w3.heap[w.heap.size]?=some (.cells #[.slice a ss.length cap] 31 (0,0)):=(BD.block _ (bu hb1)).trans hb1;have c3:=cell_of_row w3 w.heap.size 0 _ _ _ hq1;simp only[gE]at c3;have Lp:=HV.out.ext ui;have akn:=ZF (b0:=bd ss) (hh:=hh) (ww:=ww) H9.out;have OU:=bu hr1;clear hx2 hx1 xE BD hb1 hb2 hq1 hco hq9 c0 c1
   go_wp2_with (first
    |(go_at_call 44;refine(LW akn (gX (bd ss)) (gB (fr (bd ss))) so2 w4 ⟨bd ss,g,ajg,bO.PT _,rfl,rfl⟩ ⟨m,((ax ui hx4).cell (lt_of_cell HM.out)).trans HM.out⟩).mono ?_;rintro e w5 ⟨F,vN,Fr,ok,sl,rfl,Ev,hok,Kt,DX,hx5⟩
      obtain⟨aN,cN,rfl⟩:=DX.top;have HVV:=aQ (And.intro Ev (And.intro hok Kt));have Kg:w5.heap[w.heap.size+1]?=some (.cells #[.slice none 0 0] 28 (0,0)):=((ax hx4 hx5).block _ OU).trans hr1;have q0:=cell_of_row w5 (w.heap.size+1) 0 _ _ _ Kg;have q1:=frozen_of_row w5 (w.heap.size+1) 0 _ _ Kg;have HFO:=aQ DX;clear Ev hok Kt DX)
    |(go_at_call 43;refine(sW _ ss hh ww w3 Lp g).mono ?_;rintro e w4 ⟨so2,rfl,ajg,hx4⟩))
   have HW:=aQ (heap_setCell_same w5 (w.heap.size+1) 0 _ _ (.slice aN Fr.length cN) Kg);have EL:w.heap.size+1<w4.heap.size:=bz OU hx4.size;(try simp only[Exit.inBlock,Exit.then]);refine bodyPost_ret (dO rfl _ _ (w.heap.size+1) 28 #[.slice aN Fr.length cN] (0,0) _ rfl HW.out underlying28 rfl (by kernel_rfl) rfl) rfl ?_;exact⟨_,Fr,ok,sl,rfl,.inl ⟨hg,H9.out,F,HVV.out⟩,(HFO.out.xV (dV (p:=⟨w.heap.size+1,0,none⟩)) (λb hb=>by subst hb;exact EL)).lower (show w.heap.size<=w4.heap.size by omega),(ax ui (ax hx4 hx5)).setCell (p:=⟨w.heap.size+1,0,none⟩) (by show w.heap.size<=w.heap.size+1;omega) _⟩
  .have Sc:Hid (iG (bd ss)=false\/¬gX (bd ss)<=9):=aQ (.inr h9)
   go_enter Tryz.func10,Tryz.ntmps10
   go_upto_region 1 with fail
   generalize (w.alloc (.cells #[.slice a ss.length cap] 31)).alloc (.cells #[.slice none 0 0] 28)=W at *;have c0:=cell_of_row W w.heap.size 0 _ _ _ hb1;have hq9:((9:Int)<((gX (bd ss):Nat):Int)):=(by omega);clear h9
   go_upto_region 2 with(first
    |(go_at_call 42;refine(Tryz.strings_Count_one so 46 _).mono ?_;rintro e w3 ⟨rfl,rfl⟩)
    |(go_at_call 43;refine(sW _ ss hh ww w1 (HV.out.ext (ax hx2 hx1)) g).mono ?_;rintro e w2 ⟨so,rfl,hso,xE⟩;have hco:=Gg hso)
    |(go_at_call 41;refine(jU _ ss _ (HV.out.ext hx2) HS.out.1 HS.out.2).mono ?_;rintro e w1 ⟨he,hx1⟩;rw[hg]at he;subst he;have c1:=(hx1.cell (lt_of_cell c0)).trans c0))
   have hr1:w3.heap[w.heap.size+1]?=some (.cells #[.slice none 0 0] 28 (0,0)):=(xE.block _ (bu ((hx1.block _ (bu hb2)).trans hb2))).trans ((hx1.block _ (bu hb2)).trans hb2);have d0:=cell_of_row w3 (w.heap.size+1) 0 _ _ _ hr1;have f0:=frozen_of_row w3 (w.heap.size+1) 0 _ _ hr1;have HE:=aQ (ax (ax hx2 hx1) xE);clear c0 c1;go_wp2
   have HH:=aQ (heap_setCell_same w3 (w.heap.size+1) 0 _ _ (.slice none 0 0) hr1);(try simp only[Exit.inBlock,Exit.then]);refine bodyPost_ret (dO rfl _ _ (w.heap.size+1) 28 #[.slice none 0 0] (0,0) _ rfl HH.out underlying28 rfl (by kernel_rfl) rfl) rfl ?_;exact⟨_,[],false,λ_=>undef,rfl,.inr ⟨Sc.out,rfl,rfl⟩,FO.none _ _ _ _,HE.out.setCell (p:=⟨w.heap.size+1,0,none⟩) (by show w.heap.size<=w.heap.size+1;omega) _⟩
end
end Go.Proofs.YteknjeohbcgpdaaGreatDoor