/- 45 -/
import Derived.Test.YtplgooajigigkaaGreatDoorQ43
import Derived.Test.YtplgooajigigkaaGreatDoorQ44
import Derived.Laws.EntriesVeiled
set_option maxRecDepth 100000
set_option maxHeartbeats 4000000
namespace Go.Proofs.YtplgooajigigkaaGreatDoor
open Tryz
section
open Go.RowKit
open aZ (cZ Nd vl Gm Canon eU eD eQ Same)
theorem aaJ:∀n,Mv n:=by
 intro n
 induction n with
 |zero=>intro w0 pp h kb s m us sg sb w hn;omega
 |succ n ih=>exact Px ih
theorem TD(w0:World)(pp h kb:Nat)(s:iK)(m:Nat)(us:List Int)(sg:List UInt8)(sb:ByteArray)(w:World)(hT:Told us sg sb)(K:CE w0 w pp h kb s m)(hG:Qp w0)(h1:s.D.length+2*kN us.length<=900000)(h2:m+kN us.length<=900000):
 Calls prog 87 #[.agg #[.pointer (some ⟨pp,0,none⟩),.map (some kb),.func (.func 44) #[] #[]],.string sb] w (uY w0 pp h kb s m us sg w):=
 aaJ (us.length+1) w0 pp h kb s m us sg sb w (by omega) hT K hG h1 h2
def Mo(us:List Int)(sg:List UInt8)(w:World)(e:Ending)(w':World):Prop:=
 ∃F vN Fr ok sl,e=.returned (.tuple #[.agg #[vN],.bool ok])/\kg F us sg/\ok=mP F/\Fr=(if ok then F else [])/\FO w' w.heap.size vN Fr.length sl (vS Fr)/\Ext w w'
def J9:List Row:=[⟨0,[],12,[6]⟩,⟨1,[0],13,[11]⟩,⟨2,[],14,[6]⟩,⟨3,[],15,[0]⟩,⟨4,[2,3],16,[13,14]⟩,⟨5,[1,4,4],17,[12,15]⟩,⟨6,[5],18,[16]⟩,⟨7,[5],19,[16]⟩,⟨8,[6,5,0,1,2,3,4,5,6,7],0,[4,17]⟩,⟨9,[7,8,0,1,2,3,4,5,6,7,8],6,[18]⟩]
def EU:iK:=⟨.slice none 0 0,.slice none 0 0,.slice none 0 0,[],λ_=>False,λ_=>none⟩
theorem J8(us:List Int)(sg:List UInt8)(sb:ByteArray)(w:World)(hT:Told us sg sb)(hG:Qp w):
 Calls prog 42 #[.string sb,.func (.func 44) #[] #[]] w (Mo us sg w):=by
 have hb1:(w.alloc (.cells #[.slice none 0 0] 30)).heap[w.heap.size]?=some (.cells #[.slice none 0 0] 30 (0,0)):=dV _ _;have hx1:Ext w (w.alloc (.cells #[.slice none 0 0] 30)):=by go_grown
 have hmm:=λw:World=>run_makeMap_plain (P:=prog) (w:=w) 125
 go_enter Tryz.func42,Tryz.ntmps42
 go_upto_region 1 with fail
 generalize w.alloc (.cells #[.slice none 0 0] 30)=W1 at *;generalize hf1:w.heap.size=f1 at *;have Pn:f1<W1.heap.size:=bq hb1;go_upto_region 2 with(go_at_call 55;refine(zI W1).mono ?_;rintro e w2 ⟨h,hh,rfl,hp2,I5,hz2,hx2⟩)
 subst hh;have hx3:Ext w2 (w2.alloc (.map #[] 0)):=bJ (fJ _ _) _;have acU:(w2.alloc (.map #[] 0)).heap[W1.heap.size+6]?=some (.map #[] 0):=by rw[<-hz2];exact dV _ _
 have hz3:(w2.alloc (.map #[] 0)).heap.size=W1.heap.size+6+1:=by rw[eX,hz2]
 have YQ:=(bX.empty hp2 I5).ext hx3;have pG:=ah hx2 hx3;generalize w2.alloc (.map #[] 0)=W3 at *;have K3:CE W1 W3 (W1.heap.size+1+1+1+1+1) W1.heap.size (W1.heap.size+6) EU 0:=by
  have hp:∀b,jI (W1.heap.size+1+1+1+1+1) W1.heap.size EU b->W1.heap.size<=b/\b<=W1.heap.size+5:=by
   intro b hb;rcases hb with h|h|h|h|h
   .omega
   .omega
   .simp[EU,Value.ownBlock]at h
   .simp[EU,Value.ownBlock]at h
   .simp[EU,Value.ownBlock]at h
  exact⟨YQ,λx hx=>absurd hx (by simp[EU]),⟨λ_=>none,fM.made _ _ acU,λ_ _ h=>by cases h⟩,λh=>by have:=(hp _ h).2;omega,λh=>h.elim,by omega,λb hb=>(hp b hb).1,pG⟩
 have hx4:Ext W3 (W3.alloc (.cells #[.pointer (some ⟨W1.heap.size+1+1+1+1+1,0,none⟩),.map (some (W1.heap.size+6)),.func (.func 44) #[] #[]] 127)):=bJ (fJ _ _) _;have hb4:(W3.alloc (.cells #[.pointer (some ⟨W1.heap.size+1+1+1+1+1,0,none⟩),.map (some (W1.heap.size+6)),.func (.func 44) #[] #[]] 127)).heap[W1.heap.size+6+1]?=some (.cells #[.pointer (some ⟨W1.heap.size+1+1+1+1+1,0,none⟩),.map (some (W1.heap.size+6)),.func (.func 44) #[] #[]] 127 (0,0)):=by rw[<-hz3];exact dV _ _
 have hK4:=K3.ext' hx4;have hax:=K3.aside (b:=W1.heap.size+6+1) (by omega) (bq hb4);have hG1:=hG.ext hx1;have hk8:=kN_8 hT.1.small;generalize W3.alloc (.cells #[.pointer (some ⟨W1.heap.size+1+1+1+1+1,0,none⟩),.map (some (W1.heap.size+6)),.func (.func 44) #[] #[]] 127)=W4 at *;generalize W1.heap.size+6+1=px at *;generalize W1.heap.size+6=kb at *;obtain⟨h,hh⟩:=eu W1.heap.size;rw[<-hh]at hK4 hax hb4 Pn ⊢;generalize h+1+1+1+1+1=pp at *;clear hp2 I5 hz2 hz3 K3 YQ acU hx3 hx4 pG hx2 hmm;have b0:=bI W4 px 0 _ _ _ hb4;have b1:=bI W4 px 1 _ _ _ hb4;have b2:=bI W4 px 2 _ _ _ hb4;simp only[fG,dQ,ek]at b0 b1 b2;have hcall:∀W,Ext W4 W->Calls prog 87 #[.agg #[.pointer (some ⟨pp,0,none⟩),.map (some kb),.func (.func 44) #[] #[]],.string sb] W (uY W1 pp h kb EU 0 us sg W):=λW hW=>TD W1 pp h kb EU 0 us sg sb W hT (hK4.ext' hW) hG1 (by simp[EU];omega) (by omega)
 refine mQ (λW=>W.cell? ⟨px,0,none⟩=some (.pointer (some ⟨pp,0,none⟩))/\W.cell? ⟨px,1,none⟩=some (.map (some kb))/\W.cell? ⟨px,2,none⟩=some (.func (.func 44) #[] #[])) [8,9] J9 ⟨b0,b1,b2⟩ (λai aa=>?_);(refine bg 0 ai aa ?_;refine bg 1 ai aa ?_;refine bg 2 ai aa ?_;refine bg 3 ai aa ?_);(refine kS ai (i:=4) λK hK=>?_;go_simp);refine(hcall _ (dz ⟨1,rfl⟩)).mono ?_;rintro e5 w5 ⟨s5,m5,i,rfl,K5,G5,hi5,Da,he5,-,-⟩;have hxd:Ext W4 (W4.drewN 1):=dz ⟨1,rfl⟩;have hb5:=((((hax.go (tK.ext hxd)).1).go G5).2.trans (hax.go (tK.ext hxd)).2).trans hb4;have d0:=bI w5 px 0 _ _ _ hb5;have d1:=bI w5 px 1 _ _ _ hb5;have d2:=bI w5 px 2 _ _ _ hb5;simp only[fG,dQ,ek]at d0 d1 d2;(refine hK.out _ _ (λ_=>?_) ?_)
 .exact⟨d0,d1,d2⟩
 clear hK K;(try simp only[nP]);(refine kS ai (i:=5) λK hK=>?_;go_simp);refine(OC pp h s5 i w5 K5.pool hi5).mono ?_;rintro e6 w6 ⟨F,vN,Fr,ok,sl,rfl,hF1,hF2,hok,hFr,VB,hx6⟩;obtain⟨aN,cN,rfl⟩:=VB.top;have VK:=jW hok hFr;clear hok hFr;have hS6:w6.cell? ⟨px,0,none⟩=some (.pointer (some ⟨pp,0,none⟩))/\w6.cell? ⟨px,1,none⟩=some (.map (some kb))/\w6.cell? ⟨px,2,none⟩=some (.func (.func 44) #[] #[]):=⟨dP hx6 d0,dP hx6 d1,dP hx6 d2⟩;(refine hK.out _ _ (λ_=>?_) ?_)
 .exact hS6
 clear hK K;(try simp only[nP]);clear aa;have aa:=hS6;(refine bg 6 ai aa ?_;refine bg 7 ai aa ?_);refine mM ai [8,9] [_,_] ?_;have Jf:=ah K5.ext hx6;have hbf:=(Jf.block f1 (by omega)).trans hb1;have hsz5:=K5.ext.size;have c0:=bI w6 f1 0 _ _ _ hbf;have q0:=iW w6 f1 0 _ _ hbf;have HW:=aI (iV w6 f1 0 _ _ (.slice aN Fr.length cN) hbf);have HEr:=aI (oG (ah hx1 Jf) f1 0 (.slice aN Fr.length cN));have HFO:=aI ((VB.BP (dx (p:=⟨f1,0,none⟩) (v:=.slice aN Fr.length cN)) (λb hb=>by subst hb;omega)).lower (show f1<=w5.heap.size by omega));have HV:=aI (show kg F us sg from⟨hF1,_,hF2,Da,he5⟩);clear ai aa d0 d1 d2 b0 b1 b2 hS6 VB hF1 hF2 Da he5 hcall hb5 hax K5 G5 hK4;go_wp2
 refine tO f1 30 #[.slice aN Fr.length cN] HW.out underlying30 ?_;exact⟨F,_,Fr,ok,sl,rfl,HV.out,VK.out.1,VK.out.2,by rw[hf1];exact HFO.out,HEr.out⟩
end
section
open Go.RowKit
open aZ (cZ Nd vl Same Gm Canon eU Ge)
variable {us:List Int} {s:ByteArray} {F G:cZ}
theorem xG(b:UInt8):oC b=true↔b=76\/b=82:=by rw[oC,qm,beq_iff_eq,beq_iff_eq]
theorem pI:jY us s=true↔GT us s.data.toList:=by
 have hsz:s.size=s.data.toList.length:=by rw[ib];rfl
 unfold jY pU;simp only[dS,decide_eq_true_eq];constructor
 .rintro⟨⟨h1,h2,h3⟩,h4⟩
  refine⟨by omega,by omega,λc hc=>?_,λi hi=>?_⟩
  .obtain⟨i,hi,rfl⟩:=aH.1 hc
   have:=h2 i (by omega);exact(xG _).1 this
  .have:=h4 i hi
   simp[wD]at this;omega
 .intro h
  refine⟨⟨by have:=h.len;omega,λi hi=>(xG _).2 (h.sign _ ?_),by have:=h.len;have:=h.small;omega⟩,λi hi=>?_⟩
  .exact aj (l:=s.data.toList) (n:=i) (by omega)
  .have:=h.up i hi;simp[wD];omega
theorem JS{s:List UInt8}(h:kg F us s)(k:kg G us s):F=G:=by
 obtain⟨i1,g1,s1,c1,e1⟩:=h;obtain⟨i2,g2,s2,c2,e2⟩:=k;exact aZ.zW i1 i2 (aZ.fE s1 (aZ.fE (aZ.iA c1 c2 (e1.trans e2.symm)) (aZ.iF s2)))
def yC(us:List Int)(s:ByteArray)(Fr:cZ)(ok:Bool):Prop:=(jY us s=true/\∃F,kg F us s.data.toList/\ok=mP F/\Fr=if ok then F else [])\/(jY us s=false/\ok=false/\Fr=[])
theorem yC.unique{a b:Bool}(h:yC us s F a)(k:yC us s G b):F=G/\a=b:=by
 rcases h with⟨h1,F1,h2,h3,h4⟩|⟨h1,h2,h3⟩ <;> rcases k with⟨k1,F2,k2,k3,k4⟩|⟨k1,k2,k3⟩
 .have:=JS h2 k2
  subst this;subst h3;subst k3;exact⟨by rw[h4,k4],rfl⟩
 .rw[h1]at k1;cases k1
 .rw[h1]at k1;cases k1
 .exact⟨by rw[h3,k3],by rw[h2,k2]⟩
theorem TB.empty{w:World}{px:Nat}(h:w.heap[px]?=some (.cells #[.slice none 0 0,.slice none 0 0] 82 (0,0))):TB w px (.slice none 0 0) (.slice none 0 0) (λ_=>False) []:=
 ⟨h,⟨by simp,.inl ⟨rfl,rfl⟩⟩,⟨[],⟨by simp,.inl ⟨rfl,rfl⟩⟩,Items.nil (λb h=>h.elim)⟩,λb h=>h.elim,by simp[Value.ownBlock],by simp[Value.ownBlock],by simp[Value.ownBlock],λx h=>absurd h (by simp)⟩
def UI(us:List Int)(s:ByteArray)(w:World)(e:Ending)(w':World):Prop:=
 ∃vN Fr ok,e=.returned (.tuple #[.agg #[vN],.bool ok])/\eZ w' 0 vN Fr/\yC us s Fr ok/\Ext w w'
theorem EM(v:Value)(us:List Int)(sb:ByteArray)(w:World)(hv:Ints w v us)(hs:sb.size<=2000000):Calls prog 16 #[.agg #[v,.string sb]] w (UI us sb w):=by
 obtain⟨a,cap,rfl,hcap,yH,hcells⟩:=id hv;have hb1:(((w.alloc (.cells #[.slice a us.length cap,.string sb] 43)).alloc (.cells #[.slice none 0 0] 30))).heap[w.heap.size]?=some (.cells #[.slice a us.length cap,.string sb] 43 (0,0)):=by
  rw[gI _ _ _ (by simp)];exact dV _ _
 have hb2:(((w.alloc (.cells #[.slice a us.length cap,.string sb] 43)).alloc (.cells #[.slice none 0 0] 30))).heap[w.heap.size+1]?=some (.cells #[.slice none 0 0] 30 (0,0)):=by
  have h:=dV (w.alloc (.cells #[.slice a us.length cap,.string sb] 43)) (.cells #[.slice none 0 0] 30);rw[eX]at h;exact h
 have hx2:Ext w ((w.alloc (.cells #[.slice a us.length cap,.string sb] 43)).alloc (.cells #[.slice none 0 0] 30)):=by go_grown
 cases hg:jY us sb with
 |false=>
  go_enter Tryz.func16,Tryz.ntmps16
  go_upto_region 1 with fail
  generalize (w.alloc (.cells #[.slice a us.length cap,.string sb] 43)).alloc (.cells #[.slice none 0 0] 30)=W at *;have c0:=bI W w.heap.size 0 _ _ _ hb1;have c1:=bI W w.heap.size 1 _ _ _ hb1;go_wp2_with (go_at_call 47;refine(tJ _ us sb _ (hv.ext hx2) hs).mono ?_;rintro e w1 ⟨he,hx1⟩;rw[hg]at he;subst he;have hr1:w1.heap[w.heap.size+1]?=some (.cells #[.slice none 0 0] 30 (0,0)):=kY hx1 hb2;have d0:=bI w1 (w.heap.size+1) 0 _ _ _ hr1;have f0:=iW w1 (w.heap.size+1) 0 _ _ hr1)
  have HH:=aI (iV w1 (w.heap.size+1) 0 _ _ (.slice none 0 0) hr1);refine tO (w.heap.size+1) 30 #[.slice none 0 0] HH.out underlying30 ?_;exact⟨_,[],false,rfl,⟨none,0,rfl,ax _,az _,λh=>absurd h (by simp)⟩,.inr ⟨hg,rfl,rfl⟩,oG (ah hx2 hx1) (w.heap.size+1) 0 _⟩
 |true=>
  have FH:=pI.1 hg;go_enter Tryz.func16,Tryz.ntmps16
  go_upto_region 1 with fail
  generalize (w.alloc (.cells #[.slice a us.length cap,.string sb] 43)).alloc (.cells #[.slice none 0 0] 30)=W at *;have c0:=bI W w.heap.size 0 _ _ _ hb1;have c1:=bI W w.heap.size 1 _ _ _ hb1;go_upto_region 3 with(go_at_call 47;refine(tJ _ us sb _ (hv.ext hx2) hs).mono ?_;rintro e w1 ⟨he,hx1⟩;rw[hg]at he;subst he)
  have hE1:=ah hx2 hx1;have hr1:w1.heap[w.heap.size+1]?=some (.cells #[.slice none 0 0] 30 (0,0)):=kY hx1 hb2;have hq1:w1.heap[w.heap.size]?=some (.cells #[.slice a us.length cap,.string sb] 43 (0,0)):=kY hx1 hb1;go_upto_region 4 with fail
  have hxb:Ext w1 (w1.alloc (.cells #[.slice none 0 0,.slice none 0 0] 82)):=by go_grown
  have hpb:=dV w1 (.cells #[.slice none 0 0,.slice none 0 0] 82);have hrb:(w1.alloc (.cells #[.slice none 0 0,.slice none 0 0] 82)).heap[w.heap.size+1]?=some (.cells #[.slice none 0 0] 30 (0,0)):=kY hxb hr1;have hqb:(w1.alloc (.cells #[.slice none 0 0,.slice none 0 0] 82)).heap[w.heap.size]?=some (.cells #[.slice a us.length cap,.string sb] 43 (0,0)):=kY hxb hq1;have hE2:=ah hE1 hxb;have hzp:w.heap.size+1<w1.heap.size:=bq hr1;generalize w1.alloc (.cells #[.slice none 0 0,.slice none 0 0] 82)=W2 at *;generalize w1.heap.size=px at *;have hTB:=TB.empty hpb;have hpx:=bq hpb;have Pt:∀b,kM px (.slice none 0 0) (.slice none 0 0) b->b=px:=λb hb=>by
   rcases hb with h|h|h
   .exact h
   .simp[Value.ownBlock]at h
   .simp[Value.ownBlock]at h
  have WW:nN (abl W2 px (.slice none 0 0) (.slice none 0 0)) (λW=>Ints W (.slice a us.length cap) us) W2:=
   ⟨λb hb=>hb.1,λW h2=>(hv.ext hE2).keep λb hl hb=>h2 b ⟨(hv.ext hE2).blk hl hb,λk=>by have:=Pt b k;have:=hv.blk hl hb;omega⟩⟩
  have c0:=bI W2 w.heap.size 0 _ _ _ hqb;have c1:=bI W2 w.heap.size 1 _ _ _ hqb;have hk8:=kN_8 FH.small;go_upto_region 5 with(go_at_call 48;refine(NV us.length us sb _ px _ _ _ [] _ (ax _) FH WW hTB (by simp;omega)).mono ?_;rintro e w3 ⟨vN,F,EE,EH,S',L',rfl,Qd,LC,hFk,hB3,hG3,hL3⟩;obtain⟨aN,cN,rfl⟩:=Qd.out.slice)
  have hz3:=hG3.keep.size;have hrI:¬kM px (.slice none 0 0) (.slice none 0 0) (w.heap.size+1):=λk=>by have:=Pt _ k;omega
  have hr3:w3.heap[w.heap.size+1]?=some (.cells #[.slice none 0 0] 30 (0,0)):=(hG3.block (bq hrb) hrI).trans hrb;have pG:Ext w w3:=⟨hG3.keep.os.trans hE2.os,hG3.keep.tape.trans hE2.tape,hG3.keep.output.trans hE2.output,df hE2.size hG3.keep.size,λk hk=>(hG3.block (aJ hk hE2.size) (λh=>by have:=Pt _ h;omega)).trans (hE2.block k hk)⟩;have hx4:Ext w3 (w3.alloc (.cells #[.slice aN (List.length F) cN] 30)):=by go_grown
  have hf4:=dV w3 (.cells #[.slice aN (List.length F) cN] 30);have hN4:=Qd.out.ext hx4;have af2:=Qd.ext hx4;have hS4:∀b,S' b->b≠w.heap.size+1:=λb hb e=>by
   rcases hG3.s2 b hb with k|k
   .exact k
   .have:=bq hrb;omega
  have hr4:(w3.alloc (.cells #[.slice aN (List.length F) cN] 30)).heap[w.heap.size+1]?=some (.cells #[.slice none 0 0] 30 (0,0)):=kY hx4 hr3;have Jg:=ah pG hx4;generalize w3.alloc (.cells #[.slice aN (List.length F) cN] 30)=W4 at *;generalize w3.heap.size=pf at *;have cf:=bI W4 pf 0 _ _ _ hf4;have HT:=aI LC;have hIF:=LC.1;clear LC hx4 pG hE2 hE1 hx2 hG3 hB3 Qd hr3 hrI hTB WW hpb hqb hrb Pt;cases hfit:mP F with
  |false=>
   go_wp2_with (go_at_call 49;refine(yF _ F _ hN4 hIF).mono ?_;rintro e w5 ⟨he,hx5⟩;rw[hfit]at he;subst he;have WY:w5.heap[w.heap.size+1]?=some (.cells #[.slice none 0 0] 30 (0,0)):=kY hx5 hr4;have d0:=bI w5 (w.heap.size+1) 0 _ _ _ WY;have f0:=iW w5 (w.heap.size+1) 0 _ _ WY)
   have HH:=aI (iV w5 (w.heap.size+1) 0 _ _ (.slice none 0 0) WY);refine tO (w.heap.size+1) 30 #[.slice none 0 0] HH.out underlying30 ?_;exact⟨_,[],false,rfl,⟨none,0,rfl,ax _,az _,λh=>absurd h (by simp)⟩,.inl ⟨hg,F,HT.out,hfit.symm,rfl⟩,oG (ah Jg hx5) (w.heap.size+1) 0 _⟩
  |true=>
   go_wp2_with (go_at_call 49;refine(yF _ F _ hN4 hIF).mono ?_;rintro e w5 ⟨he,hx5⟩;rw[hfit]at he;subst he;have WY:w5.heap[w.heap.size+1]?=some (.cells #[.slice none 0 0] 30 (0,0)):=kY hx5 hr4;have d0:=bI w5 (w.heap.size+1) 0 _ _ _ WY;have f0:=iW w5 (w.heap.size+1) 0 _ _ WY;have cf5:w5.cell? ⟨pf,0,none⟩=some (.slice aN (List.length F) cN):=dP hx5 cf)
   have HH:=aI (iV w5 (w.heap.size+1) 0 _ _ (.slice aN (List.length F) cN) WY);refine tO (w.heap.size+1) 30 #[.slice aN (List.length F) cN] HH.out underlying30 ?_;exact⟨_,F,true,rfl,((af2.ext hx5).keep (dx (p:=⟨w.heap.size+1,0,none⟩) (v:=.slice aN (List.length F) cN)) hS4).out,.inl ⟨hg,F,HT.out,hfit.symm,rfl⟩,oG (ah Jg hx5) (w.heap.size+1) 0 _⟩
end
section
open Go.RowKit
open aZ (cZ Nd vl Same)
def UX(us:List Int)(s:ByteArray)(w:World)(e:Ending)(w':World):Prop:=
 ∃vN Fr ok sl,e=.returned (.tuple #[.agg #[vN],.bool ok])/\yC us s Fr ok/\FO w' w.heap.size vN Fr.length sl (vS Fr)/\Ext w w'
theorem Ou{us:List Int}{s:ByteArray}{F:cZ}{ok:Bool}(h:yC us s F ok):F.length<=120/\∀j,j<2*F.length->(vS F j).length<=24:=by
 rcases h with⟨_,F',h1,h2,h3⟩|⟨_,_,h3⟩
 .cases ok with
  |false=>simp at h3;subst h3;simp
  |true=>
   simp at h3;subst h3;have hf:=h2.symm;unfold mP at hf;obtain⟨_,f2,f3⟩:=of_decide_eq_true hf;refine⟨f2,λj hj=>?_⟩;have hi:j / 2<F.length:=(by omega);have g:F.getD (j / 2) ([],[])=F[j / 2]:=(by rw[aO,ae hi];rfl);unfold vS;split
   .rw[aP,g];exact(f3 _ hi).1
   .rw[aP,g];exact(f3 _ hi).2
 .subst h3;simp
end
section
open Go.RowKit
open aZ (cZ Nd vl Gm Canon eU eD eQ Same)
theorem Fu(v:Value)(us:List Int)(sb:ByteArray)(w:World)(hv:Ints w v us)(hs:sb.size<=1048576)(hG:Qp w):
 Calls prog 15 #[.agg #[v,.string sb]] w (UX us sb w):=by
 obtain⟨a,cap,rfl,hcap,yH,hcells⟩:=id hv;have hb1:(((w.alloc (.cells #[.slice a us.length cap,.string sb] 43)).alloc (.cells #[.slice none 0 0] 30))).heap[w.heap.size]?=some (.cells #[.slice a us.length cap,.string sb] 43 (0,0)):=by
  rw[gI _ _ _ (by simp)];exact dV _ _
 have hb2:(((w.alloc (.cells #[.slice a us.length cap,.string sb] 43)).alloc (.cells #[.slice none 0 0] 30))).heap[w.heap.size+1]?=some (.cells #[.slice none 0 0] 30 (0,0)):=by
  have h:=dV (w.alloc (.cells #[.slice a us.length cap,.string sb] 43)) (.cells #[.slice none 0 0] 30);rw[eX]at h;exact h
 have hx2:Ext w ((w.alloc (.cells #[.slice a us.length cap,.string sb] 43)).alloc (.cells #[.slice none 0 0] 30)):=by go_grown
 cases hg:jY us sb with
 |false=>
  go_enter Tryz.func15,Tryz.ntmps15
  go_upto_region 1 with fail
  generalize (w.alloc (.cells #[.slice a us.length cap,.string sb] 43)).alloc (.cells #[.slice none 0 0] 30)=W at *;have c0:=bI W w.heap.size 0 _ _ _ hb1;have c1:=bI W w.heap.size 1 _ _ _ hb1;go_wp2_with (go_at_call 26;refine(pE _ us sb _ (hv.ext hx2) (by omega)).mono ?_;rintro e w1 ⟨he,hx1⟩;rw[hg]at he;subst he;have hr1:w1.heap[w.heap.size+1]?=some (.cells #[.slice none 0 0] 30 (0,0)):=kY hx1 hb2;have d0:=bI w1 (w.heap.size+1) 0 _ _ _ hr1;have f0:=iW w1 (w.heap.size+1) 0 _ _ hr1)
  have HH:=aI (iV w1 (w.heap.size+1) 0 _ _ (.slice none 0 0) hr1);refine tO (w.heap.size+1) 30 #[.slice none 0 0] HH.out underlying30 ?_;exact⟨_,[],false,λ_=>undef,rfl,.inr ⟨hg,rfl,rfl⟩,FO.none _ _ _ _,oG (ah hx2 hx1) (w.heap.size+1) 0 _⟩
 |true=>
  have FH:=pI.1 hg;go_enter Tryz.func15,Tryz.ntmps15
  go_upto_region 1 with fail
  generalize (w.alloc (.cells #[.slice a us.length cap,.string sb] 43)).alloc (.cells #[.slice none 0 0] 30)=W at *;have c0:=bI W w.heap.size 0 _ _ _ hb1;have c1:=bI W w.heap.size 1 _ _ _ hb1;go_upto_region 3 with(go_at_call 26;refine(pE _ us sb _ (hv.ext hx2) (by omega)).mono ?_;rintro e w1 ⟨he,hx1⟩;rw[hg]at he;subst he)
  have hE1:=ah hx2 hx1;have hq1:w1.heap[w.heap.size]?=some (.cells #[.slice a us.length cap,.string sb] 43 (0,0)):=kY hx1 hb1;have d0:=bI w1 w.heap.size 0 _ _ _ hq1;have d1:=bI w1 w.heap.size 1 _ _ _ hq1;have hzf:w.heap.size+1<W.heap.size:=bq hb2
  go_wp2_with (first
   |(go_at_call 42;refine(J8 us sb.data.toList so w2 ⟨FH,hso⟩ (hG.ext (ah hE1 hx3))).mono ?_;rintro e w3 ⟨F,vN,Fr,ok,sl,rfl,LC,hok,hFr,VB,hx4⟩
     obtain⟨aN,cN,rfl⟩:=VB.top;have HV:=yD LC hok hFr;have hr3:w3.heap[w.heap.size+1]?=some (.cells #[.slice none 0 0] 30 (0,0)):=((ah (ah hx1 hx3) hx4).block _ hzf).trans hb2;have q0:=bI w3 (w.heap.size+1) 0 _ _ _ hr3;have q1:=iW w3 (w.heap.size+1) 0 _ _ hr3;have HFO:=aI VB;clear LC hok hFr VB)
   |(go_at_call 43;refine(Gz _ us sb _ (hv.ext hE1) FH (hG.ext hE1).1).mono ?_;rintro e w2 ⟨so,rfl,hso,hx3⟩))
  have HW:=aI (iV w3 (w.heap.size+1) 0 _ _ (.slice aN Fr.length cN) hr3);have hz2:w.heap.size+1<w2.heap.size:=aJ hzf (ah hx1 hx3).size;refine tO (w.heap.size+1) 30 #[.slice aN Fr.length cN] HW.out underlying30 ?_;exact⟨_,Fr,ok,sl,rfl,.inl ⟨hg,F,HV.out⟩,(HFO.out.BP (dx (p:=⟨w.heap.size+1,0,none⟩)) (λb hb=>by subst hb;exact hz2)).lower (show w.heap.size<=w2.heap.size by omega),oG (ah (ah hE1 hx3) hx4) (w.heap.size+1) 0 _⟩
end
