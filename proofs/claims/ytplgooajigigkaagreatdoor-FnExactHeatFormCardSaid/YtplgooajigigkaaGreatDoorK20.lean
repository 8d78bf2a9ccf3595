/- 20 -/
import Derived.Test.YtplgooajigigkaaGreatDoorK19
set_option maxRecDepth 100000
set_option maxHeartbeats 4000000
namespace Go.Proofs.YtplgooajigigkaaGreatDoor
open Tryz
open Go.RowKit
open bE (dh Nd vl Same Ge)
variable {pp h mb n f d a:Nat} {s s2:jF} {w w2 wa w3:World} {qv kv:Value} {q B line:List Nat} {D:dh}
def F6(pp h:Nat)(s:jF)(f:Nat)(w:World)(e:Ending)(w':World):Prop:=∃s' j,e=.returned (.int .i64 ((j:Nat):Int))/\jr pp h s w s' w'/\s'.cn f=some j/\Grow s f s'
def uh(m:Nat):Prop:=∀(pp h:Nat) (s:jF) (f:Nat) (w:World),dA w pp h s->f<s.D.length->f<m->s.D.length+miss (f+1) s.cn<=900000->Calls prog 73 #[.pointer (some ⟨pp,0,none⟩),.int .i64 (f:Int)] w (F6 pp h s f w)
def abz(pp h:Nat)(s:jF)(f:Nat)(left:Bool)(w:World)(e:Ending)(w':World):Prop:=
 ∃s' v' F,e=.returned v'/\w'.ownsRow w.heap.size 3 1 v' F.length ((dB F).map (Value.int .i64))/\jr pp h s w s' w'/\(∀b,v'.ownBlock=some b->¬lg pp h s' b/\¬s'.S b)/\xG s f s'/\oO s'.D s'.cn f left F/\F.length<=1000000
theorem Sa(hP:dA w pp h s):iP pp h s w (((w.alloc (.cells #[] 3)).alloc (.map #[] 0)).alloc (.cells #[] 3)) (w.heap.size+1) (.slice (some ⟨w.heap.size,0,none⟩) 0 0) (.slice (some ⟨w.heap.size+1+1,0,none⟩) 0 0) [] [] []:=by
 have z1:(w.alloc (.cells #[] 3)).heap.size=w.heap.size+1:=fU _ _;have z2:((w.alloc (.cells #[] 3)).alloc (.map #[] 0)).heap.size=w.heap.size+1+1:=by rw[fU,z1]
 refine⟨((iB w w.heap.size (aJ _) 3).alloc _).alloc _,?_,⟨λ_=>none,?_,λx=>by simp⟩,by omega,by simp[Value.ownBlock],by simp[Value.ownBlock],?_,?_⟩
 .have:=iB ((w.alloc (.cells #[] 3)).alloc (.map #[] 0)) w.heap.size (by omega) 3
  rw[z2]at this;exact this
 .refine jb.made _ _ (c:=0) ?_
  rw[jo _ _ _ (by omega)];exact alloc_at z1.symm
 .intro b hb hc;simp[Value.ownBlock]at hb hc;omega
 .intro b hb
  have:w.heap.size<=b/\b<=w.heap.size+1+1:=by
   rcases hb with rfl|hb|hb
   .omega
   .simp[Value.ownBlock]at hb;omega
   .simp[Value.ownBlock]at hb;omega
  exact⟨by rw[fU,z2];omega,hP.new this.1⟩
theorem iP.Qu(m:iP pp h s2 w w2 mb qv kv q B line)(k:jr pp h s w s2 w2)(hx:Ext w2 wa)(hg:wa.grownBy w3 qv.ownBlock):jr pp h s w s2 w3:=
 (k.ext hx).side (fP hg) λb hb=>⟨(m.q.lt b hb).1,(m.xK b (.inr (.inl hb))).2⟩
theorem iP.ab0(m:iP pp h s2 w w2 mb qv kv q B line)(k:jr pp h s w s2 w2)(hx:Ext w2 wa)(hg:wa.grownBy w3 kv.ownBlock):jr pp h s w s2 w3:=
 (k.ext hx).side (fP hg) λb hb=>⟨(m.k.lt b hb).1,(m.xK b (.inr (.inr hb))).2⟩
theorem iP.abZ(m:iP pp h s2 w w2 mb qv kv q B line)(k:jr pp h s w s2 w2)(hg:w2.grownBy w3 (some mb)):jr pp h s w s2 w3:=
 k.side (jA hg) λb hb=>by subst hb;exact⟨m.mb0,(m.xK b (.inl rfl)).2⟩
theorem mq{B C e size:Nat}{v:Value}{xs:List Value}(h:w.ownsRow B e size v n xs)(hC:C<=B):w.ownsRow C e size v n xs:=by
 obtain⟨h1,h2⟩:=h;refine⟨h1,?_⟩;rcases h2 with h2|⟨g,cap,cur,e,hb,h3⟩
 .exact .inl h2
 .exact .inr ⟨g,cap,cur,e,by omega,h3⟩
theorem rF(hf:f<D.length):opt D true f=D[f].1/\opt D false f=D[f].2:=by simp[opt,af hf]
theorem qP(hD:bE.Good D){left:Bool}:(opt D left f).length<=f:=by
 unfold opt;cases e:D[f]? with
 |none=>simp
 |some nd=>
  have ha:=hD.xD _ (nz e);have hl:=hD.wf f nd e;cases left
  .exact jW (lW ha.2) hl.2
  .exact jW (lW ha.1) hl.1
theorem xG.step{wr:World}{s1:jF}{i:Nat}(hw:bE.WF s.D)(g:xG s f s1)(k:jr pp h s w s1 wr)(k2:jr pp h s1 wr s2 w2)(g2:Grow s1 i s2)(hi:i<f)(hf:f<s.D.length)(hb:bE.born (vl s.D i)<bE.born (vl s.D f)):xG s f s2:=by
 have hl:=k.len;refine⟨λN a b=>?_,λx a b c=>?_,λx a b=>?_⟩
 .have h1:=g.1 N a b
  have h2:=g2.1 N (by omega) (by omega);omega
 .cases e:s1.cn x with
  |some j=>exact g.2.1 x a b (by rw[e];rfl)
  |none=>
   have h1:=g2.2.1 x (by omega) e c;rw[k.vl hw a,k.vl hw (by omega:i<s.D.length)]at h1;omega
 .by_cases c:x<s1.D.length
  .have h1:=g.2.2 x a c
   cases e:s1.cn x with
   |none=>rw[e]at h1;cases h1
   |some j=>rw[k2.known x j e];rfl
  .exact g2.2.2 x (by omega) b
theorem FQ{cn DD:Nat->Option Nat}{O:List Nat}{k j:Nat}(hk:k<O.length)(hm:∀i j,cn i=some j->DD i=some j)(h:∀x,x∈O.take k->(cn x).isSome)(hj:DD O[k]=some j):
 ((O.take (k+1)).map λx=>(DD x).getD 0)=((O.take k).map λx=>(cn x).getD 0)++[j]/\∀x,x∈O.take (k+1)->(DD x).isSome:=by
 rw[bJ hk];have h1:∀x,x∈O.take k->DD x=cn x:=λx hx=>by
  have:=h x hx;cases e:cn x with
  |none=>rw[e]at this;cases this
  |some y=>exact hm x y e
 refine⟨?_,λx hx=>?_⟩
 .rw[dw,List.map_cons,List.map_nil,hj]
  congr 1;exact dC λx hx=>by rw[h1 x hx]
 .rcases bq.1 hx with hx|hx
  .rw[h1 x hx];exact h x hx
  .simp at hx;subst hx;rw[hj];rfl
theorem Qh(l:List Nat)(z:List Int):(CZ l z).length<=l.length:=by
 have:=pO (λ(i:Nat)=>!oV z (i:Int)) (List.range l.length)
 simpa [CZ]using this
theorem uB{m:Nat}(ha:1<=a)(hm:m<=d):(a-1)*(d+1)+(n+m)<a*(d+1)+(n+1):=by
 obtain⟨b,rfl⟩:∃b,a=b+1:=⟨a-1,by omega⟩;rw[rW,sW];omega
theorem QK(hd:d<=900000)(h:a*(d+1)+n<=d*(d+1)+d):n<=811000000000:=by
 have:d*(d+1)<=900000*900001:=pE hd (by omega);omega
theorem Db(pp h:Nat)(s:jF)(f:Nat)(left:Bool)(w:World)(ih:uh f)(hP:dA w pp h s)(hf:f<s.D.length)(hroom:s.D.length+miss (f+1) s.cn<=900000):
 Calls prog 126 #[.pointer (some ⟨pp,0,none⟩),.int .i64 (f:Int),.bool left] w (abz pp h s f left w):=by
 have hds:=hP.small;obtain⟨i0,hi0,hz0,hz1,hz2⟩:=info_parts iU;have hmk:=λw:World=>run_makeMap_plain (P:=prog) (w:=w) 196
 have hm0:=Sa hP;have hx0:Ext w (((w.alloc (.cells #[] 3)).alloc (.map #[] 0)).alloc (.cells #[] 3)):=by go_grown
 go_enter Tryz.func126,Tryz.ntmps126
 go_upto_region 2 with fail
 generalize ((w.alloc (.cells #[] 3)).alloc (.map #[] 0)).alloc (.cells #[] 3)=W0 at *;have hP0:=hP.ext hx0;have q8:jr pp h s w s W0:=jr.refl hP hx0;obtain⟨gr,PE,aR,cR,yx,OQ,qC,IJ,hSR⟩:=hP.qc hf;obtain⟨gl,PG,aL,cL,Al,OU,OT,IK,sO⟩:=hP.rG hf;replace yx:=fw hx0 yx;replace Al:=fw hx0 Al;replace IJ:=fw hx0 IJ;replace IK:=fw hx0 IK;cases left with
 |true=>
  go_upto_region 5 with fail
  go_wp2
  obtain⟨O,hO⟩:=fu (opt s.D true f);have hOl:O.length<=f:=by rw[hO];exact qP hP.good
  have hOm:∀x,x∈O->x<f/\bE.born (vl s.D x)<bE.born (vl s.D f):=λx hx=>by rw[hO]at hx;exact⟨lU hP.good.wf hx,qf hP.good.wf hx⟩
  have hOe:O=s.D[f].1:=by rw[hO];exact(rF hf).1
  rw[<-hOe]at sO ⊢;have HO:=aW hO;have HOE:=aW hOe;clear hO hOe;go_loopw [7,12,36] (λqv _ ii wr=>∃(k:Nat) (s1:jF) (q:List Nat),k<=O.length/\ii=.int .i64 ((k:Nat):Int)/\jr pp h s w s1 wr/\iP pp h s1 w wr (w.heap.size+1) qv (.slice (some ⟨w.heap.size+1+1,0,none⟩) 0 0) q [] []/\xG s f s1/\Hid (q=(O.take k).map (λx=>(s1.cn x).getD 0)/\∀x,x∈O.take k->(s1.cn x).isSome)) (λ_ _ ii _=>O.length-(intOf ii).toNat)
  case atStart=>exact⟨0,s,[],aU _,rfl,q8,hm0,xG.refl _ _,by simp[Hid]⟩
  case round=>
   obtain⟨k,s1,q,hk,rfl,hgo,hm,hG,HQ⟩:=hrel;have uP:q.length=k:=(by have:=congrArg List.length HQ.out.1;simp at this;omega);by_cases hlt:k<O.length
   .have h1:((k:Nat):Int)<((O.length:Nat):Int):=by omega
    obtain⟨-,hln,hcl⟩:=ji.at (oN.go sO (Off.lists hP) hgo);obtain⟨b,off,rfl,hcell⟩:=hcl (by omega);have hck:=hcell k hlt;obtain⟨hi1,hi2⟩:=hOm _ (ai hlt);have hlen:=hgo.len;obtain⟨aq,cq,rfl,hqc,_⟩:=bT hm.q;have hroom1:=hG.1 (f+1) (by omega) (by omega);have hmm:=Ik (show O[k]+1<=f+1 by omega) s1.cn;have IH:=aW (ih pp h s1 O[k] wr hgo.pool (by omega) (by omega) (by omega));have HS:=aW sO;have HG:=aW hG;have HOM:=aW hi2;have hS1:=hgo.pool.small;obtain⟨kn,hkn⟩:=fu q.length;rw[<-hkn]at hqc ⊢;have hmq:=hm.q;rw[<-hkn]at hmq;have HM:=aW hm;have Dn:=aW hkn;have hkn2:kn=k:=(by omega);have hwl:=hgo.keep.size;clear hcl hcell sO hG hmm hroom1 hm hkn uP;subst hkn2
    go_wp2_with (first
     |(go_at_call 73;refine IH.out.mono ?_;rintro e w2 ⟨s2,j,rfl,gZ,hcj,hg2⟩;have yl:=(HM.out.go gZ).q;rw[<-Dn.out]at yl)
     |(at_builtin;refine eO rfl (.tmp 40) (.tmp 44) 41 rfl w.heap.size 3 i0 (.int .i64 0) 1 8 underlying41 hi0 hz0 hz1 hz2 rfl (by decide) (.slice aq kn cq) kn _ rfl (yl.alloc _) _ 1 _ [.int .i64 (j:Int)] rfl rfl (.inr ⟨_,rfl,fD (dW _ _ _)⟩) one_cell (by unfold maxLen;omega) (by omega) (by rw[fU];have:=gZ.keep.size;omega) ?_;intro v5 w5 lq hg5 hl5))
    go_roundw
    case rel=>
     have hm2:=HM.out.go gZ;rw[<-Dn.out]at hm2;have IB:=hm2.push (news:=[j]) gZ.pool (bY (gz _ _) _) hg5 lq (by simp[Dn.out]) (by rw[lS,dw];rfl) hl5;have h3:=FQ hlt gZ.known HQ.out.2 hcj;exact⟨kn+1,s2,q++[j],by omega,by go_num,hm2.Qu (hgo.trans gZ) (bY (gz _ _) _) hg5,IB,HG.out.step hP.good.wf hgo gZ hg2 hi1 hf HOM.out,by rw[h3.1,<-HQ.out.1],h3.2⟩
    case measure=>simp[intOf];omega
   .have h1:¬(((k:Nat):Int)<((O.length:Nat):Int)):=by omega
    have hke:k=O.length:=(by omega);subst hke;have hOs:opt s1.D true f=O:=(by rw[HO.out];obtain⟨E,hE⟩:=hgo.more;rw[hE,qO hf]);have JE:uH s1.D s1.cn true f=q:=(by unfold uH;rw[hOs];have:=HQ.out.1;rw[dZ]at this;exact this.symm);have OP:∀x,x∈opt s1.D true f->(s1.cn x).isSome:=λx hx=>HQ.out.2 x (by rw[dZ,<-hOs];exact hx)
    have hP1:=hgo.pool;have adH:=hP1.small;have hf1:f<s1.D.length:=bg hf hgo.len;have WY:∀x,x∈q->x<s1.D.length:=λx hx=>by
     rw[<-JE]at hx;obtain⟨y,hy,rfl⟩:=az.1 hx;have:=OP y hy;cases e:s1.cn y with
     |none=>rw[e]at this;cases this
     |some j=>exact(hP1.yA.lt y j e).2
    have HC:=jm JE OP;have HG:=aW hG;have hI0:=aW (jT.start (D:=s1.D) (root:=f) (left:=true) WY);have Xm:s1.D.length*(s1.D.length+1)+q.length<=s1.D.length*(s1.D.length+1)+s1.D.length:=(by have:=hgo.len;omega);have HGK:=aW Xm;clear hOs JE OP hG WY Xm sO;obtain⟨qq,hqq⟩:=fu q;obtain⟨wo,rfl⟩:∃wo:World,wo=wr:=⟨_,rfl⟩;go_wp2
    go_loopg [7,9,13,14,15] (s1.D.length*(s1.D.length+1)+q.length) (λgk qv kv _ _ _ wr=>∃(q1 line B:List Nat),iP pp h s1 w wr (w.heap.size+1) qv kv q1 B line/\jr pp h s w s1 wr/\Hid (jT s1.D f true q q1 line B)/\Hid (gk=(s1.D.length-line.length)*(s1.D.length+1)+q1.length/\gk<=s1.D.length*(s1.D.length+1)+s1.D.length))
    case atStart=>exact⟨q,[],[],hm,hgo,hI0,aW ⟨by simp,HGK.out⟩⟩
    case round=>
     clear hm hgo;obtain⟨q1,line,B,hm,hgo,HI,HK⟩:=hrel;rcases List.eq_nil_or_concat q1 with rfl|⟨q2,i,rfl⟩
     .obtain⟨aq,cq,rfl,hqc,_⟩:=bT hm.q
      obtain⟨ak,ck,rfl,hkc,_⟩:=bT hm.k;have TE:=HI.out.open;have hBm:∀x,x∈B->x<s1.D.length:=λx hx=>TE.lt x (TE.kept x hx).1
      have hBl:B.length<=900000:=(by have:=HI.out.zC;have:=HI.out.len;omega);have hcq:∀x,x∈q->bE.Canon (vl s1.D x):=λx hx=>by
       rw[<-HC.out.1]at hx;obtain⟨y,hy,rfl⟩:=az.1 hx;have:=HC.out.2 y hy;cases e:s1.cn y with
       |none=>rw[e]at this;cases this
       |some j=>exact(hP1.yA.ok y j e).1
      have hcB:∀x,x∈B->bE.Canon (vl s1.D x):=λx hx=>om hP1.good.wf TE hcq x (TE.kept x hx).1
      have hkI:=(Ints.gm hm.k (by rw[bG];omega)).sup (S:=λb=>(Value.slice ak B.length ck).ownBlock=some b) (λb hb=>(hm.k.lt b hb).2) (λb hb=>hb);have hTk:Nn pp h s1 wr (λb=>(Value.slice ak B.length ck).ownBlock=some b):=λb hb=>hm.xK b (.inr (.inr hb))
      have aeI:=aW (zN pp h s1 true (.slice ak B.length ck) B _ wr hgo.pool hBm (by omega) hTk.off hkI);have HKI:=aW hkI;have UM:=aW hTk;have HB:=jm hBm hcB;have Gc:=aW HI.out.FX;have HOI:=aW TE;clear hkI hTk hBm hcB hcq TE HI
      go_wp2_with (first
       |(go_at_call 175;refine(C8 _ _ (dB B) z _ hk4 Tg hDI.out.xD (λy hy=>(hDI.out.bd y hy).1) (by rw[bG];omega)).mono ?_;rintro e w5 ⟨v5,rfl,lq,hx5⟩)
       |(go_at_call 176;refine aeI.out.mono ?_;rintro e w4 ⟨v4,z,rfl,Dx,Pt,jq⟩;have hDI:=aW Pt;have Tg:=Ints.gm Dx (by have:=Pt.len;omega);have hk4:=(oN.go HKI.out UM.out.off jq).out;clear Pt))
      go_ret
      have hw4:=(hgo.trans jq).keep.size;refine⟨s1,v5,CZ B z,rfl,?_,(hgo.trans jq).ext hx5,λb hb=>?_,HG.out,⟨HC.out.2,line,B,by rw[HC.out.1];exact HOI.out,DV hP1.good Gc.out HB.out.1 HB.out.2 hDI.out⟩,by have:=Qh B z;omega⟩
      .rw[Az]at lq
       rw[bG]at lq;exact mq lq hw4
      .exact jq.pool.new (lq.lt b hb).1
     .rw[List.concat_eq_append]at hm HI HK
      have hil:i<s1.D.length:=HI.out.lt i (.inr (by simp));obtain⟨gq,cq,rfl,hqc,hqm,yj⟩:=iy hm.q (by simp);obtain⟨ak,ck,rfl,hkc,_⟩:=bT hm.k;have hq1:(q2++[i]).length=q2.length+1:=(by simp);have hci:=yj q2.length (by simp);have e0:((dB (q2++[i])).map (Value.int .i64))[q2.length]?=some (.int .i64 (i:Int)):=(by simp[dB]);rw[e0]at hci;have hbd:=QK adH (a:=s1.D.length-line.length) (n:=(q2++[i]).length) (by have:=HK.out.1;have:=HK.out.2;omega);rw[hq1]at hqc hbd ⊢;have hmp:=hm.pop;have hlk:=λW hW=>hm.look (x:=i) (by omega) W hW
      obtain⟨n2,hn2⟩:=fu q2.length;have Ur:=aW (show gk=(s1.D.length-line.length)*(s1.D.length+1)+(n2+1)/\gk<=s1.D.length*(s1.D.length+1)+s1.D.length by rw[hn2,<-hq1];exact HK.out);rw[<-hn2]at hci hqc hbd hmp ⊢;have Eu:=aW hn2;have zA:=hlk wr rfl;have hwr:=hgo.keep.size;have hBl:B.length<=900000:=(by have:=HI.out.zC;have:=HI.out.len;omega);have hlL:=HI.out.len;clear yj e0 hq1 hm hlk hn2 HK;by_cases hin:i∈line
      .simp only[hin,decide_true]at zA
       have BX:=aW hin;clear hin;go_wp2
       go_roundg ((s1.D.length-line.length)*(s1.D.length+1)+n2)
       case measure=>have:=Ur.out.1;omega
       case rel=>exact⟨q2,line,B,hmp,hgo,aW (HI.out.skip BX.out),aW ⟨by rw[Eu.out],by have:=Ur.out;omega⟩⟩
      .simp only[hin,decide_false]at zA
       have BX:=aW hin;clear hin;obtain⟨fm,hM,hfm⟩:=hmp.seen;have Y0:=aW hfm;have hki:=uO i (by omega);clear hfm;go_upto_region 15 with(at_mapUpdate;refine ku rfl _ _ _ 196 rfl 3 4 rH underlying196 (w.heap.size+1) line.length fm rfl hM (by unfold maxLen;omega) (.int .i64 (i:Int)) (.bool true) rfl rfl hki ?_;intro w3 JG hg3)
       have xJ:=hmp.mark Y0.out JG hg3;have iq:=hmp.abZ hgo hg3;have hP3:=iq.pool;have hz3:=iq.keep.size;clear JG hg3 hM hmp zA hgo hci;obtain⟨gr3,cr3,aR3,cR3,cc1,alc,alb,cg1,aaL⟩:=hP3.qc hil;obtain⟨gl3,cl3,aL3,cL3,cc0,alJ,alI,cg0,aaQ⟩:=hP3.rG hil;have hoi:=rF hil;have aeA:=aW hoi;clear hoi;have adS:=aW (C9 pp h s1 f i true _ (opt s1.D (!true) i) s1.S w3 hP3 hf1 (λx hx=>by have:=lU hP3.good.wf hx;omega) (Off.lists hP3) (by simp only[Bool.not_true];rw[aeA.out.2];exact aaL));clear aaL aaQ;go_upto_region 20 with(go_at_call 174;refine adS.out.mono ?_;rintro e w4 ⟨z,rfl,hz,jq⟩)
       have JC:=xJ.go jq;have qi:=iq.trans jq;have Tg:=qi.keep.size;clear xJ iq jq cc1 cg1 cc0 cg0;have Xf:=JC.q;rw[<-Eu.out]at Xf;rcases hz with⟨rfl,hno⟩|⟨y,hy,rfl,rV⟩
       .have GZ:=aW (HI.out.keep BX.out hno)
        have hl1:=GZ.out.len;rw[bu,iZ]at hl1;clear hno;go_wp2_with (at_builtin;refine eO rfl (.tmp 99) (.tmp 101) 41 rfl w.heap.size 3 i0 (.int .i64 0) 1 8 underlying41 hi0 hz0 hz1 hz2 rfl (by decide) (.slice ak B.length ck) B.length _ rfl (JC.k.alloc _) _ 1 _ [.int .i64 (i:Int)] rfl rfl (.inr ⟨_,rfl,fD (dW _ _ _)⟩) one_cell (by unfold maxLen;omega) (by omega) (by rw[fU];omega) ?_;intro v5 w5 lq hg5 hl5)
        go_roundg ((s1.D.length-(line++[i]).length)*(s1.D.length+1)+n2)
        case measure=>
         have h1:=Ur.out.1;have h2:=uB (d:=s1.D.length) (a:=s1.D.length-line.length) (n:=n2) (m:=0) (by omega) (aU _);rw[bu,iZ,show s1.D.length-(line.length+1)=s1.D.length-line.length-1 by omega];omega
        case rel=>
         have h1:=Ur.out;have h2:=uB (d:=s1.D.length) (a:=s1.D.length-line.length) (n:=n2) (m:=0) (by omega) (aU _);exact⟨q2,line++[i],B++[i],by rw[Eu.out];rw[Eu.out]at JC;exact JC.add qi.pool (bY (gz _ _) _) hg5 lq (by simp) (by rw[lS,dw];rfl) hl5,JC.ab0 qi (bY (gz _ _) _) hg5,GZ,aW ⟨by rw[Eu.out],by rw[bu,iZ,show s1.D.length-(line.length+1)=s1.D.length-line.length-1 by omega];omega⟩⟩
       .have hyl:y<s1.D.length:=by have:=lU qi.pool.good.wf hy;omega
        have GZ:=aW (HI.out.pass qi.pool.good.wf BX.out hy rV);have hl1:=GZ.out.len;rw[bu,iZ]at hl1;have hyn:¬((y:Int)<0):=(by omega);have hol:=qP qi.pool.good (left:=true) (f:=y);obtain⟨g4,c4,aY,cY,cc0,alH,alG,cg0,hSY⟩:=qi.pool.rG hyl;have HOY:=aW (rF hyl).1;rw[<-HOY.out]at cg0 hSY;obtain⟨OY,hOY⟩:=fu (opt s1.D true y);rw[<-hOY]at cg0 hSY hol;obtain⟨aY',cY',eY,hY1,hY2,hY3⟩:=hSY.out;simp only[il,bG]at eY;obtain⟨rfl,-,rfl⟩:=eY;have hsrc:=JX hY1 hY2 hY3 w4 (gz _ _);rw[bG]at hsrc;have aey:=aW hOY;clear hY1 hY2 hY3 hSY hOY hy rV HOY;go_wp2_with (at_builtin;refine eO rfl (.tmp 105) (.tmp 112) 41 rfl w.heap.size 3 i0 (.int .i64 0) 1 8 underlying41 hi0 hz0 hz1 hz2 rfl (by decide) (.slice (some ⟨gq,0,none⟩) n2 cq) n2 _ rfl Xf aY OY.length cY ((dB OY).map (Value.int .i64)) rfl (by rw[bK,bG];omega) hsrc (lZ _) (by unfold maxLen;omega) (by omega) (by omega) ?_;intro v5 w5 lq hg5 hl5)
        go_roundg ((s1.D.length-(line++[i]).length)*(s1.D.length+1)+(n2+OY.length))
        case measure=>
         have h1:=Ur.out.1;have h2:=uB (d:=s1.D.length) (a:=s1.D.length-line.length) (n:=n2) (m:=OY.length) (by omega) (by omega);rw[bu,iZ,show s1.D.length-(line.length+1)=s1.D.length-line.length-1 by omega];omega
        case rel=>
         have h1:=Ur.out;have h2:=uB (d:=s1.D.length) (a:=s1.D.length-line.length) (n:=n2) (m:=OY.length) (by omega) (by omega);exact⟨q2++OY,line++[i],B,JC.push (news:=OY) qi.pool (gz _ _) hg5 lq (by rw[bu,Eu.out]) (by rw[lS,dw]) hl5,JC.Qu qi (gz _ _) hg5,by rw[aey.out];exact GZ,aW ⟨by rw[show(q2++OY).length=q2.length+OY.length from bu,Eu.out],by rw[bu,iZ,show s1.D.length-(line.length+1)=s1.D.length-line.length-1 by omega];omega⟩⟩
 |false=>
  go_upto_region 5 with fail
  go_wp2
  obtain⟨O,hO⟩:=fu (opt s.D false f);have hOl:O.length<=f:=by rw[hO];exact qP hP.good
  have hOm:∀x,x∈O->x<f/\bE.born (vl s.D x)<bE.born (vl s.D f):=λx hx=>by rw[hO]at hx;exact⟨lU hP.good.wf hx,qf hP.good.wf hx⟩
  have hOe:O=s.D[f].2:=by rw[hO];exact(rF hf).2
  rw[<-hOe]at hSR ⊢;have HO:=aW hO;have HOE:=aW hOe;clear hO hOe;go_loopw [7,12,36] (λqv _ ii wr=>∃(k:Nat) (s1:jF) (q:List Nat),k<=O.length/\ii=.int .i64 ((k:Nat):Int)/\jr pp h s w s1 wr/\iP pp h s1 w wr (w.heap.size+1) qv (.slice (some ⟨w.heap.size+1+1,0,none⟩) 0 0) q [] []/\xG s f s1/\Hid (q=(O.take k).map (λx=>(s1.cn x).getD 0)/\∀x,x∈O.take k->(s1.cn x).isSome)) (λ_ _ ii _=>O.length-(intOf ii).toNat)
  case atStart=>exact⟨0,s,[],aU _,rfl,q8,hm0,xG.refl _ _,by simp[Hid]⟩
  case round=>
   obtain⟨k,s1,q,hk,rfl,hgo,hm,hG,HQ⟩:=hrel;have uP:q.length=k:=(by have:=congrArg List.length HQ.out.1;simp at this;omega);by_cases hlt:k<O.length
   .have h1:((k:Nat):Int)<((O.length:Nat):Int):=by omega
    obtain⟨-,hln,hcl⟩:=ji.at (oN.go hSR (Off.lists hP) hgo);obtain⟨b,off,rfl,hcell⟩:=hcl (by omega);have hck:=hcell k hlt;obtain⟨hi1,hi2⟩:=hOm _ (ai hlt);have hlen:=hgo.len;obtain⟨aq,cq,rfl,hqc,_⟩:=bT hm.q;have hroom1:=hG.1 (f+1) (by omega) (by omega);have hmm:=Ik (show O[k]+1<=f+1 by omega) s1.cn;have IH:=aW (ih pp h s1 O[k] wr hgo.pool (by omega) (by omega) (by omega));have HS:=aW hSR;have HG:=aW hG;have HOM:=aW hi2;have hS1:=hgo.pool.small;obtain⟨kn,hkn⟩:=fu q.length;rw[<-hkn]at hqc ⊢;have hmq:=hm.q;rw[<-hkn]at hmq;have HM:=aW hm;have Dn:=aW hkn;have hkn2:kn=k:=(by omega);have hwl:=hgo.keep.size;clear hcl hcell hSR hG hmm hroom1 hm hkn uP;subst hkn2
    go_wp2_with (first
     |(go_at_call 73;refine IH.out.mono ?_;rintro e w2 ⟨s2,j,rfl,gZ,hcj,hg2⟩;have yl:=(HM.out.go gZ).q;rw[<-Dn.out]at yl)
     |(at_builtin;refine eO rfl (.tmp 40) (.tmp 44) 41 rfl w.heap.size 3 i0 (.int .i64 0) 1 8 underlying41 hi0 hz0 hz1 hz2 rfl (by decide) (.slice aq kn cq) kn _ rfl (yl.alloc _) _ 1 _ [.int .i64 (j:Int)] rfl rfl (.inr ⟨_,rfl,fD (dW _ _ _)⟩) one_cell (by unfold maxLen;omega) (by omega) (by rw[fU];have:=gZ.keep.size;omega) ?_;intro v5 w5 lq hg5 hl5))
    go_roundw
    case rel=>
     have hm2:=HM.out.go gZ;rw[<-Dn.out]at hm2;have IB:=hm2.push (news:=[j]) gZ.pool (bY (gz _ _) _) hg5 lq (by simp[Dn.out]) (by rw[lS,dw];rfl) hl5;have h3:=FQ hlt gZ.known HQ.out.2 hcj;exact⟨kn+1,s2,q++[j],by omega,by go_num,hm2.Qu (hgo.trans gZ) (bY (gz _ _) _) hg5,IB,HG.out.step hP.good.wf hgo gZ hg2 hi1 hf HOM.out,by rw[h3.1,<-HQ.out.1],h3.2⟩
    case measure=>simp[intOf];omega
   .have h1:¬(((k:Nat):Int)<((O.length:Nat):Int)):=by omega
    have hke:k=O.length:=(by omega);subst hke;have hOs:opt s1.D false f=O:=(by rw[HO.out];obtain⟨E,hE⟩:=hgo.more;rw[hE,qO hf]);have JE:uH s1.D s1.cn false f=q:=(by unfold uH;rw[hOs];have:=HQ.out.1;rw[dZ]at this;exact this.symm);have OP:∀x,x∈opt s1.D false f->(s1.cn x).isSome:=λx hx=>HQ.out.2 x (by rw[dZ,<-hOs];exact hx)
    have hP1:=hgo.pool;have adH:=hP1.small;have hf1:f<s1.D.length:=bg hf hgo.len;have WY:∀x,x∈q->x<s1.D.length:=λx hx=>by
     rw[<-JE]at hx;obtain⟨y,hy,rfl⟩:=az.1 hx;have:=OP y hy;cases e:s1.cn y with
     |none=>rw[e]at this;cases this
     |some j=>exact(hP1.yA.lt y j e).2
    have HC:=jm JE OP;have HG:=aW hG;have hI0:=aW (jT.start (D:=s1.D) (root:=f) (left:=false) WY);have Xm:s1.D.length*(s1.D.length+1)+q.length<=s1.D.length*(s1.D.length+1)+s1.D.length:=(by have:=hgo.len;omega);have HGK:=aW Xm;clear hOs JE OP hG WY Xm hSR;obtain⟨qq,hqq⟩:=fu q;obtain⟨wo,rfl⟩:∃wo:World,wo=wr:=⟨_,rfl⟩;go_wp2
    go_loopg [7,9,13,14,15] (s1.D.length*(s1.D.length+1)+q.length) (λgk qv kv _ _ _ wr=>∃(q1 line B:List Nat),iP pp h s1 w wr (w.heap.size+1) qv kv q1 B line/\jr pp h s w s1 wr/\Hid (jT s1.D f false q q1 line B)/\Hid (gk=(s1.D.length-line.length)*(s1.D.length+1)+q1.length/\gk<=s1.D.length*(s1.D.length+1)+s1.D.length))
    case atStart=>exact⟨q,[],[],hm,hgo,hI0,aW ⟨by simp,HGK.out⟩⟩
    case round=>
     clear hm hgo;obtain⟨q1,line,B,hm,hgo,HI,HK⟩:=hrel;rcases List.eq_nil_or_concat q1 with rfl|⟨q2,i,rfl⟩
     .obtain⟨aq,cq,rfl,hqc,_⟩:=bT hm.q
      obtain⟨ak,ck,rfl,hkc,_⟩:=bT hm.k;have TE:=HI.out.open;have hBm:∀x,x∈B->x<s1.D.length:=λx hx=>TE.lt x (TE.kept x hx).1
      have hBl:B.length<=900000:=(by have:=HI.out.zC;have:=HI.out.len;omega);have hcq:∀x,x∈q->bE.Canon (vl s1.D x):=λx hx=>by
       rw[<-HC.out.1]at hx;obtain⟨y,hy,rfl⟩:=az.1 hx;have:=HC.out.2 y hy;cases e:s1.cn y with
       |none=>rw[e]at this;cases this
       |some j=>exact(hP1.yA.ok y j e).1
      have hcB:∀x,x∈B->bE.Canon (vl s1.D x):=λx hx=>om hP1.good.wf TE hcq x (TE.kept x hx).1
      have hkI:=(Ints.gm hm.k (by rw[bG];omega)).sup (S:=λb=>(Value.slice ak B.length ck).ownBlock=some b) (λb hb=>(hm.k.lt b hb).2) (λb hb=>hb);have hTk:Nn pp h s1 wr (λb=>(Value.slice ak B.length ck).ownBlock=some b):=λb hb=>hm.xK b (.inr (.inr hb))
      have aeI:=aW (zN pp h s1 false (.slice ak B.length ck) B _ wr hgo.pool hBm (by omega) hTk.off hkI);have HKI:=aW hkI;have UM:=aW hTk;have HB:=jm hBm hcB;have Gc:=aW HI.out.FX;have HOI:=aW TE;clear hkI hTk hBm hcB hcq TE HI
      go_wp2_with (first
       |(go_at_call 175;refine(C8 _ _ (dB B) z _ hk4 Tg hDI.out.xD (λy hy=>(hDI.out.bd y hy).1) (by rw[bG];omega)).mono ?_;rintro e w5 ⟨v5,rfl,lq,hx5⟩)
       |(go_at_call 176;refine aeI.out.mono ?_;rintro e w4 ⟨v4,z,rfl,Dx,Pt,jq⟩;have hDI:=aW Pt;have Tg:=Ints.gm Dx (by have:=Pt.len;omega);have hk4:=(oN.go HKI.out UM.out.off jq).out;clear Pt))
      go_ret
      have hw4:=(hgo.trans jq).keep.size;refine⟨s1,v5,CZ B z,rfl,?_,(hgo.trans jq).ext hx5,λb hb=>?_,HG.out,⟨HC.out.2,line,B,by rw[HC.out.1];exact HOI.out,DV hP1.good Gc.out HB.out.1 HB.out.2 hDI.out⟩,by have:=Qh B z;omega⟩
      .rw[Az]at lq
       rw[bG]at lq;exact mq lq hw4
      .exact jq.pool.new (lq.lt b hb).1
     .rw[List.concat_eq_append]at hm HI HK
      have hil:i<s1.D.length:=HI.out.lt i (.inr (by simp));obtain⟨gq,cq,rfl,hqc,hqm,yj⟩:=iy hm.q (by simp);obtain⟨ak,ck,rfl,hkc,_⟩:=bT hm.k;have hq1:(q2++[i]).length=q2.length+1:=(by simp);have hci:=yj q2.length (by simp);have e0:((dB (q2++[i])).map (Value.int .i64))[q2.length]?=some (.int .i64 (i:Int)):=(by simp[dB]);rw[e0]at hci;have hbd:=QK adH (a:=s1.D.length-line.length) (n:=(q2++[i]).length) (by have:=HK.out.1;have:=HK.out.2;omega);rw[hq1]at hqc hbd ⊢;have hmp:=hm.pop;have hlk:=λW hW=>hm.look (x:=i) (by omega) W hW
      obtain⟨n2,hn2⟩:=fu q2.length;have Ur:=aW (show gk=(s1.D.length-line.length)*(s1.D.length+1)+(n2+1)/\gk<=s1.D.length*(s1.D.length+1)+s1.D.length by rw[hn2,<-hq1];exact HK.out);rw[<-hn2]at hci hqc hbd hmp ⊢;have Eu:=aW hn2;have zA:=hlk wr rfl;have hwr:=hgo.keep.size;have hBl:B.length<=900000:=(by have:=HI.out.zC;have:=HI.out.len;omega);have hlL:=HI.out.len;clear yj e0 hq1 hm hlk hn2 HK;by_cases hin:i∈line
      .simp only[hin,decide_true]at zA
       have BX:=aW hin;clear hin;go_wp2
       go_roundg ((s1.D.length-line.length)*(s1.D.length+1)+n2)
       case measure=>have:=Ur.out.1;omega
       case rel=>exact⟨q2,line,B,hmp,hgo,aW (HI.out.skip BX.out),aW ⟨by rw[Eu.out],by have:=Ur.out;omega⟩⟩
      .simp only[hin,decide_false]at zA
       have BX:=aW hin;clear hin;obtain⟨fm,hM,hfm⟩:=hmp.seen;have Y0:=aW hfm;have hki:=uO i (by omega);clear hfm;go_upto_region 15 with(at_mapUpdate;refine ku rfl _ _ _ 196 rfl 3 4 rH underlying196 (w.heap.size+1) line.length fm rfl hM (by unfold maxLen;omega) (.int .i64 (i:Int)) (.bool true) rfl rfl hki ?_;intro w3 JG hg3)
       have xJ:=hmp.mark Y0.out JG hg3;have iq:=hmp.abZ hgo hg3;have hP3:=iq.pool;have hz3:=iq.keep.size;clear JG hg3 hM hmp zA hgo hci;obtain⟨gr3,cr3,aR3,cR3,cc1,alc,alb,cg1,aaL⟩:=hP3.qc hil;obtain⟨gl3,cl3,aL3,cL3,cc0,alJ,alI,cg0,aaQ⟩:=hP3.rG hil;have hoi:=rF hil;have aeA:=aW hoi;clear hoi;have adS:=aW (C9 pp h s1 f i false _ (opt s1.D (!false) i) s1.S w3 hP3 hf1 (λx hx=>by have:=lU hP3.good.wf hx;omega) (Off.lists hP3) (by simp only[Bool.not_false];rw[aeA.out.1];exact aaQ));clear aaL aaQ;go_upto_region 20 with(go_at_call 174;refine adS.out.mono ?_;rintro e w4 ⟨z,rfl,hz,jq⟩)
       have JC:=xJ.go jq;have qi:=iq.trans jq;have Tg:=qi.keep.size;clear xJ iq jq cc1 cg1 cc0 cg0;have Xf:=JC.q;rw[<-Eu.out]at Xf;rcases hz with⟨rfl,hno⟩|⟨y,hy,rfl,rV⟩
       .have GZ:=aW (HI.out.keep BX.out hno)
        have hl1:=GZ.out.len;rw[bu,iZ]at hl1;clear hno;go_wp2_with (at_builtin;refine eO rfl (.tmp 99) (.tmp 101) 41 rfl w.heap.size 3 i0 (.int .i64 0) 1 8 underlying41 hi0 hz0 hz1 hz2 rfl (by decide) (.slice ak B.length ck) B.length _ rfl (JC.k.alloc _) _ 1 _ [.int .i64 (i:Int)] rfl rfl (.inr ⟨_,rfl,fD (dW _ _ _)⟩) one_cell (by unfold maxLen;omega) (by omega) (by rw[fU];omega) ?_;intro v5 w5 lq hg5 hl5)
        go_roundg ((s1.D.length-(line++[i]).length)*(s1.D.length+1)+n2)
        case measure=>
         have h1:=Ur.out.1;have h2:=uB (d:=s1.D.length) (a:=s1.D.length-line.length) (n:=n2) (m:=0) (by omega) (aU _);rw[bu,iZ,show s1.D.length-(line.length+1)=s1.D.length-line.length-1 by omega];omega
        case rel=>
         have h1:=Ur.out;have h2:=uB (d:=s1.D.length) (a:=s1.D.length-line.length) (n:=n2) (m:=0) (by omega) (aU _);exact⟨q2,line++[i],B++[i],by rw[Eu.out];rw[Eu.out]at JC;exact JC.add qi.pool (bY (gz _ _) _) hg5 lq (by simp) (by rw[lS,dw];rfl) hl5,JC.ab0 qi (bY (gz _ _) _) hg5,GZ,aW ⟨by rw[Eu.out],by rw[bu,iZ,show s1.D.length-(line.length+1)=s1.D.length-line.length-1 by omega];omega⟩⟩
       .have hyl:y<s1.D.length:=by have:=lU qi.pool.good.wf hy;omega
        have GZ:=aW (HI.out.pass qi.pool.good.wf BX.out hy rV);have hl1:=GZ.out.len;rw[bu,iZ]at hl1;have hyn:¬((y:Int)<0):=(by omega);have hol:=qP qi.pool.good (left:=false) (f:=y);obtain⟨g4,c4,aY,cY,cc0,alH,alG,cg0,hSY⟩:=qi.pool.qc hyl;have HOY:=aW (rF hyl).2;rw[<-HOY.out]at cg0 hSY;obtain⟨OY,hOY⟩:=fu (opt s1.D false y);rw[<-hOY]at cg0 hSY hol;obtain⟨aY',cY',eY,hY1,hY2,hY3⟩:=hSY.out;simp only[il,bG]at eY;obtain⟨rfl,-,rfl⟩:=eY;have hsrc:=JX hY1 hY2 hY3 w4 (gz _ _);rw[bG]at hsrc;have aey:=aW hOY;clear hY1 hY2 hY3 hSY hOY hy rV HOY;go_wp2_with (at_builtin;refine eO rfl (.tmp 87) (.tmp 94) 41 rfl w.heap.size 3 i0 (.int .i64 0) 1 8 underlying41 hi0 hz0 hz1 hz2 rfl (by decide) (.slice (some ⟨gq,0,none⟩) n2 cq) n2 _ rfl Xf aY OY.length cY ((dB OY).map (Value.int .i64)) rfl (by rw[bK,bG];omega) hsrc (lZ _) (by unfold maxLen;omega) (by omega) (by omega) ?_;intro v5 w5 lq hg5 hl5)
        go_roundg ((s1.D.length-(line++[i]).length)*(s1.D.length+1)+(n2+OY.length))
        case measure=>
         have h1:=Ur.out.1;have h2:=uB (d:=s1.D.length) (a:=s1.D.length-line.length) (n:=n2) (m:=OY.length) (by omega) (by omega);rw[bu,iZ,show s1.D.length-(line.length+1)=s1.D.length-line.length-1 by omega];omega
        case rel=>
         have h1:=Ur.out;have h2:=uB (d:=s1.D.length) (a:=s1.D.length-line.length) (n:=n2) (m:=OY.length) (by omega) (by omega);exact⟨q2++OY,line++[i],B,JC.push (news:=OY) qi.pool (gz _ _) hg5 lq (by rw[bu,Eu.out]) (by rw[lS,dw]) hl5,JC.Qu qi (gz _ _) hg5,by rw[aey.out];exact GZ,aW ⟨by rw[show(q2++OY).length=q2.length+OY.length from bu,Eu.out],by rw[bu,iZ,show s1.D.length-(line.length+1)=s1.D.length-line.length-1 by omega];omega⟩⟩
