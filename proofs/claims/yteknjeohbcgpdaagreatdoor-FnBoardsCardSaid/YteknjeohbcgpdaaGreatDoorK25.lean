/-
  Contract of the program's reduced, where canon serves at all places below.
-/
import Derived.Test.YteknjeohbcgpdaaGreatDoorK24
set_option maxRecDepth 100000
namespace Go.Proofs.YteknjeohbcgpdaaGreatDoor
open Tryz
open Go.RowKit
open bO (dH Nd vl Same Ge)
variable {pp h mb n f d a:Nat} {s s2:iH} {w w2 wa w3:World} {qv kv:Value} {q B line:List Nat} {D:dH}
def Ej(pp h:Nat)(s:iH)(f:Nat)(w:World)(e:Ending)(w':World):Prop:=∃s' j,e=.returned (.int .i64 ((j:Nat):Int))/\jK pp h s w s' w'/\s'.cn f=some j/\Grow s f s'
def qF(m:Nat):Prop:=∀(pp h:Nat) (s:iH) (f:Nat) (w:World),dz w pp h s->f<s.D.length->f<m->s.D.length+miss (f+1) s.cn<=900000->Calls prog 104 #[.pointer (some ⟨pp,0,none⟩),.int .i64 (f:Int)] w (Ej pp h s f w)
def ZW(pp h:Nat)(s:iH)(f:Nat)(left:Bool)(w:World)(e:Ending)(w':World):Prop:=
 ∃s' v' F,e=.returned v'/\w'.ownsRow w.heap.size 3 1 v' F.length ((dD F).map (Value.int .i64))/\jK pp h s w s' w'/\(∀b,v'.ownBlock=some b->¬jN pp h s' b/\¬s'.S b)/\qG s f s'/\mF s'.D s'.cn f left F/\F.length<=1000000
theorem Qj(hP:dz w pp h s):gH pp h s w (((w.alloc (.cells #[] 3)).alloc (.map #[] 0)).alloc (.cells #[] 3)) (w.heap.size+1) (.slice (some ⟨w.heap.size,0,none⟩) 0 0) (.slice (some ⟨w.heap.size+1+1,0,none⟩) 0 0) [] [] []:=by
 have z1:(w.alloc (.cells #[] 3)).heap.size=w.heap.size+1:=eQ _ _;have z2:((w.alloc (.cells #[] 3)).alloc (.map #[] 0)).heap.size=w.heap.size+1+1:=by rw[eQ,z1]
 refine⟨((fZ w w.heap.size (ay _) 3).alloc _).alloc _,?_,⟨λ_=>none,?_,λx=>by simp⟩,by omega,by simp[Value.ownBlock],by simp[Value.ownBlock],?_,?_⟩
 .have:=fZ ((w.alloc (.cells #[] 3)).alloc (.map #[] 0)) w.heap.size (by omega) 3
  rw[z2]at this;exact this
 .refine gz.made _ _ (c:=0) ?_
  rw[Below.heap_alloc _ _ _ (by omega)];exact alloc_at z1.symm
 .intro b hb hc;simp[Value.ownBlock]at hb hc;omega
 .intro b hb
  have:w.heap.size<=b/\b<=w.heap.size+1+1:=by
   rcases hb with rfl|hb|hb
   .omega
   .simp[Value.ownBlock]at hb;omega
   .simp[Value.ownBlock]at hb;omega
  exact⟨by rw[eQ,z2];omega,hP.new this.1⟩
theorem gH.Oq(m:gH pp h s2 w w2 mb qv kv q B line)(k:jK pp h s w s2 w2)(hx:Ext w2 wa)(hg:wa.grownBy w3 qv.ownBlock):jK pp h s w s2 w3:=
 (k.ext hx).side (fH hg) λb hb=>⟨(m.q.lt b hb).1,(m.wh b (.inr (.inl hb))).2⟩
theorem gH.aaq(m:gH pp h s2 w w2 mb qv kv q B line)(k:jK pp h s w s2 w2)(hx:Ext w2 wa)(hg:wa.grownBy w3 kv.ownBlock):jK pp h s w s2 w3:=
 (k.ext hx).side (fH hg) λb hb=>⟨(m.k.lt b hb).1,(m.wh b (.inr (.inr hb))).2⟩
theorem gH.aap(m:gH pp h s2 w w2 mb qv kv q B line)(k:jK pp h s w s2 w2)(hg:w2.grownBy w3 (some mb)):jK pp h s w s2 w3:=
 k.side (gJ hg) λb hb=>by subst hb;exact⟨m.mb0,(m.wh b (.inl rfl)).2⟩
theorem jS{B C e size:Nat}{v:Value}{xs:List Value}(h:w.ownsRow B e size v n xs)(hC:C<=B):w.ownsRow C e size v n xs:=by
 obtain⟨h1,h2⟩:=h;refine⟨h1,?_⟩;rcases h2 with h2|⟨g,cap,cur,e,hb,h3⟩
 .exact .inl h2
 .exact .inr ⟨g,cap,cur,e,by omega,h3⟩
theorem o9(hf:f<D.length):opt D true f=D[f].1/\opt D false f=D[f].2:=by simp[opt,aa hf]
theorem oN(hD:bO.Good D){left:Bool}:(opt D left f).length<=f:=by
 unfold opt;cases e:D[f]? with
 |none=>simp
 |some nd=>
  have ha:=hD.Cf _ (jr e);have hl:=hD.wf f nd e;cases left
  .exact jI (lU ha.2) hl.2
  .exact jI (lU ha.1) hl.1
theorem qG.step{wr:World}{s1:iH}{i:Nat}(hw:bO.WF s.D)(g:qG s f s1)(k:jK pp h s w s1 wr)(k2:jK pp h s1 wr s2 w2)(g2:Grow s1 i s2)(hi:i<f)(hf:f<s.D.length)(hb:bO.born (vl s.D i)<bO.born (vl s.D f)):qG s f s2:=by
 have hl:=k.len;refine⟨λN a b=>?_,λx a b c=>?_,λx a b=>?_⟩
 .have h1:=g.1 N a b
  have h2:=g2.1 N (by omega) (by omega);omega
 .cases e:s1.cn x with
  |some j=>exact g.2.1 x a b (by rw[e];rfl)
  |none=>
   have h1:=g2.2.1 x (by omega) e c;rw[k.vl hw a,k.vl hw (by omega:i<s.D.length)]at h1;omega
 .by_cases c:x<s1.D.length
  .have h1:=g.2.2 x a c
   cases e:s1.cn x with
   |none=>rw[e]at h1;cases h1
   |some j=>rw[k2.known x j e];rfl
  .exact g2.2.2 x (by omega) b
theorem D9{cn AU:Nat->Option Nat}{O:List Nat}{k j:Nat}(hk:k<O.length)(hm:∀i j,cn i=some j->AU i=some j)(h:∀x,x∈O.take k->(cn x).isSome)(hj:AU O[k]=some j):
 ((O.take (k+1)).map λx=>(AU x).getD 0)=((O.take k).map λx=>(cn x).getD 0)++[j]/\∀x,x∈O.take (k+1)->(AU x).isSome:=by
 rw[bg hk];have h1:∀x,x∈O.take k->AU x=cn x:=λx hx=>by
  have:=h x hx;cases e:cn x with
  |none=>rw[e]at this;cases this
  |some y=>exact hm x y e
 refine⟨?_,λx hx=>?_⟩
 .rw[bG,lM,qm,hj]
  congr 1;exact df λx hx=>by rw[h1 x hx]
 .rcases bq.1 hx with hx|hx
  .rw[h1 x hx];exact h x hx
  .simp at hx;subst hx;rw[hj];rfl
theorem Oe(l:List Nat)(z:List Int):(Bl l z).length<=l.length:=by
 have:=rz (λ(i:Nat)=>!mI z (i:Int)) (List.range l.length)
 simpa [Bl]using this
theorem qW{m:Nat}(ha:1<=a)(hm:m<=d):(a-1)*(d+1)+(n+m)<a*(d+1)+(n+1):=by
 obtain⟨b,rfl⟩:∃b,a=b+1:=⟨a-1,by omega⟩;rw[kS,qj];omega
theorem OA(hd:d<=900000)(h:a*(d+1)+n<=d*(d+1)+d):n<=811000000000:=by
 have:d*(d+1)<=900000*900001:=gu hd (by omega);omega
set_option maxHeartbeats 4000000 in
theorem Bt(pp h:Nat)(s:iH)(f:Nat)(left:Bool)(w:World)(ih:qF f)(hP:dz w pp h s)(hf:f<s.D.length)(hroom:s.D.length+miss (f+1) s.cn<=900000):
 Calls prog 160 #[.pointer (some ⟨pp,0,none⟩),.int .i64 (f:Int),.bool left] w (ZW pp h s f left w):=by
 have hds:=hP.small;obtain⟨i0,hi0,hz0,hz1,hz2⟩:=info_parts iw;have hmk:=λw:World=>run_makeMap_plain (P:=prog) (w:=w) 187
 have hm0:=Qj hP;have hx0:Ext w (((w.alloc (.cells #[] 3)).alloc (.map #[] 0)).alloc (.cells #[] 3)):=by go_grown
 go_enter Tryz.func160,Tryz.ntmps160
 go_upto_region 2 with fail
 generalize ((w.alloc (.cells #[] 3)).alloc (.map #[] 0)).alloc (.cells #[] 3)=W0 at *;have hP0:=hP.ext hx0;have vS:jK pp h s w s W0:=jK.refl hP hx0;obtain⟨gr,Ws,aR,cR,xK,acn,qa,KP,hSR⟩:=hP.pV hf;obtain⟨gl,Wu,aL,cL,zU,acr,acp,KQ,tu⟩:=hP.rG hf;replace xK:=(hx0.cell (lt_of_cell xK)).trans xK;replace zU:=(hx0.cell (lt_of_cell zU)).trans zU;replace KP:=(hx0.cell (lt_of_cell KP)).trans KP;replace KQ:=(hx0.cell (lt_of_cell KQ)).trans KQ;cases left with
 |true=>
  go_upto_region 5 with fail
  go_wp2
  obtain⟨O,hO⟩:∃O,O=opt s.D true f:=⟨_,rfl⟩;have hOl:O.length<=f:=by rw[hO];exact oN hP.good
  have hOm:∀x,x∈O->x<f/\bO.born (vl s.D x)<bO.born (vl s.D f):=λx hx=>by rw[hO]at hx;exact⟨ku hP.good.wf hx,nV hP.good.wf hx⟩
  have hOe:O=s.D[f].1:=by rw[hO];exact(o9 hf).1
  rw[<-hOe]at tu ⊢;have HO:=aQ hO;have HOE:=aQ hOe;clear hO hOe;go_loopw [7,12,36] (λqv _ ii wr=>∃(k:Nat) (s1:iH) (q:List Nat),k<=O.length/\ii=.int .i64 ((k:Nat):Int)/\jK pp h s w s1 wr/\gH pp h s1 w wr (w.heap.size+1) qv (.slice (some ⟨w.heap.size+1+1,0,none⟩) 0 0) q [] []/\qG s f s1/\Hid (q=(O.take k).map (λx=>(s1.cn x).getD 0)/\∀x,x∈O.take k->(s1.cn x).isSome)) (λ_ _ ii _=>O.length-(intOf ii).toNat)
  case atStart=>exact⟨0,s,[],aJ _,rfl,vS,hm0,qG.refl _ _,by simp[Hid]⟩
  case round=>
   obtain⟨k,s1,q,hk,rfl,hgo,hm,hG,HQ⟩:=hrel;have oH:q.length=k:=(by have:=congrArg List.length HQ.out.1;simp at this;omega);by_cases hlt:k<O.length
   .have h1:((k:Nat):Int)<((O.length:Nat):Int):=by omega
    obtain⟨-,hln,hcl⟩:=kg.at (nN.go tu (Off.lists hP) hgo);obtain⟨b,off,rfl,hcell⟩:=hcl (by omega);have hck:=hcell k hlt;obtain⟨hi1,hi2⟩:=hOm _ (ai hlt);have hlen:=hgo.len;obtain⟨aq,cq,rfl,hqc,_⟩:=bH hm.q;have hroom1:=hG.1 (f+1) (by omega) (by omega);have hmm:=FK (show O[k]+1<=f+1 by omega) s1.cn;have IH:=aQ (ih pp h s1 O[k] wr hgo.pool (by omega) (by omega) (by omega));have HS:=aQ tu;have HG:=aQ hG;have HOM:=aQ hi2;have hS1:=hgo.pool.small;obtain⟨kn,hkn⟩:∃n,n=q.length:=⟨_,rfl⟩;rw[<-hkn]at hqc ⊢;have hmq:=hm.q;rw[<-hkn]at hmq;have HM:=aQ hm;have BX:=aQ hkn;have hkn2:kn=k:=(by omega);have hwl:=hgo.keep.size;clear hcl hcell tu hG hmm hroom1 hm hkn oH;subst hkn2
    go_wp2_with (first
     |(go_at_call 104;refine IH.out.mono ?_;rintro e w2 ⟨s2,j,rfl,ib,hcj,hg2⟩;have vQ:=(HM.out.go ib).q;rw[<-BX.out]at vQ)
     |(at_builtin;refine dC rfl (.tmp 40) (.tmp 44) 80 rfl w.heap.size 3 i0 (.int .i64 0) 1 8 underlying80 hi0 hz0 hz1 hz2 rfl (by decide) (.slice aq kn cq) kn _ rfl (vQ.alloc _) _ 1 _ [.int .i64 (j:Int)] rfl rfl (.inr ⟨_,rfl,dJ (dh _ _ _)⟩) one_cell (by unfold maxLen;omega) (by omega) (by rw[eQ];have:=ib.keep.size;omega) ?_;intro v5 w5 iT hg5 hl5))
    go_roundw
    case rel=>
     have hm2:=HM.out.go ib;rw[<-BX.out]at hm2;have Kj:=hm2.push (news:=[j]) ib.pool (bS (Below.refl _ _) _) hg5 iT (by simp[BX.out]) (by rw[kT,bG];rfl) hl5;have h3:=D9 hlt ib.known HQ.out.2 hcj;exact⟨kn+1,s2,q++[j],by omega,by go_num,hm2.Oq (hgo.trans ib) (bS (Below.refl _ _) _) hg5,Kj,HG.out.step hP.good.wf hgo ib hg2 hi1 hf HOM.out,by rw[h3.1,<-HQ.out.1],h3.2⟩
    case measure=>simp[intOf];omega
   .have h1:¬(((k:Nat):Int)<((O.length:Nat):Int)):=by omega
    have hke:k=O.length:=(by omega);subst hke;have hOs:opt s1.D true f=O:=(by rw[HO.out];obtain⟨E,hE⟩:=hgo.more;rw[hE,oK hf]);have Cc:qZ s1.D s1.cn true f=q:=(by unfold qZ;rw[hOs];have:=HQ.out.1;rw[dB]at this;exact this.symm);have M5:∀x,x∈opt s1.D true f->(s1.cn x).isSome:=λx hx=>HQ.out.2 x (by rw[dB,<-hOs];exact hx)
    have hP1:=hgo.pool;have acw:=hP1.small;have hf1:f<s1.D.length:=bz hf hgo.len;have UO:∀x,x∈q->x<s1.D.length:=λx hx=>by
     rw[<-Cc]at hx;obtain⟨y,hy,rfl⟩:=aH.1 hx;have:=M5 y hy;cases e:s1.cn y with
     |none=>rw[e]at this;cases this
     |some j=>exact(hP1.vY.lt y j e).2
    have HC:=aQ (And.intro Cc M5);have HG:=aQ hG;have hI0:=aQ (ja.start (D:=s1.D) (root:=f) (left:=true) UO);have Vb:s1.D.length*(s1.D.length+1)+q.length<=s1.D.length*(s1.D.length+1)+s1.D.length:=(by have:=hgo.len;omega);have Z6:=aQ Vb;clear hOs Cc M5 hG UO Vb tu;obtain⟨qq,hqq⟩:∃z,z=q:=⟨_,rfl⟩;obtain⟨wo,rfl⟩:∃wo:World,wo=wr:=⟨_,rfl⟩;go_wp2
    go_loopg [7,9,13,14,15] (s1.D.length*(s1.D.length+1)+q.length) (λgk qv kv _ _ _ wr=>∃(q1 line B:List Nat),gH pp h s1 w wr (w.heap.size+1) qv kv q1 B line/\jK pp h s w s1 wr/\Hid (ja s1.D f true q q1 line B)/\Hid (gk=(s1.D.length-line.length)*(s1.D.length+1)+q1.length/\gk<=s1.D.length*(s1.D.length+1)+s1.D.length))
    case atStart=>exact⟨q,[],[],hm,hgo,hI0,aQ ⟨by simp,Z6.out⟩⟩
    case round=>
     clear hm hgo;obtain⟨q1,line,B,hm,hgo,HI,HK⟩:=hrel;rcases List.eq_nil_or_concat q1 with rfl|⟨q2,i,rfl⟩
     .obtain⟨aq,cq,rfl,hqc,_⟩:=bH hm.q
      obtain⟨ak,ck,rfl,hkc,_⟩:=bH hm.k;have Q3:=HI.out.open;have hBm:∀x,x∈B->x<s1.D.length:=λx hx=>Q3.lt x (Q3.kept x hx).1
      have hBl:B.length<=900000:=(by have:=HI.out.xL;have:=HI.out.len;omega);have hcq:∀x,x∈q->bO.Canon (vl s1.D x):=λx hx=>by
       rw[<-HC.out.1]at hx;obtain⟨y,hy,rfl⟩:=aH.1 hx;have:=HC.out.2 y hy;cases e:s1.cn y with
       |none=>rw[e]at this;cases this
       |some j=>exact(hP1.vY.ok y j e).1
      have hcB:∀x,x∈B->bO.Canon (vl s1.D x):=λx hx=>mg hP1.good.wf Q3 hcq x (Q3.kept x hx).1
      have QS:=(Ints.eD hm.k (by rw[bJ];omega)).sup (S:=λb=>(Value.slice ak B.length ck).ownBlock=some b) (λb hb=>(hm.k.lt b hb).2) (λb hb=>hb);have hTk:LJ pp h s1 wr (λb=>(Value.slice ak B.length ck).ownBlock=some b):=λb hb=>hm.wh b (.inr (.inr hb))
      have adH:=aQ (x8 pp h s1 true (.slice ak B.length ck) B _ wr hgo.pool hBm (by omega) hTk.off QS);have HKI:=aQ QS;have wH:=aQ hTk;have HB:=aQ (And.intro hBm hcB);have HNB:=aQ HI.out.Ef;have HOI:=aQ Q3;clear QS hTk hBm hcB hcq Q3 HI
      go_wp2_with (first
       |(go_at_call 197;refine(Bn _ _ (dD B) z _ hk4 EL hDI.out.Cf (λy hy=>(hDI.out.bd y hy).1) (by rw[bJ];omega)).mono ?_;rintro e w5 ⟨v5,rfl,iT,hx5⟩)
       |(go_at_call 198;refine adH.out.mono ?_;rintro e w4 ⟨v4,z,rfl,yJ,Nq,kz⟩;have hDI:=aQ Nq;have EL:=Ints.eD yJ (by have:=Nq.len;omega);have hk4:=(nN.go HKI.out wH.out.off kz).out;clear Nq))
      go_ret
      have hw4:=(hgo.trans kz).keep.size;refine⟨s1,v5,Bl B z,rfl,?_,(hgo.trans kz).ext hx5,λb hb=>?_,HG.out,⟨HC.out.2,line,B,by rw[HC.out.1];exact HOI.out,Cq hP1.good HNB.out HB.out.1 HB.out.2 hDI.out⟩,by have:=Oe B z;omega⟩
      .rw[yN]at iT
       rw[bJ]at iT;exact jS iT hw4
      .exact kz.pool.new (iT.lt b hb).1
     .rw[List.concat_eq_append]at hm HI HK
      have hil:i<s1.D.length:=HI.out.lt i (.inr (by simp));obtain⟨gq,cq,rfl,hqc,hqm,vL⟩:=gV hm.q (by simp);obtain⟨ak,ck,rfl,hkc,_⟩:=bH hm.k;have hq1:(q2++[i]).length=q2.length+1:=(by simp);have hci:=vL q2.length (by simp);have e0:((dD (q2++[i])).map (Value.int .i64))[q2.length]?=some (.int .i64 (i:Int)):=(by simp[dD]);rw[e0]at hci;have hbd:=OA acw (a:=s1.D.length-line.length) (n:=(q2++[i]).length) (by have:=HK.out.1;have:=HK.out.2;omega);rw[hq1]at hqc hbd ⊢;have hmp:=hm.pop;have hlk:=λW hW=>hm.look (x:=i) (by omega) W hW
      obtain⟨n2,hn2⟩:∃n,n=q2.length:=⟨_,rfl⟩;have RF:=aQ (show gk=(s1.D.length-line.length)*(s1.D.length+1)+(n2+1)/\gk<=s1.D.length*(s1.D.length+1)+s1.D.length by rw[hn2,<-hq1];exact HK.out);rw[<-hn2]at hci hqc hbd hmp ⊢;have CO:=aQ hn2;have xH:=hlk wr rfl;have hwr:=hgo.keep.size;have hBl:B.length<=900000:=(by have:=HI.out.xL;have:=HI.out.len;omega);have XM:=HI.out.len;clear vL e0 hq1 hm hlk hn2 HK;by_cases hin:i∈line
      .simp only[hin,decide_true]at xH
       have xO:=aQ hin;clear hin;go_wp2
       go_roundg ((s1.D.length-line.length)*(s1.D.length+1)+n2)
       case measure=>have:=RF.out.1;omega
       case rel=>exact⟨q2,line,B,hmp,hgo,aQ (HI.out.skip xO.out),aQ ⟨by rw[CO.out],by have:=RF.out;omega⟩⟩
      .simp only[hin,decide_false]at xH
       have xO:=aQ hin;clear hin;obtain⟨fm,hM,hfm⟩:=hmp.seen;have Z9:=aQ hfm;have hki:=qz i (by omega);clear hfm;go_upto_region 15 with(at_mapUpdate;refine iK rfl _ _ _ 187 rfl 3 4 oG underlying187 (w.heap.size+1) line.length fm rfl hM (by unfold maxLen;omega) (.int .i64 (i:Int)) (.bool true) rfl rfl hki ?_;intro w3 yK hg3)
       have IP:=hmp.mark Z9.out yK hg3;have iU:=hmp.aap hgo hg3;have hP3:=iU.pool;have hz3:=iU.keep.size;clear yK hg3 hM hmp xH hgo hci;obtain⟨gr3,cr3,aR3,cR3,cc1,ajq,ajp,cg1,Za⟩:=hP3.pV hil;obtain⟨gl3,cl3,aL3,cL3,cc0,ajR,ajQ,ZA,Zf⟩:=hP3.rG hil;have hoi:=o9 hil;have adu:=aQ hoi;clear hoi;have acJ:=aQ (Bo pp h s1 f i true _ (opt s1.D (!true) i) s1.S w3 hP3 hf1 (λx hx=>by have:=ku hP3.good.wf hx;omega) (Off.lists hP3) (by simp only[Bool.not_true];rw[adu.out.2];exact Za));clear Za Zf;go_upto_region 20 with(go_at_call 196;refine acJ.out.mono ?_;rintro e w4 ⟨z,rfl,hz,kz⟩)
       have Hg:=IP.go kz;have nZ:=iU.trans kz;have EL:=nZ.keep.size;clear IP iU kz cc1 cg1 cc0 ZA;have U3:=Hg.q;rw[<-CO.out]at U3;rcases hz with⟨rfl,hno⟩|⟨y,hy,rfl,p9⟩
       .have Cj:=aQ (HI.out.keep xO.out hno)
        have hl1:=Cj.out.len;rw[aK,gN]at hl1;clear hno;go_wp2_with (at_builtin;refine dC rfl (.tmp 99) (.tmp 101) 80 rfl w.heap.size 3 i0 (.int .i64 0) 1 8 underlying80 hi0 hz0 hz1 hz2 rfl (by decide) (.slice ak B.length ck) B.length _ rfl (Hg.k.alloc _) _ 1 _ [.int .i64 (i:Int)] rfl rfl (.inr ⟨_,rfl,dJ (dh _ _ _)⟩) one_cell (by unfold maxLen;omega) (by omega) (by rw[eQ];omega) ?_;intro v5 w5 iT hg5 hl5)
        go_roundg ((s1.D.length-(line++[i]).length)*(s1.D.length+1)+n2)
        case measure=>
         have h1:=RF.out.1;have h2:=qW (d:=s1.D.length) (a:=s1.D.length-line.length) (n:=n2) (m:=0) (by omega) (aJ _);rw[aK,gN,show s1.D.length-(line.length+1)=s1.D.length-line.length-1 by omega];omega
        case rel=>
         have h1:=RF.out;have h2:=qW (d:=s1.D.length) (a:=s1.D.length-line.length) (n:=n2) (m:=0) (by omega) (aJ _);exact⟨q2,line++[i],B++[i],by rw[CO.out];rw[CO.out]at Hg;exact Hg.add nZ.pool (bS (Below.refl _ _) _) hg5 iT (by simp) (by rw[kT,bG];rfl) hl5,Hg.aaq nZ (bS (Below.refl _ _) _) hg5,Cj,aQ ⟨by rw[CO.out],by rw[aK,gN,show s1.D.length-(line.length+1)=s1.D.length-line.length-1 by omega];omega⟩⟩
       .have hyl:y<s1.D.length:=by have:=ku nZ.pool.good.wf hy;omega
        have Cj:=aQ (HI.out.pass nZ.pool.good.wf xO.out hy p9);have hl1:=Cj.out.len;rw[aK,gN]at hl1;have hyn:¬((y:Int)<0):=(by omega);have hol:=oN nZ.pool.good (left:=true) (f:=y);obtain⟨g4,c4,aY,cY,cc0,ajP,ajO,ZA,Y9⟩:=nZ.pool.rG hyl;have HOY:=aQ (o9 hyl).1;rw[<-HOY.out]at ZA Y9;obtain⟨OY,hOY⟩:∃O,O=opt s1.D true y:=⟨_,rfl⟩;rw[<-hOY]at ZA Y9 hol;obtain⟨aY',cY',eY,hY1,hY2,hY3⟩:=Y9.out;simp only[Value.slice.injEq,bJ]at eY;obtain⟨rfl,-,rfl⟩:=eY;have hsrc:=Ip hY1 hY2 hY3 w4 (Below.refl _ _);rw[bJ]at hsrc;have adt:=aQ hOY;clear hY1 hY2 hY3 Y9 hOY hy p9 HOY;go_wp2_with (at_builtin;refine dC rfl (.tmp 105) (.tmp 112) 80 rfl w.heap.size 3 i0 (.int .i64 0) 1 8 underlying80 hi0 hz0 hz1 hz2 rfl (by decide) (.slice (some ⟨gq,0,none⟩) n2 cq) n2 _ rfl U3 aY OY.length cY ((dD OY).map (Value.int .i64)) rfl (by rw[bD,bJ];omega) hsrc (kJ _) (by unfold maxLen;omega) (by omega) (by omega) ?_;intro v5 w5 iT hg5 hl5)
        go_roundg ((s1.D.length-(line++[i]).length)*(s1.D.length+1)+(n2+OY.length))
        case measure=>
         have h1:=RF.out.1;have h2:=qW (d:=s1.D.length) (a:=s1.D.length-line.length) (n:=n2) (m:=OY.length) (by omega) (by omega);rw[aK,gN,show s1.D.length-(line.length+1)=s1.D.length-line.length-1 by omega];omega
        case rel=>
         have h1:=RF.out;have h2:=qW (d:=s1.D.length) (a:=s1.D.length-line.length) (n:=n2) (m:=OY.length) (by omega) (by omega);exact⟨q2++OY,line++[i],B,Hg.push (news:=OY) nZ.pool (Below.refl _ _) hg5 iT (by rw[aK,CO.out]) (by rw[kT,bG]) hl5,Hg.Oq nZ (Below.refl _ _) hg5,by rw[adt.out];exact Cj,aQ ⟨by rw[show(q2++OY).length=q2.length+OY.length from aK,CO.out],by rw[aK,gN,show s1.D.length-(line.length+1)=s1.D.length-line.length-1 by omega];omega⟩⟩
 |false=>
  go_upto_region 5 with fail
  go_wp2
  obtain⟨O,hO⟩:∃O,O=opt s.D false f:=⟨_,rfl⟩;have hOl:O.length<=f:=by rw[hO];exact oN hP.good
  have hOm:∀x,x∈O->x<f/\bO.born (vl s.D x)<bO.born (vl s.D f):=λx hx=>by rw[hO]at hx;exact⟨ku hP.good.wf hx,nV hP.good.wf hx⟩
  have hOe:O=s.D[f].2:=by rw[hO];exact(o9 hf).2
  rw[<-hOe]at hSR ⊢;have HO:=aQ hO;have HOE:=aQ hOe;clear hO hOe;go_loopw [7,12,36] (λqv _ ii wr=>∃(k:Nat) (s1:iH) (q:List Nat),k<=O.length/\ii=.int .i64 ((k:Nat):Int)/\jK pp h s w s1 wr/\gH pp h s1 w wr (w.heap.size+1) qv (.slice (some ⟨w.heap.size+1+1,0,none⟩) 0 0) q [] []/\qG s f s1/\Hid (q=(O.take k).map (λx=>(s1.cn x).getD 0)/\∀x,x∈O.take k->(s1.cn x).isSome)) (λ_ _ ii _=>O.length-(intOf ii).toNat)
  case atStart=>exact⟨0,s,[],aJ _,rfl,vS,hm0,qG.refl _ _,by simp[Hid]⟩
  case round=>
   obtain⟨k,s1,q,hk,rfl,hgo,hm,hG,HQ⟩:=hrel;have oH:q.length=k:=(by have:=congrArg List.length HQ.out.1;simp at this;omega);by_cases hlt:k<O.length
   .have h1:((k:Nat):Int)<((O.length:Nat):Int):=by omega
    obtain⟨-,hln,hcl⟩:=kg.at (nN.go hSR (Off.lists hP) hgo);obtain⟨b,off,rfl,hcell⟩:=hcl (by omega);have hck:=hcell k hlt;obtain⟨hi1,hi2⟩:=hOm _ (ai hlt);have hlen:=hgo.len;obtain⟨aq,cq,rfl,hqc,_⟩:=bH hm.q;have hroom1:=hG.1 (f+1) (by omega) (by omega);have hmm:=FK (show O[k]+1<=f+1 by omega) s1.cn;have IH:=aQ (ih pp h s1 O[k] wr hgo.pool (by omega) (by omega) (by omega));have HS:=aQ hSR;have HG:=aQ hG;have HOM:=aQ hi2;have hS1:=hgo.pool.small;obtain⟨kn,hkn⟩:∃n,n=q.length:=⟨_,rfl⟩;rw[<-hkn]at hqc ⊢;have hmq:=hm.q;rw[<-hkn]at hmq;have HM:=aQ hm;have BX:=aQ hkn;have hkn2:kn=k:=(by omega);have hwl:=hgo.keep.size;clear hcl hcell hSR hG hmm hroom1 hm hkn oH;subst hkn2
    go_wp2_with (first
     |(go_at_call 104;refine IH.out.mono ?_;rintro e w2 ⟨s2,j,rfl,ib,hcj,hg2⟩;have vQ:=(HM.out.go ib).q;rw[<-BX.out]at vQ)
     |(at_builtin;refine dC rfl (.tmp 40) (.tmp 44) 80 rfl w.heap.size 3 i0 (.int .i64 0) 1 8 underlying80 hi0 hz0 hz1 hz2 rfl (by decide) (.slice aq kn cq) kn _ rfl (vQ.alloc _) _ 1 _ [.int .i64 (j:Int)] rfl rfl (.inr ⟨_,rfl,dJ (dh _ _ _)⟩) one_cell (by unfold maxLen;omega) (by omega) (by rw[eQ];have:=ib.keep.size;omega) ?_;intro v5 w5 iT hg5 hl5))
    go_roundw
    case rel=>
     have hm2:=HM.out.go ib;rw[<-BX.out]at hm2;have Kj:=hm2.push (news:=[j]) ib.pool (bS (Below.refl _ _) _) hg5 iT (by simp[BX.out]) (by rw[kT,bG];rfl) hl5;have h3:=D9 hlt ib.known HQ.out.2 hcj;exact⟨kn+1,s2,q++[j],by omega,by go_num,hm2.Oq (hgo.trans ib) (bS (Below.refl _ _) _) hg5,Kj,HG.out.step hP.good.wf hgo ib hg2 hi1 hf HOM.out,by rw[h3.1,<-HQ.out.1],h3.2⟩
    case measure=>simp[intOf];omega
   .have h1:¬(((k:Nat):Int)<((O.length:Nat):Int)):=by omega
    have hke:k=O.length:=(by omega);subst hke;have hOs:opt s1.D false f=O:=(by rw[HO.out];obtain⟨E,hE⟩:=hgo.more;rw[hE,oK hf]);have Cc:qZ s1.D s1.cn false f=q:=(by unfold qZ;rw[hOs];have:=HQ.out.1;rw[dB]at this;exact this.symm);have M5:∀x,x∈opt s1.D false f->(s1.cn x).isSome:=λx hx=>HQ.out.2 x (by rw[dB,<-hOs];exact hx)
    have hP1:=hgo.pool;have acw:=hP1.small;have hf1:f<s1.D.length:=bz hf hgo.len;have UO:∀x,x∈q->x<s1.D.length:=λx hx=>by
     rw[<-Cc]at hx;obtain⟨y,hy,rfl⟩:=aH.1 hx;have:=M5 y hy;cases e:s1.cn y with
     |none=>rw[e]at this;cases this
     |some j=>exact(hP1.vY.lt y j e).2
    have HC:=aQ (And.intro Cc M5);have HG:=aQ hG;have hI0:=aQ (ja.start (D:=s1.D) (root:=f) (left:=false) UO);have Vb:s1.D.length*(s1.D.length+1)+q.length<=s1.D.length*(s1.D.length+1)+s1.D.length:=(by have:=hgo.len;omega);have Z6:=aQ Vb;clear hOs Cc M5 hG UO Vb hSR;obtain⟨qq,hqq⟩:∃z,z=q:=⟨_,rfl⟩;obtain⟨wo,rfl⟩:∃wo:World,wo=wr:=⟨_,rfl⟩;go_wp2
    go_loopg [7,9,13,14,15] (s1.D.length*(s1.D.length+1)+q.length) (λgk qv kv _ _ _ wr=>∃(q1 line B:List Nat),gH pp h s1 w wr (w.heap.size+1) qv kv q1 B line/\jK pp h s w s1 wr/\Hid (ja s1.D f false q q1 line B)/\Hid (gk=(s1.D.length-line.length)*(s1.D.length+1)+q1.length/\gk<=s1.D.length*(s1.D.length+1)+s1.D.length))
    case atStart=>exact⟨q,[],[],hm,hgo,hI0,aQ ⟨by simp,Z6.out⟩⟩
    case round=>
     clear hm hgo;obtain⟨q1,line,B,hm,hgo,HI,HK⟩:=hrel;rcases List.eq_nil_or_concat q1 with rfl|⟨q2,i,rfl⟩
     .obtain⟨aq,cq,rfl,hqc,_⟩:=bH hm.q
      obtain⟨ak,ck,rfl,hkc,_⟩:=bH hm.k;have Q3:=HI.out.open;have hBm:∀x,x∈B->x<s1.D.length:=λx hx=>Q3.lt x (Q3.kept x hx).1
      have hBl:B.length<=900000:=(by have:=HI.out.xL;have:=HI.out.len;omega);have hcq:∀x,x∈q->bO.Canon (vl s1.D x):=λx hx=>by
       rw[<-HC.out.1]at hx;obtain⟨y,hy,rfl⟩:=aH.1 hx;have:=HC.out.2 y hy;cases e:s1.cn y with
       |none=>rw[e]at this;cases this
       |some j=>exact(hP1.vY.ok y j e).1
      have hcB:∀x,x∈B->bO.Canon (vl s1.D x):=λx hx=>mg hP1.good.wf Q3 hcq x (Q3.kept x hx).1
      have QS:=(Ints.eD hm.k (by rw[bJ];omega)).sup (S:=λb=>(Value.slice ak B.length ck).ownBlock=some b) (λb hb=>(hm.k.lt b hb).2) (λb hb=>hb);have hTk:LJ pp h s1 wr (λb=>(Value.slice ak B.length ck).ownBlock=some b):=λb hb=>hm.wh b (.inr (.inr hb))
      have adH:=aQ (x8 pp h s1 false (.slice ak B.length ck) B _ wr hgo.pool hBm (by omega) hTk.off QS);have HKI:=aQ QS;have wH:=aQ hTk;have HB:=aQ (And.intro hBm hcB);have HNB:=aQ HI.out.Ef;have HOI:=aQ Q3;clear QS hTk hBm hcB hcq Q3 HI
      go_wp2_with (first
       |(go_at_call 197;refine(Bn _ _ (dD B) z _ hk4 EL hDI.out.Cf (λy hy=>(hDI.out.bd y hy).1) (by rw[bJ];omega)).mono ?_;rintro e w5 ⟨v5,rfl,iT,hx5⟩)
       |(go_at_call 198;refine adH.out.mono ?_;rintro e w4 ⟨v4,z,rfl,yJ,Nq,kz⟩;have hDI:=aQ Nq;have EL:=Ints.eD yJ (by have:=Nq.len;omega);have hk4:=(nN.go HKI.out wH.out.off kz).out;clear Nq))
      go_ret
      have hw4:=(hgo.trans kz).keep.size;refine⟨s1,v5,Bl B z,rfl,?_,(hgo.trans kz).ext hx5,λb hb=>?_,HG.out,⟨HC.out.2,line,B,by rw[HC.out.1];exact HOI.out,Cq hP1.good HNB.out HB.out.1 HB.out.2 hDI.out⟩,by have:=Oe B z;omega⟩
      .rw[yN]at iT
       rw[bJ]at iT;exact jS iT hw4
      .exact kz.pool.new (iT.lt b hb).1
     .rw[List.concat_eq_append]at hm HI HK
      have hil:i<s1.D.length:=HI.out.lt i (.inr (by simp));obtain⟨gq,cq,rfl,hqc,hqm,vL⟩:=gV hm.q (by simp);obtain⟨ak,ck,rfl,hkc,_⟩:=bH hm.k;have hq1:(q2++[i]).length=q2.length+1:=(by simp);have hci:=vL q2.length (by simp);have e0:((dD (q2++[i])).map (Value.int .i64))[q2.length]?=some (.int .i64 (i:Int)):=(by simp[dD]);rw[e0]at hci;have hbd:=OA acw (a:=s1.D.length-line.length) (n:=(q2++[i]).length) (by have:=HK.out.1;have:=HK.out.2;omega);rw[hq1]at hqc hbd ⊢;have hmp:=hm.pop;have hlk:=λW hW=>hm.look (x:=i) (by omega) W hW
      obtain⟨n2,hn2⟩:∃n,n=q2.length:=⟨_,rfl⟩;have RF:=aQ (show gk=(s1.D.length-line.length)*(s1.D.length+1)+(n2+1)/\gk<=s1.D.length*(s1.D.length+1)+s1.D.length by rw[hn2,<-hq1];exact HK.out);rw[<-hn2]at hci hqc hbd hmp ⊢;have CO:=aQ hn2;have xH:=hlk wr rfl;have hwr:=hgo.keep.size;have hBl:B.length<=900000:=(by have:=HI.out.xL;have:=HI.out.len;omega);have XM:=HI.out.len;clear vL e0 hq1 hm hlk hn2 HK;by_cases hin:i∈line
      .simp only[hin,decide_true]at xH
       have xO:=aQ hin;clear hin;go_wp2
       go_roundg ((s1.D.length-line.length)*(s1.D.length+1)+n2)
       case measure=>have:=RF.out.1;omega
       case rel=>exact⟨q2,line,B,hmp,hgo,aQ (HI.out.skip xO.out),aQ ⟨by rw[CO.out],by have:=RF.out;omega⟩⟩
      .simp only[hin,decide_false]at xH
       have xO:=aQ hin;clear hin;obtain⟨fm,hM,hfm⟩:=hmp.seen;have Z9:=aQ hfm;have hki:=qz i (by omega);clear hfm;go_upto_region 15 with(at_mapUpdate;refine iK rfl _ _ _ 187 rfl 3 4 oG underlying187 (w.heap.size+1) line.length fm rfl hM (by unfold maxLen;omega) (.int .i64 (i:Int)) (.bool true) rfl rfl hki ?_;intro w3 yK hg3)
       have IP:=hmp.mark Z9.out yK hg3;have iU:=hmp.aap hgo hg3;have hP3:=iU.pool;have hz3:=iU.keep.size;clear yK hg3 hM hmp xH hgo hci;obtain⟨gr3,cr3,aR3,cR3,cc1,ajq,ajp,cg1,Za⟩:=hP3.pV hil;obtain⟨gl3,cl3,aL3,cL3,cc0,ajR,ajQ,ZA,Zf⟩:=hP3.rG hil;have hoi:=o9 hil;have adu:=aQ hoi;clear hoi;have acJ:=aQ (Bo pp h s1 f i false _ (opt s1.D (!false) i) s1.S w3 hP3 hf1 (λx hx=>by have:=ku hP3.good.wf hx;omega) (Off.lists hP3) (by simp only[Bool.not_false];rw[adu.out.1];exact Zf));clear Za Zf;go_upto_region 20 with(go_at_call 196;refine acJ.out.mono ?_;rintro e w4 ⟨z,rfl,hz,kz⟩)
       have Hg:=IP.go kz;have nZ:=iU.trans kz;have EL:=nZ.keep.size;clear IP iU kz cc1 cg1 cc0 ZA;have U3:=Hg.q;rw[<-CO.out]at U3;rcases hz with⟨rfl,hno⟩|⟨y,hy,rfl,p9⟩
       .have Cj:=aQ (HI.out.keep xO.out hno)
        have hl1:=Cj.out.len;rw[aK,gN]at hl1;clear hno;go_wp2_with (at_builtin;refine dC rfl (.tmp 99) (.tmp 101) 80 rfl w.heap.size 3 i0 (.int .i64 0) 1 8 underlying80 hi0 hz0 hz1 hz2 rfl (by decide) (.slice ak B.length ck) B.length _ rfl (Hg.k.alloc _) _ 1 _ [.int .i64 (i:Int)] rfl rfl (.inr ⟨_,rfl,dJ (dh _ _ _)⟩) one_cell (by unfold maxLen;omega) (by omega) (by rw[eQ];omega) ?_;intro v5 w5 iT hg5 hl5)
        go_roundg ((s1.D.length-(line++[i]).length)*(s1.D.length+1)+n2)
        case measure=>
         have h1:=RF.out.1;have h2:=qW (d:=s1.D.length) (a:=s1.D.length-line.length) (n:=n2) (m:=0) (by omega) (aJ _);rw[aK,gN,show s1.D.length-(line.length+1)=s1.D.length-line.length-1 by omega];omega
        case rel=>
         have h1:=RF.out;have h2:=qW (d:=s1.D.length) (a:=s1.D.length-line.length) (n:=n2) (m:=0) (by omega) (aJ _);exact⟨q2,line++[i],B++[i],by rw[CO.out];rw[CO.out]at Hg;exact Hg.add nZ.pool (bS (Below.refl _ _) _) hg5 iT (by simp) (by rw[kT,bG];rfl) hl5,Hg.aaq nZ (bS (Below.refl _ _) _) hg5,Cj,aQ ⟨by rw[CO.out],by rw[aK,gN,show s1.D.length-(line.length+1)=s1.D.length-line.length-1 by omega];omega⟩⟩
       .have hyl:y<s1.D.length:=by have:=ku nZ.pool.good.wf hy;omega
        have Cj:=aQ (HI.out.pass nZ.pool.good.wf xO.out hy p9);have hl1:=Cj.out.len;rw[aK,gN]at hl1;have hyn:¬((y:Int)<0):=(by omega);have hol:=oN nZ.pool.good (left:=false) (f:=y);obtain⟨g4,c4,aY,cY,cc0,ajP,ajO,ZA,Y9⟩:=nZ.pool.pV hyl;have HOY:=aQ (o9 hyl).2;rw[<-HOY.out]at ZA Y9;obtain⟨OY,hOY⟩:∃O,O=opt s1.D false y:=⟨_,rfl⟩;rw[<-hOY]at ZA Y9 hol;obtain⟨aY',cY',eY,hY1,hY2,hY3⟩:=Y9.out;simp only[Value.slice.injEq,bJ]at eY;obtain⟨rfl,-,rfl⟩:=eY;have hsrc:=Ip hY1 hY2 hY3 w4 (Below.refl _ _);rw[bJ]at hsrc;have adt:=aQ hOY;clear hY1 hY2 hY3 Y9 hOY hy p9 HOY;go_wp2_with (at_builtin;refine dC rfl (.tmp 87) (.tmp 94) 80 rfl w.heap.size 3 i0 (.int .i64 0) 1 8 underlying80 hi0 hz0 hz1 hz2 rfl (by decide) (.slice (some ⟨gq,0,none⟩) n2 cq) n2 _ rfl U3 aY OY.length cY ((dD OY).map (Value.int .i64)) rfl (by rw[bD,bJ];omega) hsrc (kJ _) (by unfold maxLen;omega) (by omega) (by omega) ?_;intro v5 w5 iT hg5 hl5)
        go_roundg ((s1.D.length-(line++[i]).length)*(s1.D.length+1)+(n2+OY.length))
        case measure=>
         have h1:=RF.out.1;have h2:=qW (d:=s1.D.length) (a:=s1.D.length-line.length) (n:=n2) (m:=OY.length) (by omega) (by omega);rw[aK,gN,show s1.D.length-(line.length+1)=s1.D.length-line.length-1 by omega];omega
        case rel=>
         have h1:=RF.out;have h2:=qW (d:=s1.D.length) (a:=s1.D.length-line.length) (n:=n2) (m:=OY.length) (by omega) (by omega);exact⟨q2++OY,line++[i],B,Hg.push (news:=OY) nZ.pool (Below.refl _ _) hg5 iT (by rw[aK,CO.out]) (by rw[kT,bG]) hl5,Hg.Oq nZ (Below.refl _ _) hg5,by rw[adt.out];exact Cj,aQ ⟨by rw[show(q2++OY).length=q2.length+OY.length from aK,CO.out],by rw[aK,gN,show s1.D.length-(line.length+1)=s1.D.length-line.length-1 by omega];omega⟩⟩
end Go.Proofs.YteknjeohbcgpdaaGreatDoor