/- 30 -/
import Derived.Test.YtplgooajigigkaaGreatDoorQ29
set_option maxRecDepth 100000
set_option maxHeartbeats 4000000
namespace Go.Proofs.YtplgooajigigkaaGreatDoor
open Tryz
open Go.RowKit
open aZ (cZ Nd vl Same Ge)
variable {pp h mb n f d a:Nat} {s s2:iK} {w w2 wa w3:World} {qv kv:Value} {q B line:List Nat} {D:cZ}
def Cy(pp h:Nat)(s:iK)(f:Nat)(w:World)(e:Ending)(w':World):Prop:=∃s' j,e=.returned (.int .i64 ((j:Nat):Int))/\jd pp h s w s' w'/\s'.cn f=some j/\Grow s f s'
def qi(m:Nat):Prop:=∀(pp h:Nat) (s:iK) (f:Nat) (w:World),bX w pp h s->f<s.D.length->f<m->s.D.length+miss (f+1) s.cn<=900000->Calls prog 73 #[.pointer (some ⟨pp,0,none⟩),.int .i64 (f:Int)] w (Cy pp h s f w)
def Yc(pp h:Nat)(s:iK)(f:Nat)(left:Bool)(w:World)(e:Ending)(w':World):Prop:=
 ∃s' v' F,e=.returned v'/\w'.ownsRow w.heap.size 3 1 v' F.length ((bV F).map (Value.int .i64))/\jd pp h s w s' w'/\(∀b,v'.ownBlock=some b->¬jI pp h s' b/\¬s'.S b)/\tX s f s'/\lX s'.D s'.cn f left F/\F.length<=1000000
theorem Ow(hP:bX w pp h s):fA pp h s w (((w.alloc (.cells #[] 3)).alloc (.map #[] 0)).alloc (.cells #[] 3)) (w.heap.size+1) (.slice (some ⟨w.heap.size,0,none⟩) 0 0) (.slice (some ⟨w.heap.size+1+1,0,none⟩) 0 0) [] [] []:=by
 have z1:(w.alloc (.cells #[] 3)).heap.size=w.heap.size+1:=eX _ _;have z2:((w.alloc (.cells #[] 3)).alloc (.map #[] 0)).heap.size=w.heap.size+1+1:=by rw[eX,z1]
 refine⟨((gG w w.heap.size (ax _) 3).alloc _).alloc _,?_,⟨λ_=>none,?_,λx=>by simp⟩,by omega,by simp[Value.ownBlock],by simp[Value.ownBlock],?_,?_⟩
 .have:=gG ((w.alloc (.cells #[] 3)).alloc (.map #[] 0)) w.heap.size (by omega) 3
  rw[z2]at this;exact this
 .refine fM.made _ _ (c:=0) ?_
  rw[gI _ _ _ (by omega)];exact alloc_at z1.symm
 .intro b hb hc;simp[Value.ownBlock]at hb hc;omega
 .intro b hb
  have:w.heap.size<=b/\b<=w.heap.size+1+1:=by
   rcases hb with rfl|hb|hb
   .omega
   .simp[Value.ownBlock]at hb;omega
   .simp[Value.ownBlock]at hb;omega
  exact⟨by rw[eX,z2];omega,hP.new this.1⟩
theorem fA.MO(m:fA pp h s2 w w2 mb qv kv q B line)(k:jd pp h s w s2 w2)(hx:Ext w2 wa)(hg:wa.grownBy w3 qv.ownBlock):jd pp h s w s2 w3:=
 (k.ext hx).side (gN hg) λb hb=>⟨(m.q.lt b hb).1,(m.Ep b (.inr (.inl hb))).2⟩
theorem fA.Yy(m:fA pp h s2 w w2 mb qv kv q B line)(k:jd pp h s w s2 w2)(hx:Ext w2 wa)(hg:wa.grownBy w3 kv.ownBlock):jd pp h s w s2 w3:=
 (k.ext hx).side (gN hg) λb hb=>⟨(m.k.lt b hb).1,(m.Ep b (.inr (.inr hb))).2⟩
theorem fA.Yx(m:fA pp h s2 w w2 mb qv kv q B line)(k:jd pp h s w s2 w2)(hg:w2.grownBy w3 (some mb)):jd pp h s w s2 w3:=
 k.side (gH hg) λb hb=>by subst hb;exact⟨m.mb0,(m.Ep b (.inl rfl)).2⟩
theorem jD{B C e size:Nat}{v:Value}{xs:List Value}(h:w.ownsRow B e size v n xs)(hC:C<=B):w.ownsRow C e size v n xs:=by
 obtain⟨h1,h2⟩:=h;refine⟨h1,?_⟩;rcases h2 with h2|⟨g,cap,cur,e,hb,h3⟩
 .exact .inl h2
 .exact .inr ⟨g,cap,cur,e,by omega,h3⟩
theorem ow(hf:f<D.length):opt D true f=D[f].1/\opt D false f=D[f].2:=by simp[opt,ae hf]
theorem qA(hD:aZ.Good D){left:Bool}:(opt D left f).length<=f:=by
 unfold opt;cases e:D[f]? with
 |none=>simp
 |some nd=>
  have ha:=hD.yL _ (fq e);have hl:=hD.wf f nd e;cases left
  .exact iU (jN ha.2) hl.2
  .exact iU (jN ha.1) hl.1
theorem tX.step{wr:World}{s1:iK}{i:Nat}(hw:aZ.WF s.D)(g:tX s f s1)(k:jd pp h s w s1 wr)(k2:jd pp h s1 wr s2 w2)(g2:Grow s1 i s2)(hi:i<f)(hf:f<s.D.length)(hb:aZ.born (vl s.D i)<aZ.born (vl s.D f)):tX s f s2:=by
 have hl:=k.len;refine⟨λN a b=>?_,λx a b c=>?_,λx a b=>?_⟩
 .have h1:=g.1 N a b
  have h2:=g2.1 N (by omega) (by omega);omega
 .cases e:s1.cn x with
  |some j=>exact g.2.1 x a b (by rw[e];rfl)
  |none=>
   have h1:=g2.2.1 x (by omega) e c;rw[k.vl hw a,k.vl hw (by omega:i<s.D.length)]at h1;omega
 .by_cases c:x<s1.D.length
  .have h1:=g.2.2 x a c
   cases e:s1.cn x with
   |none=>rw[e]at h1;cases h1
   |some j=>rw[k2.known x j e];rfl
  .exact g2.2.2 x (by omega) b
theorem Co{cn Am:Nat->Option Nat}{O:List Nat}{k j:Nat}(hk:k<O.length)(hm:∀i j,cn i=some j->Am i=some j)(h:∀x,x∈O.take k->(cn x).isSome)(hj:Am O[k]=some j):
 ((O.take (k+1)).map λx=>(Am x).getD 0)=((O.take k).map λx=>(cn x).getD 0)++[j]/\∀x,x∈O.take (k+1)->(Am x).isSome:=by
 rw[aW hk];have h1:∀x,x∈O.take k->Am x=cn x:=λx hx=>by
  have:=h x hx;cases e:cn x with
  |none=>rw[e]at this;cases this
  |some y=>exact hm x y e
 refine⟨?_,λx hx=>?_⟩
 .rw[bz,eF,List.map_nil,hj]
  congr 1;exact bE λx hx=>by rw[h1 x hx]
 .rcases aM.1 hx with hx|hx
  .rw[h1 x hx];exact h x hx
  .simp at hx;subst hx;rw[hj];rfl
theorem Mx(l:List Nat)(z:List Int):(zC l z).length<=l.length:=by
 have:=List.length_filter_le (λ(i:Nat)=>!l7 z (i:Int)) (List.range l.length)
 simpa [zC]using this
theorem qB{m:Nat}(ha:1<=a)(hm:m<=d):(a-1)*(d+1)+(n+m)<a*(d+1)+(n+1):=by
 obtain⟨b,rfl⟩:∃b,a=b+1:=⟨a-1,by omega⟩;rw[rJ,jE];omega
theorem M7(hd:d<=900000)(h:a*(d+1)+n<=d*(d+1)+d):n<=811000000000:=by
 have:d*(d+1)<=900000*900001:=Nat.mul_le_mul hd (by omega);omega
theorem zH(pp h:Nat)(s:iK)(f:Nat)(left:Bool)(w:World)(ih:qi f)(hP:bX w pp h s)(hf:f<s.D.length)(hroom:s.D.length+miss (f+1) s.cn<=900000):
 Calls prog 126 #[.pointer (some ⟨pp,0,none⟩),.int .i64 (f:Int),.bool left] w (Yc pp h s f left w):=by
 have hds:=hP.small;obtain⟨i0,hi0,hz0,hz1,hz2⟩:=info_parts fB;have hmk:=λw:World=>run_makeMap_plain (P:=prog) (w:=w) 196
 have hm0:=Ow hP;have hx0:Ext w (((w.alloc (.cells #[] 3)).alloc (.map #[] 0)).alloc (.cells #[] 3)):=by go_grown
 go_enter Tryz.func126,Tryz.ntmps126
 go_upto_region 2 with fail
 generalize ((w.alloc (.cells #[] 3)).alloc (.map #[] 0)).alloc (.cells #[] 3)=W0 at *;have Y4:=hP.ext hx0;have Ag:jd pp h s w s W0:=jd.refl hP hx0;obtain⟨gr,L8,aR,cR,xe,Lp,nK,Er,hSR⟩:=hP.oO hf;obtain⟨gl,L9,aL,cL,xg,Lu,Lr,Es,yI⟩:=hP.qM hf;replace xe:=dP hx0 xe;replace xg:=dP hx0 xg;replace Er:=dP hx0 Er;replace Es:=dP hx0 Es;cases left with
 |true=>
  go_upto_region 5 with fail
  go_wp2
  obtain⟨O,hO⟩:=eu (opt s.D true f);have hOl:O.length<=f:=by rw[hO];exact qA hP.good
  have hOm:∀x,x∈O->x<f/\aZ.born (vl s.D x)<aZ.born (vl s.D f):=λx hx=>by rw[hO]at hx;exact⟨jU hP.good.wf hx,mZ hP.good.wf hx⟩
  have hOe:O=s.D[f].1:=by rw[hO];exact(ow hf).1
  rw[<-hOe]at yI ⊢;have HO:=aI hO;have HOE:=aI hOe;clear hO hOe;go_loopw [7,12,36] (λqv _ ii wr=>∃(k:Nat) (s1:iK) (q:List Nat),k<=O.length/\ii=.int .i64 ((k:Nat):Int)/\jd pp h s w s1 wr/\fA pp h s1 w wr (w.heap.size+1) qv (.slice (some ⟨w.heap.size+1+1,0,none⟩) 0 0) q [] []/\tX s f s1/\Hid (q=(O.take k).map (λx=>(s1.cn x).getD 0)/\∀x,x∈O.take k->(s1.cn x).isSome)) (λ_ _ ii _=>O.length-(intOf ii).toNat)
  case atStart=>exact⟨0,s,[],az _,rfl,Ag,hm0,tX.refl _ _,by simp[Hid]⟩
  case round=>
   obtain⟨k,s1,q,hk,rfl,hgo,hm,hG,HQ⟩:=hrel;have Ld:q.length=k:=(by have:=congrArg List.length HQ.out.1;simp at this;omega);by_cases hlt:k<O.length
   .have h1:((k:Nat):Int)<((O.length:Nat):Int):=by omega
    obtain⟨-,hln,hcl⟩:=jB.at (nN.go yI (Off.lists hP) hgo);obtain⟨b,off,rfl,hcell⟩:=hcl (by omega);have hck:=hcell k hlt;obtain⟨hi1,hi2⟩:=hOm _ (aj hlt);have hlen:=hgo.len;obtain⟨aq,cq,rfl,hqc,_⟩:=bu hm.q;have hroom1:=hG.1 (f+1) (by omega) (by omega);have hmm:=DY (show O[k]+1<=f+1 by omega) s1.cn;have IH:=aI (ih pp h s1 O[k] wr hgo.pool (by omega) (by omega) (by omega));have HS:=aI yI;have HG:=aI hG;have HOM:=aI hi2;have hS1:=hgo.pool.small;obtain⟨kn,hkn⟩:=eu q.length;rw[<-hkn]at hqc ⊢;have hmq:=hm.q;rw[<-hkn]at hmq;have HM:=aI hm;have VL:=aI hkn;have hkn2:kn=k:=(by omega);have hwl:=hgo.keep.size;clear hcl hcell yI hG hmm hroom1 hm hkn Ld;subst hkn2
    go_wp2_with (first
     |(go_at_call 73;refine IH.out.mono ?_;rintro e w2 ⟨s2,j,rfl,fZ,hcj,hg2⟩;have SG:=(HM.out.go fZ).q;rw[<-VL.out]at SG)
     |(at_builtin;refine dm rfl (.tmp 40) (.tmp 44) 41 rfl w.heap.size 3 i0 (.int .i64 0) 1 8 underlying41 hi0 hz0 hz1 hz2 rfl (by decide) (.slice aq kn cq) kn _ rfl (SG.alloc _) _ 1 _ [.int .i64 (j:Int)] rfl rfl (.inr ⟨_,rfl,dA (bY _ _ _)⟩) one_cell (by unfold maxLen;omega) (by omega) (by rw[eX];have:=fZ.keep.size;omega) ?_;intro v5 w5 ji hg5 hl5))
    go_roundw
    case rel=>
     have hm2:=HM.out.go fZ;rw[<-VL.out]at hm2;have Xd:=hm2.push (news:=[j]) fZ.pool (bJ (fJ _ _) _) hg5 ji (by simp[VL.out]) (by rw[mq,bz];rfl) hl5;have h3:=Co hlt fZ.known HQ.out.2 hcj;exact⟨kn+1,s2,q++[j],by omega,by go_num,hm2.MO (hgo.trans fZ) (bJ (fJ _ _) _) hg5,Xd,HG.out.step hP.good.wf hgo fZ hg2 hi1 hf HOM.out,by rw[h3.1,<-HQ.out.1],h3.2⟩
    case measure=>simp[intOf];omega
   .have h1:¬(((k:Nat):Int)<((O.length:Nat):Int)):=by omega
    have hke:k=O.length:=(by omega);subst hke;have hOs:opt s1.D true f=O:=(by rw[HO.out];obtain⟨E,hE⟩:=hgo.more;rw[hE,nY hf]);have Fz:qE s1.D s1.cn true f=q:=(by unfold qE;rw[hOs];have:=HQ.out.1;rw[cO]at this;exact this.symm);have Lm:∀x,x∈opt s1.D true f->(s1.cn x).isSome:=λx hx=>HQ.out.2 x (by rw[cO,<-hOs];exact hx)
    have hP1:=hgo.pool;have aaf:=hP1.small;have hf1:f<s1.D.length:=aJ hf hgo.len;have Sv:∀x,x∈q->x<s1.D.length:=λx hx=>by
     rw[<-Fz]at hx;obtain⟨y,hy,rfl⟩:=ay.1 hx;have:=Lm y hy;cases e:s1.cn y with
     |none=>rw[e]at this;cases this
     |some j=>exact(hP1.uT.lt y j e).2
    have HC:=jW Fz Lm;have HG:=aI hG;have hI0:=aI (iB.start (D:=s1.D) (root:=f) (left:=true) Sv);have SV:s1.D.length*(s1.D.length+1)+q.length<=s1.D.length*(s1.D.length+1)+s1.D.length:=(by have:=hgo.len;omega);have HGK:=aI SV;clear hOs Fz Lm hG Sv SV yI;obtain⟨qq,hqq⟩:=eu q;obtain⟨wo,rfl⟩:∃wo:World,wo=wr:=⟨_,rfl⟩;go_wp2
    go_loopg [7,9,13,14,15] (s1.D.length*(s1.D.length+1)+q.length) (λgk qv kv _ _ _ wr=>∃(q1 line B:List Nat),fA pp h s1 w wr (w.heap.size+1) qv kv q1 B line/\jd pp h s w s1 wr/\Hid (iB s1.D f true q q1 line B)/\Hid (gk=(s1.D.length-line.length)*(s1.D.length+1)+q1.length/\gk<=s1.D.length*(s1.D.length+1)+s1.D.length))
    case atStart=>exact⟨q,[],[],hm,hgo,hI0,aI ⟨by simp,HGK.out⟩⟩
    case round=>
     clear hm hgo;obtain⟨q1,line,B,hm,hgo,HI,HK⟩:=hrel;rcases List.eq_nil_or_concat q1 with rfl|⟨q2,i,rfl⟩
     .obtain⟨aq,cq,rfl,hqc,_⟩:=bu hm.q
      obtain⟨ak,ck,rfl,hkc,_⟩:=bu hm.k;have Ps:=HI.out.open;have hBm:∀x,x∈B->x<s1.D.length:=λx hx=>Ps.lt x (Ps.kept x hx).1
      have hBl:B.length<=900000:=(by have:=HI.out.vW;have:=HI.out.len;omega);have hcq:∀x,x∈q->aZ.Canon (vl s1.D x):=λx hx=>by
       rw[<-HC.out.1]at hx;obtain⟨y,hy,rfl⟩:=ay.1 hx;have:=HC.out.2 y hy;cases e:s1.cn y with
       |none=>rw[e]at this;cases this
       |some j=>exact(hP1.uT.ok y j e).1
      have hcB:∀x,x∈B->aZ.Canon (vl s1.D x):=λx hx=>lI hP1.good.wf Ps hcq x (Ps.kept x hx).1
      have Z6:=(Ints.dX hm.k (by rw[aP];omega)).sup (S:=λb=>(Value.slice ak B.length ck).ownBlock=some b) (λb hb=>(hm.k.lt b hb).2) (λb hb=>hb);have hTk:NU pp h s1 wr (λb=>(Value.slice ak B.length ck).ownBlock=some b):=λb hb=>hm.Ep b (.inr (.inr hb))
      have abj:=aI (wI pp h s1 true (.slice ak B.length ck) B _ wr hgo.pool hBm (by omega) hTk.off Z6);have HKI:=aI Z6;have NQ:=aI hTk;have HB:=jW hBm hcB;have HNB:=aI HI.out.Ct;have HOI:=aI Ps;clear Z6 hTk hBm hcB hcq Ps HI
      go_wp2_with (first
       |(go_at_call 175;refine(zD _ _ (bV B) z _ hk4 Nl hDI.out.yL (λy hy=>(hDI.out.bd y hy).1) (by rw[aP];omega)).mono ?_;rintro e w5 ⟨v5,rfl,ji,hx5⟩)
       |(go_at_call 176;refine abj.out.mono ?_;rintro e w4 ⟨v4,z,rfl,CZ,LM,ll⟩;have hDI:=aI LM;have Nl:=Ints.dX CZ (by have:=LM.len;omega);have hk4:=(nN.go HKI.out NQ.out.off ll).out;clear LM))
      go_ret
      have hw4:=(hgo.trans ll).keep.size;refine⟨s1,v5,zC B z,rfl,?_,(hgo.trans ll).ext hx5,λb hb=>?_,HG.out,⟨HC.out.2,line,B,by rw[HC.out.1];exact HOI.out,Av hP1.good HNB.out HB.out.1 HB.out.2 hDI.out⟩,by have:=Mx B z;omega⟩
      .rw[xy]at ji
       rw[aP]at ji;exact jD ji hw4
      .exact ll.pool.new (ji.lt b hb).1
     .rw[List.concat_eq_append]at hm HI HK
      have hil:i<s1.D.length:=HI.out.lt i (.inr (by simp));obtain⟨gq,cq,rfl,hqc,hqm,uM⟩:=gY hm.q (by simp);obtain⟨ak,ck,rfl,hkc,_⟩:=bu hm.k;have hq1:(q2++[i]).length=q2.length+1:=(by simp);have hci:=uM q2.length (by simp);have e0:((bV (q2++[i])).map (Value.int .i64))[q2.length]?=some (.int .i64 (i:Int)):=(by simp[bV]);rw[e0]at hci;have hbd:=M7 aaf (a:=s1.D.length-line.length) (n:=(q2++[i]).length) (by have:=HK.out.1;have:=HK.out.2;omega);rw[hq1]at hqc hbd ⊢;have hmp:=hm.pop;have hlk:=λW hW=>hm.look (x:=i) (by omega) W hW
      obtain⟨n2,hn2⟩:=eu q2.length;have P7:=aI (show gk=(s1.D.length-line.length)*(s1.D.length+1)+(n2+1)/\gk<=s1.D.length*(s1.D.length+1)+s1.D.length by rw[hn2,<-hq1];exact HK.out);rw[<-hn2]at hci hqc hbd hmp ⊢;have vY:=aI hn2;have vV:=hlk wr rfl;have hwr:=hgo.keep.size;have hBl:B.length<=900000:=(by have:=HI.out.vW;have:=HI.out.len;omega);have Xh:=HI.out.len;clear uM e0 hq1 hm hlk hn2 HK;by_cases hin:i∈line
      .simp only[hin,decide_true]at vV
       have yE:=aI hin;clear hin;go_wp2
       go_roundg ((s1.D.length-line.length)*(s1.D.length+1)+n2)
       case measure=>have:=P7.out.1;omega
       case rel=>exact⟨q2,line,B,hmp,hgo,aI (HI.out.skip yE.out),aI ⟨by rw[vY.out],by have:=P7.out;omega⟩⟩
      .simp only[hin,decide_false]at vV
       have yE:=aI hin;clear hin;obtain⟨fm,hM,hfm⟩:=hmp.seen;have Yj:=aI hfm;have hki:=qN i (by omega);clear hfm;go_upto_region 15 with(at_mapUpdate;refine iO rfl _ _ _ 196 rfl 3 4 oz underlying196 (w.heap.size+1) line.length fm rfl hM (by unfold maxLen;omega) (.int .i64 (i:Int)) (.bool true) rfl rfl hki ?_;intro w3 oD hg3)
       have Ga:=hmp.mark Yj.out oD hg3;have gU:=hmp.Yx hgo hg3;have hP3:=gU.pool;have hz3:=gU.keep.size;clear oD hg3 hM hmp vV hgo hci;obtain⟨gr3,cr3,aR3,cR3,cc1,aga,af9,cg1,Xx⟩:=hP3.oO hil;obtain⟨gl3,cl3,aL3,cL3,cc0,agC,agB,XW,Xy⟩:=hP3.qM hil;have hoi:=ow hil;have aa9:=aI hoi;clear hoi;have aau:=aI (zF pp h s1 f i true _ (opt s1.D (!true) i) s1.S w3 hP3 hf1 (λx hx=>by have:=jU hP3.good.wf hx;omega) (Off.lists hP3) (by simp only[Bool.not_true];rw[aa9.out.2];exact Xx));clear Xx Xy;go_upto_region 20 with(go_at_call 174;refine aau.out.mono ?_;rintro e w4 ⟨z,rfl,hz,ll⟩)
       have Af:=Ga.go ll;have nu:=gU.trans ll;have Nl:=nu.keep.size;clear Ga gU ll cc1 cg1 cc0 XW;have SH:=Af.q;rw[<-vY.out]at SH;rcases hz with⟨rfl,hno⟩|⟨y,hy,rfl,hgy⟩
       .have Ap:=aI (HI.out.keep yE.out hno)
        have hl1:=Ap.out.len;rw[aK,fF]at hl1;clear hno;go_wp2_with (at_builtin;refine dm rfl (.tmp 99) (.tmp 101) 41 rfl w.heap.size 3 i0 (.int .i64 0) 1 8 underlying41 hi0 hz0 hz1 hz2 rfl (by decide) (.slice ak B.length ck) B.length _ rfl (Af.k.alloc _) _ 1 _ [.int .i64 (i:Int)] rfl rfl (.inr ⟨_,rfl,dA (bY _ _ _)⟩) one_cell (by unfold maxLen;omega) (by omega) (by rw[eX];omega) ?_;intro v5 w5 ji hg5 hl5)
        go_roundg ((s1.D.length-(line++[i]).length)*(s1.D.length+1)+n2)
        case measure=>
         have h1:=P7.out.1;have h2:=qB (d:=s1.D.length) (a:=s1.D.length-line.length) (n:=n2) (m:=0) (by omega) (az _);rw[aK,fF,show s1.D.length-(line.length+1)=s1.D.length-line.length-1 by omega];omega
        case rel=>
         have h1:=P7.out;have h2:=qB (d:=s1.D.length) (a:=s1.D.length-line.length) (n:=n2) (m:=0) (by omega) (az _);exact⟨q2,line++[i],B++[i],by rw[vY.out];rw[vY.out]at Af;exact Af.add nu.pool (bJ (fJ _ _) _) hg5 ji (by simp) (by rw[mq,bz];rfl) hl5,Af.Yy nu (bJ (fJ _ _) _) hg5,Ap,aI ⟨by rw[vY.out],by rw[aK,fF,show s1.D.length-(line.length+1)=s1.D.length-line.length-1 by omega];omega⟩⟩
       .have hyl:y<s1.D.length:=by have:=jU nu.pool.good.wf hy;omega
        have Ap:=aI (HI.out.pass nu.pool.good.wf yE.out hy hgy);have hl1:=Ap.out.len;rw[aK,fF]at hl1;have hyn:¬((y:Int)<0):=(by omega);have hol:=qA nu.pool.good (left:=true) (f:=y);obtain⟨g4,c4,aY,cY,cc0,agA,agz,XW,Xw⟩:=nu.pool.qM hyl;have HOY:=aI (ow hyl).1;rw[<-HOY.out]at XW Xw;obtain⟨OY,hOY⟩:=eu (opt s1.D true y);rw[<-hOY]at XW Xw hol;obtain⟨aY',cY',eY,hY1,hY2,hY3⟩:=Xw.out;simp only[gz,aP]at eY;obtain⟨rfl,-,rfl⟩:=eY;have hsrc:=FY hY1 hY2 hY3 w4 (fJ _ _);rw[aP]at hsrc;have aa7:=aI hOY;clear hY1 hY2 hY3 Xw hOY hy hgy HOY;go_wp2_with (at_builtin;refine dm rfl (.tmp 105) (.tmp 112) 41 rfl w.heap.size 3 i0 (.int .i64 0) 1 8 underlying41 hi0 hz0 hz1 hz2 rfl (by decide) (.slice (some ⟨gq,0,none⟩) n2 cq) n2 _ rfl SH aY OY.length cY ((bV OY).map (Value.int .i64)) rfl (by rw[bH,aP];omega) hsrc (jP _) (by unfold maxLen;omega) (by omega) (by omega) ?_;intro v5 w5 ji hg5 hl5)
        go_roundg ((s1.D.length-(line++[i]).length)*(s1.D.length+1)+(n2+OY.length))
        case measure=>
         have h1:=P7.out.1;have h2:=qB (d:=s1.D.length) (a:=s1.D.length-line.length) (n:=n2) (m:=OY.length) (by omega) (by omega);rw[aK,fF,show s1.D.length-(line.length+1)=s1.D.length-line.length-1 by omega];omega
        case rel=>
         have h1:=P7.out;have h2:=qB (d:=s1.D.length) (a:=s1.D.length-line.length) (n:=n2) (m:=OY.length) (by omega) (by omega);exact⟨q2++OY,line++[i],B,Af.push (news:=OY) nu.pool (fJ _ _) hg5 ji (by rw[aK,vY.out]) (by rw[mq,bz]) hl5,Af.MO nu (fJ _ _) hg5,by rw[aa7.out];exact Ap,aI ⟨by rw[show(q2++OY).length=q2.length+OY.length from aK,vY.out],by rw[aK,fF,show s1.D.length-(line.length+1)=s1.D.length-line.length-1 by omega];omega⟩⟩
 |false=>
  go_upto_region 5 with fail
  go_wp2
  obtain⟨O,hO⟩:=eu (opt s.D false f);have hOl:O.length<=f:=by rw[hO];exact qA hP.good
  have hOm:∀x,x∈O->x<f/\aZ.born (vl s.D x)<aZ.born (vl s.D f):=λx hx=>by rw[hO]at hx;exact⟨jU hP.good.wf hx,mZ hP.good.wf hx⟩
  have hOe:O=s.D[f].2:=by rw[hO];exact(ow hf).2
  rw[<-hOe]at hSR ⊢;have HO:=aI hO;have HOE:=aI hOe;clear hO hOe;go_loopw [7,12,36] (λqv _ ii wr=>∃(k:Nat) (s1:iK) (q:List Nat),k<=O.length/\ii=.int .i64 ((k:Nat):Int)/\jd pp h s w s1 wr/\fA pp h s1 w wr (w.heap.size+1) qv (.slice (some ⟨w.heap.size+1+1,0,none⟩) 0 0) q [] []/\tX s f s1/\Hid (q=(O.take k).map (λx=>(s1.cn x).getD 0)/\∀x,x∈O.take k->(s1.cn x).isSome)) (λ_ _ ii _=>O.length-(intOf ii).toNat)
  case atStart=>exact⟨0,s,[],az _,rfl,Ag,hm0,tX.refl _ _,by simp[Hid]⟩
  case round=>
   obtain⟨k,s1,q,hk,rfl,hgo,hm,hG,HQ⟩:=hrel;have Ld:q.length=k:=(by have:=congrArg List.length HQ.out.1;simp at this;omega);by_cases hlt:k<O.length
   .have h1:((k:Nat):Int)<((O.length:Nat):Int):=by omega
    obtain⟨-,hln,hcl⟩:=jB.at (nN.go hSR (Off.lists hP) hgo);obtain⟨b,off,rfl,hcell⟩:=hcl (by omega);have hck:=hcell k hlt;obtain⟨hi1,hi2⟩:=hOm _ (aj hlt);have hlen:=hgo.len;obtain⟨aq,cq,rfl,hqc,_⟩:=bu hm.q;have hroom1:=hG.1 (f+1) (by omega) (by omega);have hmm:=DY (show O[k]+1<=f+1 by omega) s1.cn;have IH:=aI (ih pp h s1 O[k] wr hgo.pool (by omega) (by omega) (by omega));have HS:=aI hSR;have HG:=aI hG;have HOM:=aI hi2;have hS1:=hgo.pool.small;obtain⟨kn,hkn⟩:=eu q.length;rw[<-hkn]at hqc ⊢;have hmq:=hm.q;rw[<-hkn]at hmq;have HM:=aI hm;have VL:=aI hkn;have hkn2:kn=k:=(by omega);have hwl:=hgo.keep.size;clear hcl hcell hSR hG hmm hroom1 hm hkn Ld;subst hkn2
    go_wp2_with (first
     |(go_at_call 73;refine IH.out.mono ?_;rintro e w2 ⟨s2,j,rfl,fZ,hcj,hg2⟩;have SG:=(HM.out.go fZ).q;rw[<-VL.out]at SG)
     |(at_builtin;refine dm rfl (.tmp 40) (.tmp 44) 41 rfl w.heap.size 3 i0 (.int .i64 0) 1 8 underlying41 hi0 hz0 hz1 hz2 rfl (by decide) (.slice aq kn cq) kn _ rfl (SG.alloc _) _ 1 _ [.int .i64 (j:Int)] rfl rfl (.inr ⟨_,rfl,dA (bY _ _ _)⟩) one_cell (by unfold maxLen;omega) (by omega) (by rw[eX];have:=fZ.keep.size;omega) ?_;intro v5 w5 ji hg5 hl5))
    go_roundw
    case rel=>
     have hm2:=HM.out.go fZ;rw[<-VL.out]at hm2;have Xd:=hm2.push (news:=[j]) fZ.pool (bJ (fJ _ _) _) hg5 ji (by simp[VL.out]) (by rw[mq,bz];rfl) hl5;have h3:=Co hlt fZ.known HQ.out.2 hcj;exact⟨kn+1,s2,q++[j],by omega,by go_num,hm2.MO (hgo.trans fZ) (bJ (fJ _ _) _) hg5,Xd,HG.out.step hP.good.wf hgo fZ hg2 hi1 hf HOM.out,by rw[h3.1,<-HQ.out.1],h3.2⟩
    case measure=>simp[intOf];omega
   .have h1:¬(((k:Nat):Int)<((O.length:Nat):Int)):=by omega
    have hke:k=O.length:=(by omega);subst hke;have hOs:opt s1.D false f=O:=(by rw[HO.out];obtain⟨E,hE⟩:=hgo.more;rw[hE,nY hf]);have Fz:qE s1.D s1.cn false f=q:=(by unfold qE;rw[hOs];have:=HQ.out.1;rw[cO]at this;exact this.symm);have Lm:∀x,x∈opt s1.D false f->(s1.cn x).isSome:=λx hx=>HQ.out.2 x (by rw[cO,<-hOs];exact hx)
    have hP1:=hgo.pool;have aaf:=hP1.small;have hf1:f<s1.D.length:=aJ hf hgo.len;have Sv:∀x,x∈q->x<s1.D.length:=λx hx=>by
     rw[<-Fz]at hx;obtain⟨y,hy,rfl⟩:=ay.1 hx;have:=Lm y hy;cases e:s1.cn y with
     |none=>rw[e]at this;cases this
     |some j=>exact(hP1.uT.lt y j e).2
    have HC:=jW Fz Lm;have HG:=aI hG;have hI0:=aI (iB.start (D:=s1.D) (root:=f) (left:=false) Sv);have SV:s1.D.length*(s1.D.length+1)+q.length<=s1.D.length*(s1.D.length+1)+s1.D.length:=(by have:=hgo.len;omega);have HGK:=aI SV;clear hOs Fz Lm hG Sv SV hSR;obtain⟨qq,hqq⟩:=eu q;obtain⟨wo,rfl⟩:∃wo:World,wo=wr:=⟨_,rfl⟩;go_wp2
    go_loopg [7,9,13,14,15] (s1.D.length*(s1.D.length+1)+q.length) (λgk qv kv _ _ _ wr=>∃(q1 line B:List Nat),fA pp h s1 w wr (w.heap.size+1) qv kv q1 B line/\jd pp h s w s1 wr/\Hid (iB s1.D f false q q1 line B)/\Hid (gk=(s1.D.length-line.length)*(s1.D.length+1)+q1.length/\gk<=s1.D.length*(s1.D.length+1)+s1.D.length))
    case atStart=>exact⟨q,[],[],hm,hgo,hI0,aI ⟨by simp,HGK.out⟩⟩
    case round=>
     clear hm hgo;obtain⟨q1,line,B,hm,hgo,HI,HK⟩:=hrel;rcases List.eq_nil_or_concat q1 with rfl|⟨q2,i,rfl⟩
     .obtain⟨aq,cq,rfl,hqc,_⟩:=bu hm.q
      obtain⟨ak,ck,rfl,hkc,_⟩:=bu hm.k;have Ps:=HI.out.open;have hBm:∀x,x∈B->x<s1.D.length:=λx hx=>Ps.lt x (Ps.kept x hx).1
      have hBl:B.length<=900000:=(by have:=HI.out.vW;have:=HI.out.len;omega);have hcq:∀x,x∈q->aZ.Canon (vl s1.D x):=λx hx=>by
       rw[<-HC.out.1]at hx;obtain⟨y,hy,rfl⟩:=ay.1 hx;have:=HC.out.2 y hy;cases e:s1.cn y with
       |none=>rw[e]at this;cases this
       |some j=>exact(hP1.uT.ok y j e).1
      have hcB:∀x,x∈B->aZ.Canon (vl s1.D x):=λx hx=>lI hP1.good.wf Ps hcq x (Ps.kept x hx).1
      have Z6:=(Ints.dX hm.k (by rw[aP];omega)).sup (S:=λb=>(Value.slice ak B.length ck).ownBlock=some b) (λb hb=>(hm.k.lt b hb).2) (λb hb=>hb);have hTk:NU pp h s1 wr (λb=>(Value.slice ak B.length ck).ownBlock=some b):=λb hb=>hm.Ep b (.inr (.inr hb))
      have abj:=aI (wI pp h s1 false (.slice ak B.length ck) B _ wr hgo.pool hBm (by omega) hTk.off Z6);have HKI:=aI Z6;have NQ:=aI hTk;have HB:=jW hBm hcB;have HNB:=aI HI.out.Ct;have HOI:=aI Ps;clear Z6 hTk hBm hcB hcq Ps HI
      go_wp2_with (first
       |(go_at_call 175;refine(zD _ _ (bV B) z _ hk4 Nl hDI.out.yL (λy hy=>(hDI.out.bd y hy).1) (by rw[aP];omega)).mono ?_;rintro e w5 ⟨v5,rfl,ji,hx5⟩)
       |(go_at_call 176;refine abj.out.mono ?_;rintro e w4 ⟨v4,z,rfl,CZ,LM,ll⟩;have hDI:=aI LM;have Nl:=Ints.dX CZ (by have:=LM.len;omega);have hk4:=(nN.go HKI.out NQ.out.off ll).out;clear LM))
      go_ret
      have hw4:=(hgo.trans ll).keep.size;refine⟨s1,v5,zC B z,rfl,?_,(hgo.trans ll).ext hx5,λb hb=>?_,HG.out,⟨HC.out.2,line,B,by rw[HC.out.1];exact HOI.out,Av hP1.good HNB.out HB.out.1 HB.out.2 hDI.out⟩,by have:=Mx B z;omega⟩
      .rw[xy]at ji
       rw[aP]at ji;exact jD ji hw4
      .exact ll.pool.new (ji.lt b hb).1
     .rw[List.concat_eq_append]at hm HI HK
      have hil:i<s1.D.length:=HI.out.lt i (.inr (by simp));obtain⟨gq,cq,rfl,hqc,hqm,uM⟩:=gY hm.q (by simp);obtain⟨ak,ck,rfl,hkc,_⟩:=bu hm.k;have hq1:(q2++[i]).length=q2.length+1:=(by simp);have hci:=uM q2.length (by simp);have e0:((bV (q2++[i])).map (Value.int .i64))[q2.length]?=some (.int .i64 (i:Int)):=(by simp[bV]);rw[e0]at hci;have hbd:=M7 aaf (a:=s1.D.length-line.length) (n:=(q2++[i]).length) (by have:=HK.out.1;have:=HK.out.2;omega);rw[hq1]at hqc hbd ⊢;have hmp:=hm.pop;have hlk:=λW hW=>hm.look (x:=i) (by omega) W hW
      obtain⟨n2,hn2⟩:=eu q2.length;have P7:=aI (show gk=(s1.D.length-line.length)*(s1.D.length+1)+(n2+1)/\gk<=s1.D.length*(s1.D.length+1)+s1.D.length by rw[hn2,<-hq1];exact HK.out);rw[<-hn2]at hci hqc hbd hmp ⊢;have vY:=aI hn2;have vV:=hlk wr rfl;have hwr:=hgo.keep.size;have hBl:B.length<=900000:=(by have:=HI.out.vW;have:=HI.out.len;omega);have Xh:=HI.out.len;clear uM e0 hq1 hm hlk hn2 HK;by_cases hin:i∈line
      .simp only[hin,decide_true]at vV
       have yE:=aI hin;clear hin;go_wp2
       go_roundg ((s1.D.length-line.length)*(s1.D.length+1)+n2)
       case measure=>have:=P7.out.1;omega
       case rel=>exact⟨q2,line,B,hmp,hgo,aI (HI.out.skip yE.out),aI ⟨by rw[vY.out],by have:=P7.out;omega⟩⟩
      .simp only[hin,decide_false]at vV
       have yE:=aI hin;clear hin;obtain⟨fm,hM,hfm⟩:=hmp.seen;have Yj:=aI hfm;have hki:=qN i (by omega);clear hfm;go_upto_region 15 with(at_mapUpdate;refine iO rfl _ _ _ 196 rfl 3 4 oz underlying196 (w.heap.size+1) line.length fm rfl hM (by unfold maxLen;omega) (.int .i64 (i:Int)) (.bool true) rfl rfl hki ?_;intro w3 oD hg3)
       have Ga:=hmp.mark Yj.out oD hg3;have gU:=hmp.Yx hgo hg3;have hP3:=gU.pool;have hz3:=gU.keep.size;clear oD hg3 hM hmp vV hgo hci;obtain⟨gr3,cr3,aR3,cR3,cc1,aga,af9,cg1,Xx⟩:=hP3.oO hil;obtain⟨gl3,cl3,aL3,cL3,cc0,agC,agB,XW,Xy⟩:=hP3.qM hil;have hoi:=ow hil;have aa9:=aI hoi;clear hoi;have aau:=aI (zF pp h s1 f i false _ (opt s1.D (!false) i) s1.S w3 hP3 hf1 (λx hx=>by have:=jU hP3.good.wf hx;omega) (Off.lists hP3) (by simp only[Bool.not_false];rw[aa9.out.1];exact Xy));clear Xx Xy;go_upto_region 20 with(go_at_call 174;refine aau.out.mono ?_;rintro e w4 ⟨z,rfl,hz,ll⟩)
       have Af:=Ga.go ll;have nu:=gU.trans ll;have Nl:=nu.keep.size;clear Ga gU ll cc1 cg1 cc0 XW;have SH:=Af.q;rw[<-vY.out]at SH;rcases hz with⟨rfl,hno⟩|⟨y,hy,rfl,hgy⟩
       .have Ap:=aI (HI.out.keep yE.out hno)
        have hl1:=Ap.out.len;rw[aK,fF]at hl1;clear hno;go_wp2_with (at_builtin;refine dm rfl (.tmp 99) (.tmp 101) 41 rfl w.heap.size 3 i0 (.int .i64 0) 1 8 underlying41 hi0 hz0 hz1 hz2 rfl (by decide) (.slice ak B.length ck) B.length _ rfl (Af.k.alloc _) _ 1 _ [.int .i64 (i:Int)] rfl rfl (.inr ⟨_,rfl,dA (bY _ _ _)⟩) one_cell (by unfold maxLen;omega) (by omega) (by rw[eX];omega) ?_;intro v5 w5 ji hg5 hl5)
        go_roundg ((s1.D.length-(line++[i]).length)*(s1.D.length+1)+n2)
        case measure=>
         have h1:=P7.out.1;have h2:=qB (d:=s1.D.length) (a:=s1.D.length-line.length) (n:=n2) (m:=0) (by omega) (az _);rw[aK,fF,show s1.D.length-(line.length+1)=s1.D.length-line.length-1 by omega];omega
        case rel=>
         have h1:=P7.out;have h2:=qB (d:=s1.D.length) (a:=s1.D.length-line.length) (n:=n2) (m:=0) (by omega) (az _);exact⟨q2,line++[i],B++[i],by rw[vY.out];rw[vY.out]at Af;exact Af.add nu.pool (bJ (fJ _ _) _) hg5 ji (by simp) (by rw[mq,bz];rfl) hl5,Af.Yy nu (bJ (fJ _ _) _) hg5,Ap,aI ⟨by rw[vY.out],by rw[aK,fF,show s1.D.length-(line.length+1)=s1.D.length-line.length-1 by omega];omega⟩⟩
       .have hyl:y<s1.D.length:=by have:=jU nu.pool.good.wf hy;omega
        have Ap:=aI (HI.out.pass nu.pool.good.wf yE.out hy hgy);have hl1:=Ap.out.len;rw[aK,fF]at hl1;have hyn:¬((y:Int)<0):=(by omega);have hol:=qA nu.pool.good (left:=false) (f:=y);obtain⟨g4,c4,aY,cY,cc0,agA,agz,XW,Xw⟩:=nu.pool.oO hyl;have HOY:=aI (ow hyl).2;rw[<-HOY.out]at XW Xw;obtain⟨OY,hOY⟩:=eu (opt s1.D false y);rw[<-hOY]at XW Xw hol;obtain⟨aY',cY',eY,hY1,hY2,hY3⟩:=Xw.out;simp only[gz,aP]at eY;obtain⟨rfl,-,rfl⟩:=eY;have hsrc:=FY hY1 hY2 hY3 w4 (fJ _ _);rw[aP]at hsrc;have aa7:=aI hOY;clear hY1 hY2 hY3 Xw hOY hy hgy HOY;go_wp2_with (at_builtin;refine dm rfl (.tmp 87) (.tmp 94) 41 rfl w.heap.size 3 i0 (.int .i64 0) 1 8 underlying41 hi0 hz0 hz1 hz2 rfl (by decide) (.slice (some ⟨gq,0,none⟩) n2 cq) n2 _ rfl SH aY OY.length cY ((bV OY).map (Value.int .i64)) rfl (by rw[bH,aP];omega) hsrc (jP _) (by unfold maxLen;omega) (by omega) (by omega) ?_;intro v5 w5 ji hg5 hl5)
        go_roundg ((s1.D.length-(line++[i]).length)*(s1.D.length+1)+(n2+OY.length))
        case measure=>
         have h1:=P7.out.1;have h2:=qB (d:=s1.D.length) (a:=s1.D.length-line.length) (n:=n2) (m:=OY.length) (by omega) (by omega);rw[aK,fF,show s1.D.length-(line.length+1)=s1.D.length-line.length-1 by omega];omega
        case rel=>
         have h1:=P7.out;have h2:=qB (d:=s1.D.length) (a:=s1.D.length-line.length) (n:=n2) (m:=OY.length) (by omega) (by omega);exact⟨q2++OY,line++[i],B,Af.push (news:=OY) nu.pool (fJ _ _) hg5 ji (by rw[aK,vY.out]) (by rw[mq,bz]) hl5,Af.MO nu (fJ _ _) hg5,by rw[aa7.out];exact Ap,aI ⟨by rw[show(q2++OY).length=q2.length+OY.length from aK,vY.out],by rw[aK,fF,show s1.D.length-(line.length+1)=s1.D.length-line.length-1 by omega];omega⟩⟩
