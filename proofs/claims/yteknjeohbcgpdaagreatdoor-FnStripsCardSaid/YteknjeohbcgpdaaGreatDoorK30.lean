/-
  Contract of the program's reduced, where canon serves at all places below.
-/
import Derived.Test.YteknjeohbcgpdaaGreatDoorK29
set_option maxRecDepth 100000
namespace Go.Proofs.YteknjeohbcgpdaaGreatDoor
open Tryz
open Go.RowKit
open bz (dC Nd vl Same Ge)
variable {pp h mb n f d a:Nat} {s s2:iQ} {w w2 wa w3:World} {qv kv:Value} {q B line:List Nat} {D:dC}
def Dx(pp h:Nat)(s:iQ)(f:Nat)(w:World)(e:Ending)(w':World):Prop:=∃s' j,e=.returned (.int .i64 ((j:Nat):Int))/\jK pp h s w s' w'/\s'.cn f=some j/\Grow s f s'
def qw(m:Nat):Prop:=∀(pp h:Nat) (s:iQ) (f:Nat) (w:World),dm w pp h s->f<s.D.length->f<m->s.D.length+miss (f+1) s.cn<=900000->Calls prog 104 #[.pointer (some ⟨pp,0,none⟩),.int .i64 (f:Int)] w (Dx pp h s f w)
def Xg(pp h:Nat)(s:iQ)(f:Nat)(left:Bool)(w:World)(e:Ending)(w':World):Prop:=
 ∃s' v' F,e=.returned v'/\w'.ownsRow w.heap.size 3 1 v' F.length ((dx F).map (Value.int .i64))/\jK pp h s w s' w'/\(∀b,v'.ownBlock=some b->¬jP pp h s' b/\¬s'.S b)/\qx s f s'/\mK s'.D s'.cn f left F/\F.length<=1000000
theorem OE(hP:dm w pp h s):gD pp h s w (((w.alloc (.cells #[] 3)).alloc (.map #[] 0)).alloc (.cells #[] 3)) (w.heap.size+1) (.slice (some ⟨w.heap.size,0,none⟩) 0 0) (.slice (some ⟨w.heap.size+1+1,0,none⟩) 0 0) [] [] []:=by
 have z1:(w.alloc (.cells #[] 3)).heap.size=w.heap.size+1:=fw _ _;have z2:((w.alloc (.cells #[] 3)).alloc (.map #[] 0)).heap.size=w.heap.size+1+1:=by rw[fw,z1]
 refine⟨((fC w w.heap.size (ai _) 3).alloc _).alloc _,?_,⟨λ_=>none,?_,λx=>by simp⟩,by omega,by simp[Value.ownBlock],by simp[Value.ownBlock],?_,?_⟩
 .have:=fC ((w.alloc (.cells #[] 3)).alloc (.map #[] 0)) w.heap.size (by omega) 3
  rw[z2]at this;exact this
 .refine gu.made _ _ (c:=0) ?_
  rw[Below.heap_alloc _ _ _ (by omega)];exact alloc_at z1.symm
 .intro b hb hc;simp[Value.ownBlock]at hb hc;omega
 .intro b hb
  have:w.heap.size<=b/\b<=w.heap.size+1+1:=by
   rcases hb with rfl|hb|hb
   .omega
   .simp[Value.ownBlock]at hb;omega
   .simp[Value.ownBlock]at hb;omega
  exact⟨by rw[fw,z2];omega,hP.new this.1⟩
theorem gD.MZ(m:gD pp h s2 w w2 mb qv kv q B line)(k:jK pp h s w s2 w2)(hx:Ext w2 wa)(hg:wa.grownBy w3 qv.ownBlock):jK pp h s w s2 w3:=
 (k.ext hx).side (fD hg) λb hb=>⟨(m.q.lt b hb).1,(m.uW b (.inr (.inl hb))).2⟩
theorem gD.XB(m:gD pp h s2 w w2 mb qv kv q B line)(k:jK pp h s w s2 w2)(hx:Ext w2 wa)(hg:wa.grownBy w3 kv.ownBlock):jK pp h s w s2 w3:=
 (k.ext hx).side (fD hg) λb hb=>⟨(m.k.lt b hb).1,(m.uW b (.inr (.inr hb))).2⟩
theorem gD.XA(m:gD pp h s2 w w2 mb qv kv q B line)(k:jK pp h s w s2 w2)(hg:w2.grownBy w3 (some mb)):jK pp h s w s2 w3:=
 k.side (gJ hg) λb hb=>by subst hb;exact⟨m.mb0,(m.uW b (.inl rfl)).2⟩
theorem jX{B C e size:Nat}{v:Value}{xs:List Value}(h:w.ownsRow B e size v n xs)(hC:C<=B):w.ownsRow C e size v n xs:=by
 obtain⟨h1,h2⟩:=h;refine⟨h1,?_⟩;rcases h2 with h2|⟨g,cap,cur,e,hb,h3⟩
 .exact .inl h2
 .exact .inr ⟨g,cap,cur,e,by omega,h3⟩
theorem o8(hf:f<D.length):opt D true f=D[f].1/\opt D false f=D[f].2:=by simp[opt,aa hf]
theorem oK(hD:bz.Good D){left:Bool}:(opt D left f).length<=f:=by
 unfold opt;cases e:D[f]? with
 |none=>simp
 |some nd=>
  have ha:=hD.BP _ (dU e);have hl:=hD.wf f nd e;cases left
  .exact jY (l6 ha.2) hl.2
  .exact jY (l6 ha.1) hl.1
theorem qx.step{wr:World}{s1:iQ}{i:Nat}(hw:bz.WF s.D)(g:qx s f s1)(k:jK pp h s w s1 wr)(k2:jK pp h s1 wr s2 w2)(g2:Grow s1 i s2)(hi:i<f)(hf:f<s.D.length)(hb:bz.born (vl s.D i)<bz.born (vl s.D f)):qx s f s2:=by
 have hl:=k.len;refine⟨λN a b=>?_,λx a b c=>?_,λx a b=>?_⟩
 .have h1:=g.1 N a b
  have h2:=g2.1 N (by omega) (by omega);omega
 .cases e:s1.cn x with
  |some j=>exact g.2.1 x a b (by rw[e];rfl)
  |none=>
   have h1:=g2.2.1 x (by omega) e c;rw[k.vl hw a,k.vl hw (by omega:i<s.D.length)]at h1;omega
 .by_cases c:x<s1.D.length
  .have h1:=g.2.2 x a c
   cases e:s1.cn x with
   |none=>rw[e]at h1;cases h1
   |some j=>rw[k2.known x j e];rfl
  .exact g2.2.2 x (by omega) b
theorem Dl{cn Bo:Nat->Option Nat}{O:List Nat}{k j:Nat}(hk:k<O.length)(hm:∀i j,cn i=some j->Bo i=some j)(h:∀x,x∈O.take k->(cn x).isSome)(hj:Bo O[k]=some j):
 ((O.take (k+1)).map λx=>(Bo x).getD 0)=((O.take k).map λx=>(cn x).getD 0)++[j]/\∀x,x∈O.take (k+1)->(Bo x).isSome:=by
 rw[bg hk];have h1:∀x,x∈O.take k->Bo x=cn x:=λx hx=>by
  have:=h x hx;cases e:cn x with
  |none=>rw[e]at this;cases this
  |some y=>exact hm x y e
 refine⟨?_,λx hx=>?_⟩
 .rw[aU,eZ,lU,hj]
  congr 1;exact dP λx hx=>by rw[h1 x hx]
 .rcases aK.1 hx with hx|hx
  .rw[h1 x hx];exact h x hx
  .simp at hx;subst hx;rw[hj];rfl
theorem MP(l:List Nat)(z:List Int):(Ar l z).length<=l.length:=by
 have:=jQ (λ(i:Nat)=>!mO z (i:Int)) (List.range l.length)
 simpa [Ar]using this
theorem qD{m:Nat}(ha:1<=a)(hm:m<=d):(a-1)*(d+1)+(n+m)<a*(d+1)+(n+1):=by
 obtain⟨b,rfl⟩:∃b,a=b+1:=⟨a-1,by omega⟩;rw[nZ,ko];omega
theorem Ng(hd:d<=900000)(h:a*(d+1)+n<=d*(d+1)+d):n<=811000000000:=by
 have:d*(d+1)<=900000*900001:=jR hd (by omega);omega
set_option maxHeartbeats 4000000 in
theorem AJ(pp h:Nat)(s:iQ)(f:Nat)(left:Bool)(w:World)(ih:qw f)(hP:dm w pp h s)(hf:f<s.D.length)(hroom:s.D.length+miss (f+1) s.cn<=900000):
 Calls prog 160 #[.pointer (some ⟨pp,0,none⟩),.int .i64 (f:Int),.bool left] w (Xg pp h s f left w):=by
 have hds:=hP.small;obtain⟨i0,hi0,hz0,hz1,hz2⟩:=info_parts iy;have hmk:=λw:World=>run_makeMap_plain (P:=prog) (w:=w) 187
 have hm0:=OE hP;have hx0:Ext w (((w.alloc (.cells #[] 3)).alloc (.map #[] 0)).alloc (.cells #[] 3)):=by go_grown
 go_enter Tryz.func160,Tryz.ntmps160
 go_upto_region 2 with fail
 generalize ((w.alloc (.cells #[] 3)).alloc (.map #[] 0)).alloc (.cells #[] 3)=W0 at *;have XX:=hP.ext hx0;have uP:jK pp h s w s W0:=jK.refl hP hx0;obtain⟨gr,Uo,aR,cR,wQ,Zc,pQ,JS,hSR⟩:=hP.pM hf;obtain⟨gl,Ur,aL,cL,ze,Zf,Ze,JU,sw⟩:=hP.qR hf;replace wQ:=(hx0.cell (lt_of_cell wQ)).trans wQ;replace ze:=(hx0.cell (lt_of_cell ze)).trans ze;replace JS:=(hx0.cell (lt_of_cell JS)).trans JS;replace JU:=(hx0.cell (lt_of_cell JU)).trans JU;cases left with
 |true=>
  go_upto_region 5 with fail
  go_wp2
  obtain⟨O,hO⟩:∃O,O=opt s.D true f:=⟨_,rfl⟩;have hOl:O.length<=f:=by rw[hO];exact oK hP.good
  have hOm:∀x,x∈O->x<f/\bz.born (vl s.D x)<bz.born (vl s.D f):=λx hx=>by rw[hO]at hx;exact⟨kE hP.good.wf hx,nT hP.good.wf hx⟩
  have ZE:O=s.D[f].1:=by rw[hO];exact(o8 hf).1
  rw[<-ZE]at sw ⊢;have HO:=aH hO;have HOE:=aH ZE;clear hO ZE;go_loopw [7,12,36] (λqv _ ii wr=>∃(k:Nat) (s1:iQ) (q:List Nat),k<=O.length/\ii=.int .i64 ((k:Nat):Int)/\jK pp h s w s1 wr/\gD pp h s1 w wr (w.heap.size+1) qv (.slice (some ⟨w.heap.size+1+1,0,none⟩) 0 0) q [] []/\qx s f s1/\Hid (q=(O.take k).map (λx=>(s1.cn x).getD 0)/\∀x,x∈O.take k->(s1.cn x).isSome)) (λ_ _ ii _=>O.length-(intOf ii).toNat)
  case atStart=>exact⟨0,s,[],az _,rfl,uP,hm0,qx.refl _ _,by simp[Hid]⟩
  case round=>
   obtain⟨k,s1,q,hk,rfl,hgo,hm,hG,HQ⟩:=hrel;have qU:q.length=k:=(by have:=congrArg List.length HQ.out.1;simp at this;omega);by_cases hlt:k<O.length
   .have h1:((k:Nat):Int)<((O.length:Nat):Int):=by omega
    obtain⟨-,hln,hcl⟩:=kD.at (oP.go sw (Off.lists hP) hgo);obtain⟨b,off,rfl,hcell⟩:=hcl (by omega);have hck:=hcell k hlt;obtain⟨hi1,hi2⟩:=hOm _ (ah hlt);have hlen:=hgo.len;obtain⟨aq,cq,rfl,hqc,_⟩:=bD hm.q;have hroom1:=hG.1 (f+1) (by omega) (by omega);have hmm:=EP (show O[k]+1<=f+1 by omega) s1.cn;have IH:=aH (ih pp h s1 O[k] wr hgo.pool (by omega) (by omega) (by omega));have HS:=aH sw;have HG:=aH hG;have HOM:=aH hi2;have hS1:=hgo.pool.small;obtain⟨kn,hkn⟩:∃n,n=q.length:=⟨_,rfl⟩;rw[<-hkn]at hqc ⊢;have hmq:=hm.q;rw[<-hkn]at hmq;have HM:=aH hm;have Bb:=aH hkn;have hkn2:kn=k:=(by omega);have hwl:=hgo.keep.size;clear hcl hcell sw hG hmm hroom1 hm hkn qU;subst hkn2
    go_wp2_with (first
     |(go_at_call 104;refine IH.out.mono ?_;rintro e w2 ⟨s2,j,rfl,gX,hcj,hg2⟩;have uN:=(HM.out.go gX).q;rw[<-Bb.out]at uN)
     |(at_builtin;refine bQ rfl (.tmp 40) (.tmp 44) 80 rfl w.heap.size 3 i0 (.int .i64 0) 1 8 underlying80 hi0 hz0 hz1 hz2 rfl (by decide) (.slice aq kn cq) kn _ rfl (uN.alloc _) _ 1 _ [.int .i64 (j:Int)] rfl rfl (.inr ⟨_,rfl,cK (bP _ _ _)⟩) one_cell (by unfold maxLen;omega) (by omega) (by rw[fw];have:=gX.keep.size;omega) ?_;intro v5 w5 fI hg5 hl5))
    go_roundw
    case rel=>
     have hm2:=HM.out.go gX;rw[<-Bb.out]at hm2;have Jw:=hm2.push (news:=[j]) gX.pool (bK (Below.refl _ _) _) hg5 fI (by simp[Bb.out]) (by rw[kZ,aU];rfl) hl5;have h3:=Dl hlt gX.known HQ.out.2 hcj;exact⟨kn+1,s2,q++[j],by omega,by go_num,hm2.MZ (hgo.trans gX) (bK (Below.refl _ _) _) hg5,Jw,HG.out.step hP.good.wf hgo gX hg2 hi1 hf HOM.out,by rw[h3.1,<-HQ.out.1],h3.2⟩
    case measure=>simp[intOf];omega
   .have h1:¬(((k:Nat):Int)<((O.length:Nat):Int)):=by omega
    have hke:k=O.length:=(by omega);subst hke;have ZC:opt s1.D true f=O:=(by rw[HO.out];obtain⟨E,hE⟩:=hgo.more;rw[hE,oJ hf]);have Gh:qH s1.D s1.cn true f=q:=(by unfold qH;rw[ZC];have:=HQ.out.1;rw[dz]at this;exact this.symm);have LV:∀x,x∈opt s1.D true f->(s1.cn x).isSome:=λx hx=>HQ.out.2 x (by rw[dz,<-ZC];exact hx)
    have hP1:=hgo.pool;have Zj:=hP1.small;have hf1:f<s1.D.length:=aQ hf hgo.len;have Su:∀x,x∈q->x<s1.D.length:=λx hx=>by
     rw[<-Gh]at hx;obtain⟨y,hy,rfl⟩:=aI.1 hx;have:=LV y hy;cases e:s1.cn y with
     |none=>rw[e]at this;cases this
     |some j=>exact(hP1.uV.lt y j e).2
    have HC:=aH (And.intro Gh LV);have HG:=aH hG;have hI0:=aH (jd.start (D:=s1.D) (root:=f) (left:=true) Su);have Td:s1.D.length*(s1.D.length+1)+q.length<=s1.D.length*(s1.D.length+1)+s1.D.length:=(by have:=hgo.len;omega);have Vm:=aH Td;clear ZC Gh LV hG Su Td sw;obtain⟨qq,hqq⟩:∃z,z=q:=⟨_,rfl⟩;obtain⟨wo,rfl⟩:∃wo:World,wo=wr:=⟨_,rfl⟩;go_wp2
    go_loopg [7,9,13,14,15] (s1.D.length*(s1.D.length+1)+q.length) (λgk qv kv _ _ _ wr=>∃(q1 line B:List Nat),gD pp h s1 w wr (w.heap.size+1) qv kv q1 B line/\jK pp h s w s1 wr/\Hid (jd s1.D f true q q1 line B)/\Hid (gk=(s1.D.length-line.length)*(s1.D.length+1)+q1.length/\gk<=s1.D.length*(s1.D.length+1)+s1.D.length))
    case atStart=>exact⟨q,[],[],hm,hgo,hI0,aH ⟨by simp,Vm.out⟩⟩
    case round=>
     clear hm hgo;obtain⟨q1,line,B,hm,hgo,HI,HK⟩:=hrel;rcases List.eq_nil_or_concat q1 with rfl|⟨q2,i,rfl⟩
     .obtain⟨aq,cq,rfl,hqc,_⟩:=bD hm.q
      obtain⟨ak,ck,rfl,hkc,_⟩:=bD hm.k;have Px:=HI.out.open;have hBm:∀x,x∈B->x<s1.D.length:=λx hx=>Px.lt x (Px.kept x hx).1
      have hBl:B.length<=900000:=(by have:=HI.out.wS;have:=HI.out.len;omega);have hcq:∀x,x∈q->bz.Canon (vl s1.D x):=λx hx=>by
       rw[<-HC.out.1]at hx;obtain⟨y,hy,rfl⟩:=aI.1 hx;have:=HC.out.2 y hy;cases e:s1.cn y with
       |none=>rw[e]at this;cases this
       |some j=>exact(hP1.uV.ok y j e).1
      have hcB:∀x,x∈B->bz.Canon (vl s1.D x):=λx hx=>mE hP1.good.wf Px hcq x (Px.kept x hx).1
      have Y9:=(Ints.eO hm.k (by rw[bu];omega)).sup (S:=λb=>(Value.slice ak B.length ck).ownBlock=some b) (λb hb=>(hm.k.lt b hb).2) (λb hb=>hb);have Zv:Ku pp h s1 wr (λb=>(Value.slice ak B.length ck).ownBlock=some b):=λb hb=>hm.uW b (.inr (.inr hb))
      have aat:=aH (xA pp h s1 true (.slice ak B.length ck) B _ wr hgo.pool hBm (by omega) Zv.off Y9);have HKI:=aH Y9;have Qr:=aH Zv;have HB:=aH (And.intro hBm hcB);have HNB:=aH HI.out.Dq;have HOI:=aH Px;clear Y9 Zv hBm hcB hcq Px HI
      go_wp2_with (first
       |(go_at_call 197;refine(Au _ _ (dx B) z _ hk4 Nz ZL.out.BP (λy hy=>(ZL.out.bd y hy).1) (by rw[bu];omega)).mono ?_;rintro e w5 ⟨v5,rfl,fI,hx5⟩)
       |(go_at_call 198;refine aat.out.mono ?_;rintro e w4 ⟨v4,z,rfl,He,Mi,kH⟩;have ZL:=aH Mi;have Nz:=Ints.eO He (by have:=Mi.len;omega);have hk4:=(oP.go HKI.out Qr.out.off kH).out;clear Mi))
      go_ret
      have hw4:=(hgo.trans kH).keep.size;refine⟨s1,v5,Ar B z,rfl,?_,(hgo.trans kH).ext hx5,λb hb=>?_,HG.out,⟨HC.out.2,line,B,by rw[HC.out.1];exact HOI.out,Bw hP1.good HNB.out HB.out.1 HB.out.2 ZL.out⟩,by have:=MP B z;omega⟩
      .rw[yc]at fI
       rw[bu]at fI;exact jX fI hw4
      .exact kH.pool.new (fI.lt b hb).1
     .rw[List.concat_eq_append]at hm HI HK
      have hil:i<s1.D.length:=HI.out.lt i (.inr (by simp));obtain⟨gq,cq,rfl,hqc,hqm,uM⟩:=iB hm.q (by simp);obtain⟨ak,ck,rfl,hkc,_⟩:=bD hm.k;have hq1:(q2++[i]).length=q2.length+1:=(by simp);have hci:=uM q2.length (by simp);have e0:((dx (q2++[i])).map (Value.int .i64))[q2.length]?=some (.int .i64 (i:Int)):=(by simp[dx]);rw[e0]at hci;have hbd:=Ng Zj (a:=s1.D.length-line.length) (n:=(q2++[i]).length) (by have:=HK.out.1;have:=HK.out.2;omega);rw[hq1]at hqc hbd ⊢;have hmp:=hm.pop;have hlk:=λW hW=>hm.look (x:=i) (by omega) W hW
      obtain⟨n2,hn2⟩:∃n,n=q2.length:=⟨_,rfl⟩;have Qc:=aH (show gk=(s1.D.length-line.length)*(s1.D.length+1)+(n2+1)/\gk<=s1.D.length*(s1.D.length+1)+s1.D.length by rw[hn2,<-hq1];exact HK.out);rw[<-hn2]at hci hqc hbd hmp ⊢;have BQ:=aH hn2;have wN:=hlk wr rfl;have hwr:=hgo.keep.size;have hBl:B.length<=900000:=(by have:=HI.out.wS;have:=HI.out.len;omega);have Vd:=HI.out.len;clear uM e0 hq1 hm hlk hn2 HK;by_cases hin:i∈line
      .simp only[hin,decide_true]at wN
       have zt:=aH hin;clear hin;go_wp2
       go_roundg ((s1.D.length-line.length)*(s1.D.length+1)+n2)
       case measure=>have:=Qc.out.1;omega
       case rel=>exact⟨q2,line,B,hmp,hgo,aH (HI.out.skip zt.out),aH ⟨by rw[BQ.out],by have:=Qc.out;omega⟩⟩
      .simp only[hin,decide_false]at wN
       have zt:=aH hin;clear hin;obtain⟨fm,hM,hfm⟩:=hmp.seen;have Xq:=aH hfm;have hki:=qj i (by omega);clear hfm;go_upto_region 15 with(at_mapUpdate;refine iT rfl _ _ _ 187 rfl 3 4 oD underlying187 (w.heap.size+1) line.length fm rfl hM (by unfold maxLen;omega) (.int .i64 (i:Int)) (.bool true) rfl rfl hki ?_;intro w3 Gi hg3)
       have AV:=hmp.mark Xq.out Gi hg3;have iX:=hmp.XA hgo hg3;have hP3:=iX.pool;have hz3:=iX.keep.size;clear Gi hg3 hM hmp wN hgo hci;obtain⟨gr3,cr3,aR3,cR3,cc1,afm,afl,Z0,Wo⟩:=hP3.pM hil;obtain⟨gl3,cl3,aL3,cL3,cc0,afI,afH,WR,Wu⟩:=hP3.qR hil;have hoi:=o8 hil;have aaj:=aH hoi;clear hoi;have Zw:=aH (Aw pp h s1 f i true _ (opt s1.D (!true) i) s1.S w3 hP3 hf1 (λx hx=>by have:=kE hP3.good.wf hx;omega) (Off.lists hP3) (by simp only[Bool.not_true];rw[aaj.out.2];exact Wo));clear Wo Wu;go_upto_region 20 with(go_at_call 196;refine Zw.out.mono ?_;rintro e w4 ⟨z,rfl,hz,kH⟩)
       have Gf:=AV.go kH;have nX:=iX.trans kH;have Nz:=nX.keep.size;clear AV iX kH cc1 Z0 cc0 WR;have SK:=Gf.q;rw[<-BQ.out]at SK;rcases hz with⟨rfl,hno⟩|⟨y,hy,rfl,pO⟩
       .have ou:=aH (HI.out.keep zt.out hno)
        have hl1:=ou.out.len;rw[aj,bV]at hl1;clear hno;go_wp2_with (at_builtin;refine bQ rfl (.tmp 99) (.tmp 101) 80 rfl w.heap.size 3 i0 (.int .i64 0) 1 8 underlying80 hi0 hz0 hz1 hz2 rfl (by decide) (.slice ak B.length ck) B.length _ rfl (Gf.k.alloc _) _ 1 _ [.int .i64 (i:Int)] rfl rfl (.inr ⟨_,rfl,cK (bP _ _ _)⟩) one_cell (by unfold maxLen;omega) (by omega) (by rw[fw];omega) ?_;intro v5 w5 fI hg5 hl5)
        go_roundg ((s1.D.length-(line++[i]).length)*(s1.D.length+1)+n2)
        case measure=>
         have h1:=Qc.out.1;have h2:=qD (d:=s1.D.length) (a:=s1.D.length-line.length) (n:=n2) (m:=0) (by omega) (az _);rw[aj,bV,show s1.D.length-(line.length+1)=s1.D.length-line.length-1 by omega];omega
        case rel=>
         have h1:=Qc.out;have h2:=qD (d:=s1.D.length) (a:=s1.D.length-line.length) (n:=n2) (m:=0) (by omega) (az _);exact⟨q2,line++[i],B++[i],by rw[BQ.out];rw[BQ.out]at Gf;exact Gf.add nX.pool (bK (Below.refl _ _) _) hg5 fI (by simp) (by rw[kZ,aU];rfl) hl5,Gf.XB nX (bK (Below.refl _ _) _) hg5,ou,aH ⟨by rw[BQ.out],by rw[aj,bV,show s1.D.length-(line.length+1)=s1.D.length-line.length-1 by omega];omega⟩⟩
       .have hyl:y<s1.D.length:=by have:=kE nX.pool.good.wf hy;omega
        have ou:=aH (HI.out.pass nX.pool.good.wf zt.out hy pO);have hl1:=ou.out.len;rw[aj,bV]at hl1;have hyn:¬((y:Int)<0):=(by omega);have hol:=oK nX.pool.good (left:=true) (f:=y);obtain⟨g4,c4,aY,cY,cc0,afG,afF,WR,Wn⟩:=nX.pool.qR hyl;have HOY:=aH (o8 hyl).1;rw[<-HOY.out]at WR Wn;obtain⟨OY,ZF⟩:∃O,O=opt s1.D true y:=⟨_,rfl⟩;rw[<-ZF]at WR Wn hol;obtain⟨aY',cY',eY,hY1,hY2,hY3⟩:=Wn.out;simp only[Value.slice.injEq,bu]at eY;obtain⟨rfl,-,rfl⟩:=eY;have hsrc:=GJ hY1 hY2 hY3 w4 (Below.refl _ _);rw[bu]at hsrc;have aai:=aH ZF;clear hY1 hY2 hY3 Wn ZF hy pO HOY;go_wp2_with (at_builtin;refine bQ rfl (.tmp 105) (.tmp 112) 80 rfl w.heap.size 3 i0 (.int .i64 0) 1 8 underlying80 hi0 hz0 hz1 hz2 rfl (by decide) (.slice (some ⟨gq,0,none⟩) n2 cq) n2 _ rfl SK aY OY.length cY ((dx OY).map (Value.int .i64)) rfl (by rw[aJ,bu];omega) hsrc (kN _) (by unfold maxLen;omega) (by omega) (by omega) ?_;intro v5 w5 fI hg5 hl5)
        go_roundg ((s1.D.length-(line++[i]).length)*(s1.D.length+1)+(n2+OY.length))
        case measure=>
         have h1:=Qc.out.1;have h2:=qD (d:=s1.D.length) (a:=s1.D.length-line.length) (n:=n2) (m:=OY.length) (by omega) (by omega);rw[aj,bV,show s1.D.length-(line.length+1)=s1.D.length-line.length-1 by omega];omega
        case rel=>
         have h1:=Qc.out;have h2:=qD (d:=s1.D.length) (a:=s1.D.length-line.length) (n:=n2) (m:=OY.length) (by omega) (by omega);exact⟨q2++OY,line++[i],B,Gf.push (news:=OY) nX.pool (Below.refl _ _) hg5 fI (by rw[aj,BQ.out]) (by rw[kZ,aU]) hl5,Gf.MZ nX (Below.refl _ _) hg5,by rw[aai.out];exact ou,aH ⟨by rw[show(q2++OY).length=q2.length+OY.length from aj,BQ.out],by rw[aj,bV,show s1.D.length-(line.length+1)=s1.D.length-line.length-1 by omega];omega⟩⟩
 |false=>
  go_upto_region 5 with fail
  go_wp2
  obtain⟨O,hO⟩:∃O,O=opt s.D false f:=⟨_,rfl⟩;have hOl:O.length<=f:=by rw[hO];exact oK hP.good
  have hOm:∀x,x∈O->x<f/\bz.born (vl s.D x)<bz.born (vl s.D f):=λx hx=>by rw[hO]at hx;exact⟨kE hP.good.wf hx,nT hP.good.wf hx⟩
  have ZE:O=s.D[f].2:=by rw[hO];exact(o8 hf).2
  rw[<-ZE]at hSR ⊢;have HO:=aH hO;have HOE:=aH ZE;clear hO ZE;go_loopw [7,12,36] (λqv _ ii wr=>∃(k:Nat) (s1:iQ) (q:List Nat),k<=O.length/\ii=.int .i64 ((k:Nat):Int)/\jK pp h s w s1 wr/\gD pp h s1 w wr (w.heap.size+1) qv (.slice (some ⟨w.heap.size+1+1,0,none⟩) 0 0) q [] []/\qx s f s1/\Hid (q=(O.take k).map (λx=>(s1.cn x).getD 0)/\∀x,x∈O.take k->(s1.cn x).isSome)) (λ_ _ ii _=>O.length-(intOf ii).toNat)
  case atStart=>exact⟨0,s,[],az _,rfl,uP,hm0,qx.refl _ _,by simp[Hid]⟩
  case round=>
   obtain⟨k,s1,q,hk,rfl,hgo,hm,hG,HQ⟩:=hrel;have qU:q.length=k:=(by have:=congrArg List.length HQ.out.1;simp at this;omega);by_cases hlt:k<O.length
   .have h1:((k:Nat):Int)<((O.length:Nat):Int):=by omega
    obtain⟨-,hln,hcl⟩:=kD.at (oP.go hSR (Off.lists hP) hgo);obtain⟨b,off,rfl,hcell⟩:=hcl (by omega);have hck:=hcell k hlt;obtain⟨hi1,hi2⟩:=hOm _ (ah hlt);have hlen:=hgo.len;obtain⟨aq,cq,rfl,hqc,_⟩:=bD hm.q;have hroom1:=hG.1 (f+1) (by omega) (by omega);have hmm:=EP (show O[k]+1<=f+1 by omega) s1.cn;have IH:=aH (ih pp h s1 O[k] wr hgo.pool (by omega) (by omega) (by omega));have HS:=aH hSR;have HG:=aH hG;have HOM:=aH hi2;have hS1:=hgo.pool.small;obtain⟨kn,hkn⟩:∃n,n=q.length:=⟨_,rfl⟩;rw[<-hkn]at hqc ⊢;have hmq:=hm.q;rw[<-hkn]at hmq;have HM:=aH hm;have Bb:=aH hkn;have hkn2:kn=k:=(by omega);have hwl:=hgo.keep.size;clear hcl hcell hSR hG hmm hroom1 hm hkn qU;subst hkn2
    go_wp2_with (first
     |(go_at_call 104;refine IH.out.mono ?_;rintro e w2 ⟨s2,j,rfl,gX,hcj,hg2⟩;have uN:=(HM.out.go gX).q;rw[<-Bb.out]at uN)
     |(at_builtin;refine bQ rfl (.tmp 40) (.tmp 44) 80 rfl w.heap.size 3 i0 (.int .i64 0) 1 8 underlying80 hi0 hz0 hz1 hz2 rfl (by decide) (.slice aq kn cq) kn _ rfl (uN.alloc _) _ 1 _ [.int .i64 (j:Int)] rfl rfl (.inr ⟨_,rfl,cK (bP _ _ _)⟩) one_cell (by unfold maxLen;omega) (by omega) (by rw[fw];have:=gX.keep.size;omega) ?_;intro v5 w5 fI hg5 hl5))
    go_roundw
    case rel=>
     have hm2:=HM.out.go gX;rw[<-Bb.out]at hm2;have Jw:=hm2.push (news:=[j]) gX.pool (bK (Below.refl _ _) _) hg5 fI (by simp[Bb.out]) (by rw[kZ,aU];rfl) hl5;have h3:=Dl hlt gX.known HQ.out.2 hcj;exact⟨kn+1,s2,q++[j],by omega,by go_num,hm2.MZ (hgo.trans gX) (bK (Below.refl _ _) _) hg5,Jw,HG.out.step hP.good.wf hgo gX hg2 hi1 hf HOM.out,by rw[h3.1,<-HQ.out.1],h3.2⟩
    case measure=>simp[intOf];omega
   .have h1:¬(((k:Nat):Int)<((O.length:Nat):Int)):=by omega
    have hke:k=O.length:=(by omega);subst hke;have ZC:opt s1.D false f=O:=(by rw[HO.out];obtain⟨E,hE⟩:=hgo.more;rw[hE,oJ hf]);have Gh:qH s1.D s1.cn false f=q:=(by unfold qH;rw[ZC];have:=HQ.out.1;rw[dz]at this;exact this.symm);have LV:∀x,x∈opt s1.D false f->(s1.cn x).isSome:=λx hx=>HQ.out.2 x (by rw[dz,<-ZC];exact hx)
    have hP1:=hgo.pool;have Zj:=hP1.small;have hf1:f<s1.D.length:=aQ hf hgo.len;have Su:∀x,x∈q->x<s1.D.length:=λx hx=>by
     rw[<-Gh]at hx;obtain⟨y,hy,rfl⟩:=aI.1 hx;have:=LV y hy;cases e:s1.cn y with
     |none=>rw[e]at this;cases this
     |some j=>exact(hP1.uV.lt y j e).2
    have HC:=aH (And.intro Gh LV);have HG:=aH hG;have hI0:=aH (jd.start (D:=s1.D) (root:=f) (left:=false) Su);have Td:s1.D.length*(s1.D.length+1)+q.length<=s1.D.length*(s1.D.length+1)+s1.D.length:=(by have:=hgo.len;omega);have Vm:=aH Td;clear ZC Gh LV hG Su Td hSR;obtain⟨qq,hqq⟩:∃z,z=q:=⟨_,rfl⟩;obtain⟨wo,rfl⟩:∃wo:World,wo=wr:=⟨_,rfl⟩;go_wp2
    go_loopg [7,9,13,14,15] (s1.D.length*(s1.D.length+1)+q.length) (λgk qv kv _ _ _ wr=>∃(q1 line B:List Nat),gD pp h s1 w wr (w.heap.size+1) qv kv q1 B line/\jK pp h s w s1 wr/\Hid (jd s1.D f false q q1 line B)/\Hid (gk=(s1.D.length-line.length)*(s1.D.length+1)+q1.length/\gk<=s1.D.length*(s1.D.length+1)+s1.D.length))
    case atStart=>exact⟨q,[],[],hm,hgo,hI0,aH ⟨by simp,Vm.out⟩⟩
    case round=>
     clear hm hgo;obtain⟨q1,line,B,hm,hgo,HI,HK⟩:=hrel;rcases List.eq_nil_or_concat q1 with rfl|⟨q2,i,rfl⟩
     .obtain⟨aq,cq,rfl,hqc,_⟩:=bD hm.q
      obtain⟨ak,ck,rfl,hkc,_⟩:=bD hm.k;have Px:=HI.out.open;have hBm:∀x,x∈B->x<s1.D.length:=λx hx=>Px.lt x (Px.kept x hx).1
      have hBl:B.length<=900000:=(by have:=HI.out.wS;have:=HI.out.len;omega);have hcq:∀x,x∈q->bz.Canon (vl s1.D x):=λx hx=>by
       rw[<-HC.out.1]at hx;obtain⟨y,hy,rfl⟩:=aI.1 hx;have:=HC.out.2 y hy;cases e:s1.cn y with
       |none=>rw[e]at this;cases this
       |some j=>exact(hP1.uV.ok y j e).1
      have hcB:∀x,x∈B->bz.Canon (vl s1.D x):=λx hx=>mE hP1.good.wf Px hcq x (Px.kept x hx).1
      have Y9:=(Ints.eO hm.k (by rw[bu];omega)).sup (S:=λb=>(Value.slice ak B.length ck).ownBlock=some b) (λb hb=>(hm.k.lt b hb).2) (λb hb=>hb);have Zv:Ku pp h s1 wr (λb=>(Value.slice ak B.length ck).ownBlock=some b):=λb hb=>hm.uW b (.inr (.inr hb))
      have aat:=aH (xA pp h s1 false (.slice ak B.length ck) B _ wr hgo.pool hBm (by omega) Zv.off Y9);have HKI:=aH Y9;have Qr:=aH Zv;have HB:=aH (And.intro hBm hcB);have HNB:=aH HI.out.Dq;have HOI:=aH Px;clear Y9 Zv hBm hcB hcq Px HI
      go_wp2_with (first
       |(go_at_call 197;refine(Au _ _ (dx B) z _ hk4 Nz ZL.out.BP (λy hy=>(ZL.out.bd y hy).1) (by rw[bu];omega)).mono ?_;rintro e w5 ⟨v5,rfl,fI,hx5⟩)
       |(go_at_call 198;refine aat.out.mono ?_;rintro e w4 ⟨v4,z,rfl,He,Mi,kH⟩;have ZL:=aH Mi;have Nz:=Ints.eO He (by have:=Mi.len;omega);have hk4:=(oP.go HKI.out Qr.out.off kH).out;clear Mi))
      go_ret
      have hw4:=(hgo.trans kH).keep.size;refine⟨s1,v5,Ar B z,rfl,?_,(hgo.trans kH).ext hx5,λb hb=>?_,HG.out,⟨HC.out.2,line,B,by rw[HC.out.1];exact HOI.out,Bw hP1.good HNB.out HB.out.1 HB.out.2 ZL.out⟩,by have:=MP B z;omega⟩
      .rw[yc]at fI
       rw[bu]at fI;exact jX fI hw4
      .exact kH.pool.new (fI.lt b hb).1
     .rw[List.concat_eq_append]at hm HI HK
      have hil:i<s1.D.length:=HI.out.lt i (.inr (by simp));obtain⟨gq,cq,rfl,hqc,hqm,uM⟩:=iB hm.q (by simp);obtain⟨ak,ck,rfl,hkc,_⟩:=bD hm.k;have hq1:(q2++[i]).length=q2.length+1:=(by simp);have hci:=uM q2.length (by simp);have e0:((dx (q2++[i])).map (Value.int .i64))[q2.length]?=some (.int .i64 (i:Int)):=(by simp[dx]);rw[e0]at hci;have hbd:=Ng Zj (a:=s1.D.length-line.length) (n:=(q2++[i]).length) (by have:=HK.out.1;have:=HK.out.2;omega);rw[hq1]at hqc hbd ⊢;have hmp:=hm.pop;have hlk:=λW hW=>hm.look (x:=i) (by omega) W hW
      obtain⟨n2,hn2⟩:∃n,n=q2.length:=⟨_,rfl⟩;have Qc:=aH (show gk=(s1.D.length-line.length)*(s1.D.length+1)+(n2+1)/\gk<=s1.D.length*(s1.D.length+1)+s1.D.length by rw[hn2,<-hq1];exact HK.out);rw[<-hn2]at hci hqc hbd hmp ⊢;have BQ:=aH hn2;have wN:=hlk wr rfl;have hwr:=hgo.keep.size;have hBl:B.length<=900000:=(by have:=HI.out.wS;have:=HI.out.len;omega);have Vd:=HI.out.len;clear uM e0 hq1 hm hlk hn2 HK;by_cases hin:i∈line
      .simp only[hin,decide_true]at wN
       have zt:=aH hin;clear hin;go_wp2
       go_roundg ((s1.D.length-line.length)*(s1.D.length+1)+n2)
       case measure=>have:=Qc.out.1;omega
       case rel=>exact⟨q2,line,B,hmp,hgo,aH (HI.out.skip zt.out),aH ⟨by rw[BQ.out],by have:=Qc.out;omega⟩⟩
      .simp only[hin,decide_false]at wN
       have zt:=aH hin;clear hin;obtain⟨fm,hM,hfm⟩:=hmp.seen;have Xq:=aH hfm;have hki:=qj i (by omega);clear hfm;go_upto_region 15 with(at_mapUpdate;refine iT rfl _ _ _ 187 rfl 3 4 oD underlying187 (w.heap.size+1) line.length fm rfl hM (by unfold maxLen;omega) (.int .i64 (i:Int)) (.bool true) rfl rfl hki ?_;intro w3 Gi hg3)
       have AV:=hmp.mark Xq.out Gi hg3;have iX:=hmp.XA hgo hg3;have hP3:=iX.pool;have hz3:=iX.keep.size;clear Gi hg3 hM hmp wN hgo hci;obtain⟨gr3,cr3,aR3,cR3,cc1,afm,afl,Z0,Wo⟩:=hP3.pM hil;obtain⟨gl3,cl3,aL3,cL3,cc0,afI,afH,WR,Wu⟩:=hP3.qR hil;have hoi:=o8 hil;have aaj:=aH hoi;clear hoi;have Zw:=aH (Aw pp h s1 f i false _ (opt s1.D (!false) i) s1.S w3 hP3 hf1 (λx hx=>by have:=kE hP3.good.wf hx;omega) (Off.lists hP3) (by simp only[Bool.not_false];rw[aaj.out.1];exact Wu));clear Wo Wu;go_upto_region 20 with(go_at_call 196;refine Zw.out.mono ?_;rintro e w4 ⟨z,rfl,hz,kH⟩)
       have Gf:=AV.go kH;have nX:=iX.trans kH;have Nz:=nX.keep.size;clear AV iX kH cc1 Z0 cc0 WR;have SK:=Gf.q;rw[<-BQ.out]at SK;rcases hz with⟨rfl,hno⟩|⟨y,hy,rfl,pO⟩
       .have ou:=aH (HI.out.keep zt.out hno)
        have hl1:=ou.out.len;rw[aj,bV]at hl1;clear hno;go_wp2_with (at_builtin;refine bQ rfl (.tmp 99) (.tmp 101) 80 rfl w.heap.size 3 i0 (.int .i64 0) 1 8 underlying80 hi0 hz0 hz1 hz2 rfl (by decide) (.slice ak B.length ck) B.length _ rfl (Gf.k.alloc _) _ 1 _ [.int .i64 (i:Int)] rfl rfl (.inr ⟨_,rfl,cK (bP _ _ _)⟩) one_cell (by unfold maxLen;omega) (by omega) (by rw[fw];omega) ?_;intro v5 w5 fI hg5 hl5)
        go_roundg ((s1.D.length-(line++[i]).length)*(s1.D.length+1)+n2)
        case measure=>
         have h1:=Qc.out.1;have h2:=qD (d:=s1.D.length) (a:=s1.D.length-line.length) (n:=n2) (m:=0) (by omega) (az _);rw[aj,bV,show s1.D.length-(line.length+1)=s1.D.length-line.length-1 by omega];omega
        case rel=>
         have h1:=Qc.out;have h2:=qD (d:=s1.D.length) (a:=s1.D.length-line.length) (n:=n2) (m:=0) (by omega) (az _);exact⟨q2,line++[i],B++[i],by rw[BQ.out];rw[BQ.out]at Gf;exact Gf.add nX.pool (bK (Below.refl _ _) _) hg5 fI (by simp) (by rw[kZ,aU];rfl) hl5,Gf.XB nX (bK (Below.refl _ _) _) hg5,ou,aH ⟨by rw[BQ.out],by rw[aj,bV,show s1.D.length-(line.length+1)=s1.D.length-line.length-1 by omega];omega⟩⟩
       .have hyl:y<s1.D.length:=by have:=kE nX.pool.good.wf hy;omega
        have ou:=aH (HI.out.pass nX.pool.good.wf zt.out hy pO);have hl1:=ou.out.len;rw[aj,bV]at hl1;have hyn:¬((y:Int)<0):=(by omega);have hol:=oK nX.pool.good (left:=false) (f:=y);obtain⟨g4,c4,aY,cY,cc0,afG,afF,WR,Wn⟩:=nX.pool.pM hyl;have HOY:=aH (o8 hyl).2;rw[<-HOY.out]at WR Wn;obtain⟨OY,ZF⟩:∃O,O=opt s1.D false y:=⟨_,rfl⟩;rw[<-ZF]at WR Wn hol;obtain⟨aY',cY',eY,hY1,hY2,hY3⟩:=Wn.out;simp only[Value.slice.injEq,bu]at eY;obtain⟨rfl,-,rfl⟩:=eY;have hsrc:=GJ hY1 hY2 hY3 w4 (Below.refl _ _);rw[bu]at hsrc;have aai:=aH ZF;clear hY1 hY2 hY3 Wn ZF hy pO HOY;go_wp2_with (at_builtin;refine bQ rfl (.tmp 87) (.tmp 94) 80 rfl w.heap.size 3 i0 (.int .i64 0) 1 8 underlying80 hi0 hz0 hz1 hz2 rfl (by decide) (.slice (some ⟨gq,0,none⟩) n2 cq) n2 _ rfl SK aY OY.length cY ((dx OY).map (Value.int .i64)) rfl (by rw[aJ,bu];omega) hsrc (kN _) (by unfold maxLen;omega) (by omega) (by omega) ?_;intro v5 w5 fI hg5 hl5)
        go_roundg ((s1.D.length-(line++[i]).length)*(s1.D.length+1)+(n2+OY.length))
        case measure=>
         have h1:=Qc.out.1;have h2:=qD (d:=s1.D.length) (a:=s1.D.length-line.length) (n:=n2) (m:=OY.length) (by omega) (by omega);rw[aj,bV,show s1.D.length-(line.length+1)=s1.D.length-line.length-1 by omega];omega
        case rel=>
         have h1:=Qc.out;have h2:=qD (d:=s1.D.length) (a:=s1.D.length-line.length) (n:=n2) (m:=OY.length) (by omega) (by omega);exact⟨q2++OY,line++[i],B,Gf.push (news:=OY) nX.pool (Below.refl _ _) hg5 fI (by rw[aj,BQ.out]) (by rw[kZ,aU]) hl5,Gf.MZ nX (Below.refl _ _) hg5,by rw[aai.out];exact ou,aH ⟨by rw[show(q2++OY).length=q2.length+OY.length from aj,BQ.out],by rw[aj,bV,show s1.D.length-(line.length+1)=s1.D.length-line.length-1 by omega];omega⟩⟩
end Go.Proofs.YteknjeohbcgpdaaGreatDoor