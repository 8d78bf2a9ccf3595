/- 19 -/
import Derived.Test.YtplgooajigigkaaGreatDoorQ18
set_option maxRecDepth 100000
set_option maxHeartbeats 4000000
namespace Go.Proofs.YtplgooajigigkaaGreatDoor
open Tryz
section
open Go.RowKit
open aZ (cZ Nd vl Same)
variable {at_:List Nat} {k i:Nat} {D D' F:cZ}
def Ym(pb:Nat)(vn vb:Value)(D F:cZ)(w:World)(e:Ending)(w':World):Prop:=
 ∃v' uj wh D' at_,e=.returned v'/\Ints w' v' (bV at_)/\dK w' pb uj wh D'/\iX w w' pb vn vb D uj wh D'/\D'.length<=D.length+F.length/\at_.length=F.length/\(∀i (h:i<at_.length),at_[i]<D'.length/\Same (vl D' at_[i]) (vl F i))
theorem FW{l:List Nat}{n:Nat}(hl:∀x,x∈l->x<k)(ha:at_.length=k)(hat:∀i (h:i<at_.length),at_[i]<n):∀x,x∈l.map (λx=>at_.getD x 0)->x<n:=by
 intro x hx;obtain⟨y,hy,rfl⟩:=ay.1 hx;have:=hl y hy;rw[aO,ae (by omega),gM];exact hat y (by omega)
theorem Rc(g:aZ.WF D)(g':aZ.WF D')(hF:aZ.WF F)(hk:k<F.length)(ha:at_.length=k)(hat:∀i (h:i<at_.length),at_[i]<D.length/\Same (vl D at_[i]) (vl F i))
 (hp:jA D ((F[k]).1.map λx=>at_.getD x 0) ((F[k]).2.map λx=>at_.getD x 0) D' i):Same (vl D' i) (vl F k):=by
 have dk:F[k]?=some F[k]:=ae hk;have hw:=hF k _ dk;have key:∀x,x<k->at_.getD x 0<D.length/\Same (vl D' (at_.getD x 0)) (vl F x):=λx hx=>by
  have e:at_.getD x 0=at_[x]'(by omega):=by rw[aO,ae (by omega)];rfl
  have h:=hat x (by omega);rw[e,hp.vl g g' h.1];exact h
 rw[aZ.same_iff,aZ.oN g' hp.1,aZ.oK g' hp.1,aZ.oN hF dk,aZ.oK hF dk];refine⟨λy hy=>?_,λy hy=>?_,λy hy=>?_,λy hy=>?_⟩
 .obtain⟨x,hx,rfl⟩:=ay.1 hy
  obtain⟨z,hz,rfl⟩:=ay.1 (bU.1 hx);exact⟨_,bD hz,(key z (hw.1 z hz)).2⟩
 .obtain⟨z,hz,rfl⟩:=ay.1 hy
  exact⟨_,bD (bU.2 (bD hz)),(key z (hw.1 z hz)).2⟩
 .obtain⟨x,hx,rfl⟩:=ay.1 hy
  obtain⟨z,hz,rfl⟩:=ay.1 (bU.1 hx);exact⟨_,bD hz,(key z (hw.2 z hz)).2⟩
 .obtain⟨z,hz,rfl⟩:=ay.1 hy
  exact⟨_,bD (bU.2 (bD hz)),(key z (hw.2 z hz)).2⟩
theorem OO(g:aZ.WF D)(g':aZ.WF D')(h:∃E,D'=D++E)(hat:∀i (h:i<at_.length),at_[i]<D.length/\Same (vl D at_[i]) (vl F i)):∀i (h:i<at_.length),at_[i]<D'.length/\Same (vl D' at_[i]) (vl F i):=by
 obtain⟨E,rfl⟩:=h;intro i hi;obtain⟨a,b⟩:=hat i hi;exact⟨by simp;omega,by rw[aZ.gV g g' _ a];exact b⟩
theorem uw{P:Nat->Nat->Prop}(h:∀j (h:j<at_.length),P at_[j] j)(hi:P i at_.length):∀j (h:j<(at_++[i]).length),P (at_++[i])[j] j:=by
 intro j hj;by_cases c:j<at_.length
 .rw[dN c];exact h j c
 .have e:j=at_.length:=by simp at hj;omega
  subst e;rw[fO (ax _)];simpa using hi
theorem Uz(pb:Nat)(vn vb:Value)(D:cZ)(vf:Value)(F:cZ)(w0 w:World)(hB:oF w0 w pb vn vb D)(hf:eZ w0 0 vf F)(hF:aZ.WF F)(Cc:∀nd,nd∈F->aZ.Asc nd.1/\aZ.Asc nd.2)(hroom:D.length+F.length<=1000000):
 Calls prog 153 #[.pointer (some ⟨pb,0,none⟩),.agg #[vf]] w (Ym pb vn vb D F w):=by
 obtain⟨i0,hi0,hz0,hz1,hz2⟩:=info_parts fB;obtain⟨aF,fI,rfl,-⟩:=id hf;have hGF:=jW hF Cc;clear Cc;go_enter Tryz.func153,Tryz.ntmps153
 go_wp2
 have hE2:Ext w ((w.alloc (.cells #[.slice aF F.length fI] 30)).alloc (.cells #[] 3)):=by go_grown
 go_loopw [5,6] (λav kk wr=>∃k uj wh D' at_,k<=F.length/\kk=.int .i64 ((k:Nat):Int)/\at_.length=k/\wr.ownsRow w.heap.size 3 1 av k ((bV at_).map (Value.int .i64))/\dK wr pb uj wh D'/\iX w wr pb vn vb D uj wh D'/\D'.length<=D.length+k/\
  (∀b,av.ownBlock=some b->w.heap.size<=b/\Beside wr pb uj wh D' b)/\wr.heap[w.heap.size]?=some (.cells #[.slice aF F.length fI] 30 (0,0))/\Beside wr pb uj wh D' w.heap.size/\av.ownBlock≠some w.heap.size/\Hid (∀i (h:i<at_.length),at_[i]<D'.length/\Same (vl D' at_[i]) (vl F i))) (λ_ kk _=>F.length-(intOf kk).toNat)
 case atStart=>
  refine⟨0,vn,vb,D,[],az _,rfl,rfl,lF w _ _ (ax _) _,hB.bk.ext hE2,iX.ext hB.bk hE2,ax _,λb hb=>?_,?_,?_,?_,λi h=>absurd h (by simp)⟩
  .simp[Value.ownBlock]at hb;subst hb
   exact⟨by omega,(Beside.new hB.bk (b:=w.heap.size+1) (by omega)).Nw hB.bk hE2⟩
  .rw[gI _ _ _ (by rw[eX];omega)];exact dV _ _
  .exact(Beside.new hB.bk (ax _)).Nw hB.bk hE2
  .simp[Value.ownBlock]
 case round=>
  obtain⟨k,o7,vb1,D1,at_,hk,rfl,hal,hown,hB1,hG1,hD1,yl,jk,hbb,hne,HA⟩:=hrel;have JK:=hB.go hB1 hG1;have ahP:=bI wr w.heap.size 0 _ _ _ jk;by_cases hlt:k<F.length
  .have hlt':((k:Nat):Int)<(F.length:Int):=by omega
   obtain⟨bF,cF,aL,cL,aR,cR,he,Qf,cl,cr,Ai,Ah⟩:=hf.at hlt;simp only[gz]at he;obtain⟨rfl,-,rfl⟩:=he;have gl:(F[k]).1.length<=k/\(F[k]).2.length<=k:=by
    have h:=hGF.out.2 _ (aj hlt);have hw:=hGF.out.1 k _ (ae hlt);exact⟨iU (jN h.1) hw.1,iU (jN h.2) hw.2⟩
   have hwk:=hGF.out.1 k _ (ae hlt)
   have nZ:∀W,Ext w0 W->W.heap[w.heap.size]?=some (.cells #[.slice (some ⟨bF,0,none⟩) F.length fI] 30 (0,0))->W.cell? ⟨w.heap.size,0,none⟩=some (.slice (some ⟨bF,0,none⟩) F.length fI)/\W.cell? ⟨bF,k*2,none⟩=some (.slice aL (F[k]).1.length cL)/\W.cell? ⟨bF,k*2+1,none⟩=some (.slice aR (F[k]).2.length cR):=
    λW h1 h2=>⟨bI W w.heap.size 0 _ _ _ h2,dP h1 cl,dP h1 cr⟩
   have hS0:=nZ wr JK.ext jk;obtain⟨aA,cA,rfl,hcA,_⟩:=bu hown;have hx0:Ext wr wr.drew:=⟨rfl,rfl,rfl,ax _,λ_ _=>rfl⟩;have Je:=Ints.dX (l:=bV at_) hown (by rw[aP];have:=hB1.small;omega);have Ms:=aI Je;have HOWN:=aI hown;have HB1:=aI hB1;have Zm:=aI hG1;have Yk:=aI JK;have P8:=aI yl;have F6:=aI jk;have JN:=aI hne;have zX:=aI hal;have HD1:=aI hD1;have Yg:=aI gl;have UZ:=aI hwk;have HIL:=aI Ai;have HIR:=aI Ah;clear hown hB1 hG1 JK yl jk hne hal Je Ai Ah cl cr Qf hD1 gl hwk;go_wp2_with fail
   refine kH (λW=>W.cell? ⟨w.heap.size,0,none⟩=some (.slice (some ⟨bF,0,none⟩) F.length fI)/\W.cell? ⟨bF,k*2,none⟩=some (.slice aL (F[k]).1.length cL)/\W.cell? ⟨bF,k*2+1,none⟩=some (.slice aR (F[k]).2.length cR)) [20,21] (by kernel_rfl) hS0 (λaa=>?_);(refine jT 0 aa ?_;refine jT 1 aa ?_;refine jT 2 aa ?_;refine jT 3 aa ?_;refine jT 4 aa ?_;refine jT 5 aa ?_;refine jT 6 aa ?_;refine jT 7 aa ?_;refine jT 8 aa ?_;refine jT 10 aa ?_;refine jT 11 aa ?_;refine jT 12 aa ?_;refine jT 13 aa ?_;refine jT 14 aa ?_;refine jT 15 aa ?_;refine jT 16 aa ?_);(refine stA (i:=9) λK hK=>?_;go_simp);have hlen1:(bV (F[k]).1).length<=1000000000:=(by rw[aP];have:=Yg.out.1;omega);have Ns:(bV (F[k]).2).length<=1000000000:=(by rw[aP];have:=Yg.out.2;omega);have Uo:∀x,x∈bV (F[k]).1->0<=x/\x<(bV at_).length:=λx hx=>by obtain⟨n,hn,rfl⟩:=mo hx;have:=UZ.out.1 n hn;rw[aP,zX.out];omega
   have Un:∀x,x∈bV (F[k]).2->0<=x/\x<(bV at_).length:=λx hx=>by obtain⟨n,hn,rfl⟩:=mo hx;have:=UZ.out.2 n hn;rw[aP,zX.out];omega
   refine(qZ _ _ (bV at_) (bV (F[k]).1) _ (Ms.out.ext hx0) (HIL.out.ext (ah Yk.out.ext hx0)) Uo hlen1).mono ?_;rintro e w1 ⟨v1,rfl,hI1,hx1⟩;have BV:=ah hx0 hx1;(refine hK.out _ _ (λ_=>?_) ?_)
   .exact nZ _ (ah Yk.out.ext BV) (by rw[BV.block _ (bq F6.out)];exact F6.out)
   clear hK K;(try simp only[nP]);(refine stA (i:=17) λK hK=>?_;go_simp);refine(qZ _ _ (bV at_) (bV (F[k]).2) _ (Ms.out.ext BV) (HIR.out.ext (ah Yk.out.ext BV)) Un Ns).mono ?_;rintro e w2 ⟨v2,rfl,hI2,hx2⟩;have rq:=ah BV hx2;have yg:w2.heap[w.heap.size]?=some (.cells #[.slice (some ⟨bF,0,none⟩) F.length fI] 30 (0,0)):=(by rw[rq.block _ (bq F6.out)];exact F6.out);(refine hK.out _ _ (λ_=>?_) ?_)
   .exact nZ _ (ah Yk.out.ext rq) yg
   clear hK K;(try simp only[nP]);have LG:=hI1.ext hx2;rw[AU]at LG hI2;have hB2:=HB1.out.ext rq;have Tp:∀i (h:i<at_.length),at_[i]<D1.length:=λi h=>(HA.out i h).1
   have hG2:=Zm.out.trans (iX.ext HB1.out rq);have yj:∀b,Value.ownBlock (.slice aA k cA)=some b->w.heap.size<=b/\Beside w2 pb o7 vb1 D1 b:=λb hb=>⟨(P8.out b hb).1,(P8.out b hb).2.Nw HB1.out rq⟩
   have Db:=hbb.Nw HB1.out rq;have hown2:=bW HOWN.out rq;(refine stA (i:=18) λK hK=>?_;go_simp);refine(xM pb o7 vb1 D1 _ _ _ _ _ hB2 LG hI2 (FW UZ.out.1 zX.out Tp) (FW UZ.out.2 zX.out Tp) (by simp;have:=Yg.out.1;omega) (by simp;have:=Yg.out.2;omega) (by have:=HD1.out;omega)).mono ?_;rintro e w3 ⟨F8,qK,D2,i2,rfl,hB3,hK3,Eg,XA,hP3⟩;have gU:=iX.Rx hK3 Eg XA hP3;have oI:w3.heap[w.heap.size]?=some (.cells #[.slice (some ⟨bF,0,none⟩) F.length fI] 30 (0,0)):=(by rw[hK3.block _ (bq yg) Db.ins];exact yg);have hG3:=hG2.trans gU;have Dc:=hB.go hB3 hG3;(refine hK.out _ _ (λ_=>?_) ?_)
   .exact nZ _ Dc.ext oI
   clear hK K;(try simp only[nP]);(refine stA (i:=19) λK hK=>?_;go_simp);have hx4:Ext w3 (w3.alloc (.cells #[.int .i64 ((i2:Nat):Int)] 3)):=(by go_grown);(refine hK.out _ _ (λ_=>?_) ?_)
   .exact nZ _ (ah Dc.ext hx4) (by rw[hx4.block _ (bq oI)];exact oI)
   clear hK K;(try simp only[nP]);have hown3:=aV hown2 hK3 (λb hb=>(yj b hb).2.ins);have YI:=hG3.keep.size;refine VX [20,21] [_,_] ?_;refine dm rfl (.tmp 15) (.tmp 34) 41 rfl w.heap.size 3 i0 (.int .i64 0) 1 8 underlying41 hi0 hz0 hz1 hz2 rfl (by decide) (.slice aA k cA) k ((bV at_).map (Value.int .i64)) rfl (bW hown3 hx4) _ 1 _ [.int .i64 ((i2:Nat):Int)] rfl rfl (.inr ⟨_,rfl,dA (bY _ _ _)⟩) one_cell (by unfold maxLen;omega) (by omega) (by rw[eX];omega) ?_;intro v5 w5 ji hg5 hl5;have rC:∀b,Value.ownBlock (.slice aA k cA)=some b->w.heap.size<=b/\Beside w3 pb F8 qK D2 b:=λb hb=>⟨(yj b hb).1,(yj b hb).2.go (hown2.lt b hb).2 gU⟩
   have Tn:=Db.go (bq yg) gU;obtain⟨XI,Gc,yh,hside⟩:=Beside.row hG3 hB3 rC hx4 hg5 hl5;have Tm:=hside _ Tn;have ry:w5.heap[w.heap.size]?=some (.cells #[.slice (some ⟨bF,0,none⟩) F.length fI] 30 (0,0)):=by
    rw[hg5.block _ (by rw[eX];have:=bq oI;omega) (λe=>JN.out e.symm),hx4.block _ (bq oI)];exact oI
   have hne5:v5.ownBlock≠some w.heap.size:=by
    rcases hl5 with h|⟨g,h,h2⟩
    .rw[h];exact JN.out
    .rw[h];intro e;injection e with e;rw[eX]at h2;have:=bq oI;omega
   have hlen:D2.length<=D.length+(k+1):=by have:=hP3.len;have:=HD1.out;omega
   have hsame:Hid (∀j (h:j<(at_++[i2]).length),(at_++[i2])[j]<D2.length/\Same (vl D2 (at_++[i2])[j]) (vl F j)):=
    uw (P:=λa j=>a<D2.length/\Same (vl D2 a) (vl F j)) (OO HB1.out.good.wf hB3.good.wf gU.more HA.out) ⟨hP3.lt,by rw[zX.out];exact Rc HB1.out.good.wf hB3.good.wf hGF.out.1 hlt zX.out HA.out hP3⟩
   have H5:=aI XI;have H6:=aI Gc;have H7:=aI yh;have H8:=aI ry;have H9:=aI Tm;have H10:=aI hne5;have H11:=aI ji;have H12:=aI hlen;clear XI Gc yh ry Tm hne5 ji hlen hg5 hl5 hside rC Tn gU oI hG3 Dc hx4 hown3 hB3 hK3 Eg XA yj Db hown2 hG2 hB2 aa;(try simp only[nP]);go_wp2_with fail
   go_roundw
   case rel=>exact⟨k+1,F8,qK,D2,at_++[i2],by omega,by go_num,by rw[aK,zX.out];rfl,by simpa [bV]using H11.out,H5.out,H6.out,H12.out,H7.out,H8.out,H9.out,H10.out,hsame⟩
   case measure=>simp[intOf];omega
  .have hke:k=F.length:=by omega
   have hlt':¬(((k:Nat):Int)<(F.length:Int)):=(by omega);obtain⟨aA,cA,rfl,hcA,_⟩:=bu hown;have Je:=Ints.dX (l:=bV at_) hown (by rw[aP];have:=hB1.small;omega);have Ms:=aI Je;have HB1:=aI hB1;have Zm:=aI hG1;have Mr:=aI hke;clear hown hB1 hG1 yl jk hne Je hke;go_wp2
   go_ret
   exact⟨_,o7,vb1,D1,at_,rfl,Ms.out,HB1.out,Zm.out,by have:=Mr.out;omega,by rw[hal];exact Mr.out,HA.out⟩
def JA(pb:Nat)(vn vb:Value)(D F:cZ)(w:World)(e:Ending)(w':World):Prop:=
 ∃uj wh D' i,e=.returned (.int .i64 ((i:Nat):Int))/\dK w' pb uj wh D'/\iX w w' pb vn vb D uj wh D'/\D'.length<=D.length+F.length/\i<D'.length/\Same (vl D' i) (aZ.eQ F)
theorem DD(pb:Nat)(vn vb:Value)(D:cZ)(vf:Value)(F:cZ)(w0 w:World)(hB:oF w0 w pb vn vb D)(hf:eZ w0 0 vf F)(hF:aZ.WF F)(Cc:∀nd,nd∈F->aZ.Asc nd.1/\aZ.Asc nd.2)(h0:0<F.length)(hroom:D.length+F.length<=1000000):
 Calls prog 112 #[.pointer (some ⟨pb,0,none⟩),.agg #[vf]] w (JA pb vn vb D F w):=by
 obtain⟨aF,fI,rfl,-⟩:=id hf;have hx:Ext w (w.alloc (.cells #[.slice aF F.length fI] 30)):=by go_grown
 have hB1:=hB.ext' hx;go_enter Tryz.func112,Tryz.ntmps112
 have hwr:wrap64 ((F.length:Int)-1)=((F.length-1:Nat):Int):=by unfold wrap64;omega
 go_wp2_with (first
  |(go_at_call 153;refine(Uz pb vn vb D _ F w0 _ hB1 hf hF Cc hroom).mono ?_;rintro e w1 ⟨v1,o7,vb1,D1,at_,rfl,hI,hB2,hG2,hD2,hal,hat⟩
    have e9:(bV at_).length=F.length:=(by rw[aP,hal]);obtain⟨a1,c1,rfl,hc1,hm1,hcell⟩:=hI;rw[e9]at hc1 hm1 hcell ⊢;obtain⟨b,off,rfl,hcc⟩:=hcell h0;have hc2:=hcc (F.length-1) (by omega);rw[fD (by omega)]at hc2))
 go_ret
 have hlast:=hat (F.length-1) (by omega);exact⟨o7,vb1,D1,_,rfl,hB2,(iX.ext hB.bk hx).trans hG2,hD2,hlast.1,hlast.2⟩
theorem G8(pb:Nat)(vn vb:Value)(D:cZ)(vf:Value)(F:cZ)(w0 w:World)(hB:oF w0 w pb vn vb D)(hf:eZ w0 0 vf F)(hF:aZ.Good F)(h0:0<F.length)(hroom:D.length+F.length<=1000000):
 Calls prog 112 #[.pointer (some ⟨pb,0,none⟩),.agg #[vf]] w (JA pb vn vb D F w):=DD pb vn vb D vf F w0 w hB hf hF.wf hF.yL h0 hroom
end
section
open aZ
variable {l at_:List Nat} {D F:cZ} {k:Nat}
theorem TI{r:List Nat}{f g:Nat->Gm}(hl:∀x,x∈l->eU (f x) (g x))(hr:∀x,x∈r->eU (f x) (g x)):eU (.mk (l.map f) (r.map f)) (.mk (l.map g) (r.map g)):=by
 constructor
 .refine zV (λy hy=>?_) (λy hy=>?_)
  .obtain⟨x,hx,rfl⟩:=ay.1 hy;exact .inl ⟨g x,bD hx,(hr x hx).1⟩
  .obtain⟨x,hx,rfl⟩:=ay.1 hy;exact .inl ⟨f x,bD hx,(hl x hx).1⟩
 .refine zV (λy hy=>?_) (λy hy=>?_)
  .obtain⟨x,hx,rfl⟩:=ay.1 hy;exact .inl ⟨f x,bD hx,(hr x hx).2⟩
  .obtain⟨x,hx,rfl⟩:=ay.1 hy;exact .inl ⟨g x,bD hx,(hl x hx).2⟩
theorem XX{n:Nat}{R:Nat->Nat->Prop}(h:∀i,i<n->∃j,j∈at_/\R i j)(hu:∀i i' j,i<n->i'<n->R i j->R i' j->i=i'):n<=at_.length:=by
 classical
 have h1:∀i,∃k,i<n->∃hk:k<at_.length,R i at_[k]:=λi=>by
  by_cases c:i<n
  .obtain⟨j,hj,hr⟩:=h i c
   obtain⟨k,hk,rfl⟩:=aH.1 hj;exact⟨k,λ_=>⟨hk,hr⟩⟩
  .exact⟨0,λc'=>absurd c' c⟩
 have h2:((List.range n).map λi=>Classical.choose (h1 i)).Nodup:=by
  rw[List.Nodup,gP];refine fu (R:=λa b=>a<b) ?_ List.pairwise_lt_range;intro a b ha hb hab e;have ha':=dJ.1 ha;have hb':=dJ.1 hb;obtain⟨k1,r1⟩:=Classical.choose_spec (h1 a) ha';obtain⟨k2,r2⟩:=Classical.choose_spec (h1 b) hb';have:a=b:=hu a b _ ha' hb' r1 (by simp only[e];exact r2);omega
 have h3:=iU (n:=at_.length) h2 (λx hx=>by
  obtain⟨i,hi,rfl⟩:=ay.1 hx;exact(Classical.choose_spec (h1 i) (dJ.1 hi)).1)
 simpa using h3
theorem Cf{F':cZ}{root:Nat}(g:aZ.Good D)(hr:root<D.length)(hF:eD F')(hs:Same (eQ F') (vl D root))(hroot:root∈at_)(hc:∀j side x,j∈at_->x∈opt D side j->x∈at_):F'.length<=at_.length:=by
 have hin:∀j,aZ.Reach D root j->j∈at_:=by
  intro j h
  induction h with
  |here=>exact hroot
  | @left j k nd _ hd hk ih=>exact hc j true k ih (by simp[opt,hd];exact hk)
  | @right j k nd _ hd hk ih=>exact hc j false k ih (by simp[opt,hd];exact hk)
 refine XX (R:=λi j=>Same (vl F' i) (vl D j)) (λi hi=>?_) (λi i' j hi hi' h1 h2=>ma hF.good i i' hi hi' (fE h1 (iF h2)));obtain⟨j,_,rj,sj⟩:=rT hF.good g hr hs (hF.reach i hi);exact⟨j,hin j rj,sj⟩
structure Dl(D F:cZ)(at_:List Nat):Prop where
 lt:∀i (h:i<at_.length),at_[i]<D.length
 canon:∀i (h:i<at_.length),Canon (vl D at_[i])
 eqv:∀i (h:i<at_.length),eU (vl D at_[i]) (vl F i)
 shut:∀j side x,j∈at_->x∈opt D side j->x∈at_
theorem Dl.nil(F:cZ):Dl [] F []:=⟨λi h=>absurd h (by simp),λi h=>absurd h (by simp),λi h=>absurd h (by simp),by simp⟩
theorem Dl.next{D':cZ}{i:Nat}(g:aZ.WF D)(g':aZ.WF D')(hF:WF F)(hk:k<F.length)(ha:at_.length=k)(h:Dl D F at_)(hE:∃E,D'=D++E/\E.length<=3)(hi:i<D'.length)(hc:Canon (vl D' i))
 (he:eU (vl D' i) (.mk (((F[k]).1.map λx=>at_.getD x 0).map (vl D)) (((F[k]).2.map λx=>at_.getD x 0).map (vl D)))) (hw:Within D ((F[k]).1.map λx=>at_.getD x 0) ((F[k]).2.map λx=>at_.getD x 0) D' i):Dl D' F (at_++[i]):=by
 obtain⟨E,rfl,_⟩:=hE;have dk:F[k]?=some F[k]:=ae hk;have hwk:=hF k _ dk;have key:∀x,x<k->∃hx:x<at_.length,at_.getD x 0=at_[x]:=λx hx=>⟨by omega,by rw[aO,ae (by omega)];rfl⟩
 refine⟨uw (P:=λa _=>a<(D++E).length) (λj hj=>by have:=h.lt j hj;simp;omega) hi,uw (P:=λa _=>Canon (vl (D++E) a)) (λj hj=>by rw[gV g g' _ (h.lt j hj)];exact h.canon j hj) hc,
  uw (P:=λa j=>eU (vl (D++E) a) (vl F j)) (λj hj=>by rw[gV g g' _ (h.lt j hj)];exact h.eqv j hj) ?_,λj side x hj hx=>?_⟩
 .rw[ha]
  refine he.trans ?_;rw[mK hF dk,eP,eP];refine TI (λx hx=>?_) (λx hx=>?_)
  .obtain⟨hl,e⟩:=key x (hwk.1 x hx)
   show eU (vl D (at_.getD x 0)) _;rw[e];exact h.eqv x hl
  .obtain⟨hl,e⟩:=key x (hwk.2 x hx)
   show eU (vl D (at_.getD x 0)) _;rw[e];exact h.eqv x hl
 .have hm:∀l:List Nat,(∀x,x∈l->x<k)->∀y,y∈l.map (λx=>at_.getD x 0)->y∈at_:=λl hl y hy=>by
   obtain⟨x,hx,rfl⟩:=ay.1 hy;obtain⟨hl',e⟩:=key x (hl x hx);rw[e];exact aj hl'
  rcases aM.1 hj with hj|hj
  .have hlt:j<D.length:=by obtain⟨q,hq,rfl⟩:=aH.1 hj;exact h.lt q hq
   rw[nY hlt]at hx;exact List.mem_append_left _ (h.shut j side x hj hx)
  .obtain rfl:j=i:=by simpa using hj
   exact List.mem_append_left _ (hw (λy=>y∈at_) (λa sd y ha hy=>h.shut a sd y ha hy) (hm _ hwk.1) (hm _ hwk.2) side x hx)
theorem Jt(h:Dl D F at_)(hl:∀x,x∈l->x<k)(ha:at_.length=k):∀x,x∈l.map (λx=>at_.getD x 0)->Canon (vl D x):=by
 intro x hx;obtain⟨y,hy,rfl⟩:=ay.1 hx;have hlt:y<at_.length:=by have:=hl y hy;omega
 have e:at_.getD y 0=at_[y]:=by rw[aO,ae hlt];rfl
 rw[e];exact h.canon y hlt
end
section
open Go.RowKit
open aZ (cZ Nd vl Same Canon eU)
variable {w:World}
theorem xm{pb:Nat}{t:TypeId}(h:w.heap[pb]?=some (.cells #[.slice none 0 0,.slice none 0 0] t (0,0))):dK w pb (.slice none 0 0) (.slice none 0 0) []:=
 ⟨aZ.Good.nil,by simp,⟨t,h⟩,⟨by simp,.inl ⟨rfl,rfl⟩⟩,⟨[],⟨by simp,.inl ⟨rfl,rfl⟩⟩,λi h=>absurd h (by simp)⟩,by simp[Value.ownBlock],by simp[Value.ownBlock],by simp[Value.ownBlock]⟩
theorem eZ.set{base:Nat}{v:Value}{F:cZ}(h:eZ w base v F){p:Addr}(hp:p.block<base)(u:Value):eZ (w.setCell p u) base v F:=by
 obtain⟨a,cap,rfl,h1,h2,h3⟩:=h;refine⟨a,cap,rfl,h1,h2,λh0=>?_⟩;obtain⟨b,rfl,hb,hc⟩:=h3 h0;refine⟨b,rfl,hb,λi hi=>?_⟩;obtain⟨L,R,c1,c2,c3,c4,c5,c6⟩:=hc i hi;have e:∀k,base<=k->(w.setCell p u).heap[k]?=w.heap[k]?:=λk hk=>jH _ _ _ _ (by omega)
 exact⟨L,R,by rw[lh (w:=w) (e b hb)];exact c1,by rw[lh (w:=w) (e b hb)];exact c2,c3.keep (λb hl hb'=>e b (c5 b hb').1),c4.keep (λb hl hb'=>e b (c6 b hb').1),by simpa using c5,by simpa using c6⟩
def P9(F:cZ)(w:World)(e:Ending)(w':World):Prop:=
 ∃vN F' g,e=.returned (.agg #[vN])/\eZ w' w.heap.size vN F'/\aZ.eD F'/\Same (aZ.eQ F') g/\Canon g/\eU g (aZ.eQ F)/\F'.length<=F.length/\Ext w w'
theorem uL(vf:Value)(F:cZ)(w:World)(hf:eZ w 0 vf F)(hF:aZ.Good F)(h0:0<F.length)(hroom:3*F.length<=1000000):
 Calls prog 30 #[.agg #[vf]] w (P9 F w):=by
 obtain⟨i0,hi0,hz0,hz1,hz2⟩:=info_parts fB;obtain⟨aF,fI,rfl,-⟩:=id hf;have hGF:=aI hF;go_enter Tryz.func30,Tryz.ntmps30
 go_wp2
 obtain⟨we,Np⟩:=eu (((w.alloc (.cells #[.slice aF F.length fI] 30)).alloc (.cells #[.slice none 0 0] 30)).alloc (.cells #[.slice none 0 0,.slice none 0 0] 109));have Vr:we.heap.size=w.heap.size+3:=by rw[Np];simp
 have hb0:we.heap[w.heap.size]?=some (.cells #[.slice aF F.length fI] 30 (0,0)):=by
  rw[Np,gI _ _ _ (by simp;omega),gI _ _ _ (by simp)];exact dV _ _
 have hb1:we.heap[w.heap.size+1]?=some (.cells #[.slice none 0 0] 30 (0,0)):=by
  rw[Np,gI _ _ _ (by simp)];have h:=dV (w.alloc (.cells #[.slice aF F.length fI] 30)) (.cells #[.slice none 0 0] 30);rw[eX]at h;exact h
 have hb2:we.heap[w.heap.size+1+1]?=some (.cells #[.slice none 0 0,.slice none 0 0] 109 (0,0)):=by
  rw[Np];have h:=dV ((w.alloc (.cells #[.slice aF F.length fI] 30)).alloc (.cells #[.slice none 0 0] 30)) (.cells #[.slice none 0 0,.slice none 0 0] 109);rw[eX,eX]at h;exact h
 have hxe:Ext w we:=by rw[Np];go_grown
 have Gd:dK we (w.heap.size+1+1) (.slice none 0 0) (.slice none 0 0) []:=xm hb2;have hB:oF w we (w.heap.size+1+1) (.slice none 0 0) (.slice none 0 0) []:=⟨Gd,λb hb=>by
  rcases hb with h|h|h
  .omega
  .simp[Value.ownBlock]at h
  .simp[Value.ownBlock]at h,hxe⟩
 have hsd:∀b,b<w.heap.size+2->Beside we (w.heap.size+1+1) (.slice none 0 0) (.slice none 0 0) [] b:=λb hb=>⟨λk=>by
  rcases k with h|h|h
  .omega
  .simp[Value.ownBlock]at h
  .simp[Value.ownBlock]at h,λ⟨i,g,cap,v,hi,_⟩=>by simp at hi⟩
 rw[<-Np];have hxa:Ext we (we.alloc (.cells #[] 3)):=by go_grown
 have Sn:w.heap.size+1+1+1=we.heap.size:=by omega
 rw[Sn];have hzl:w.heap.size+2<we.heap.size:=by omega
 clear Np Vr Sn
 go_loopw [4,5] (λav kk wr=>∃k uj wh D' at_,k<=F.length/\kk=.int .i64 ((k:Nat):Int)/\at_.length=k/\wr.ownsRow we.heap.size 3 1 av k ((bV at_).map (Value.int .i64))/\dK wr (w.heap.size+1+1) uj wh D'/\iX we wr (w.heap.size+1+1) (.slice none 0 0) (.slice none 0 0) [] uj wh D'/\D'.length<=3*k/\
  (∀b,av.ownBlock=some b->we.heap.size<=b/\Beside wr (w.heap.size+1+1) uj wh D' b)/\wr.heap[w.heap.size]?=some (.cells #[.slice aF F.length fI] 30 (0,0))/\Beside wr (w.heap.size+1+1) uj wh D' w.heap.size/\wr.heap[w.heap.size+1]?=some (.cells #[.slice none 0 0] 30 (0,0))/\Beside wr (w.heap.size+1+1) uj wh D' (w.heap.size+1)/\Hid (Dl D' F at_)) (λ_ kk _=>F.length-(intOf kk).toNat)
 case atStart=>
  refine⟨0,_,_,[],[],az _,rfl,rfl,gG we _ (ax _) _,Gd.ext hxa,iX.ext Gd hxa,ax _,λb hb=>?_,?_,?_,?_,?_,Dl.nil F⟩
  .simp[Value.ownBlock]at hb;subst hb
   exact⟨ax _,(Beside.new Gd (b:=we.heap.size) (ax _)).Nw Gd hxa⟩
  .rw[hxa.block _ (by omega)];exact hb0
  .exact(hsd _ (by omega)).Nw Gd hxa
  .rw[hxa.block _ (by omega)];exact hb1
  .exact(hsd _ (by omega)).Nw Gd hxa
 case round=>
  obtain⟨k,o7,vb1,D1,at_,hk,rfl,hal,hown,hB1,hG1,hD1,yl,jk,hbb,hres,hrb,HA⟩:=hrel;have JK:=hB.go hB1 hG1;have ahP:=bI wr w.heap.size 0 _ _ _ jk;by_cases hlt:k<F.length
  .have hlt':((k:Nat):Int)<(F.length:Int):=by omega
   obtain⟨bF,cF,aL,cL,aR,cR,he,Qf,cl,cr,Ai,Ah⟩:=hf.at hlt;simp only[gz]at he;obtain⟨rfl,-,rfl⟩:=he;have gl:=Eh hGF.out hlt;have hwk:=hGF.out.wf k _ (ae hlt)
   have nZ:∀W,Ext w W->W.heap[w.heap.size]?=some (.cells #[.slice (some ⟨bF,0,none⟩) F.length fI] 30 (0,0))->W.cell? ⟨w.heap.size,0,none⟩=some (.slice (some ⟨bF,0,none⟩) F.length fI)/\W.cell? ⟨bF,k*2,none⟩=some (.slice aL (F[k]).1.length cL)/\W.cell? ⟨bF,k*2+1,none⟩=some (.slice aR (F[k]).2.length cR):=
    λW h1 h2=>⟨bI W w.heap.size 0 _ _ _ h2,dP h1 cl,dP h1 cr⟩
   have hS0:=nZ wr JK.ext jk;obtain⟨aA,cA,rfl,hcA,_⟩:=bu hown;have hx0:Ext wr wr.drew:=⟨rfl,rfl,rfl,ax _,λ_ _=>rfl⟩;have Je:=Ints.dX (l:=bV at_) hown (by rw[aP];have:=hB1.small;omega);have Ms:=aI Je;have HOWN:=aI hown;have HB1:=aI hB1;have Zm:=aI hG1;have Yk:=aI JK;have P8:=aI yl;have F6:=aI jk;have P5:=aI hres;have zX:=aI hal;have HD1:=aI hD1;have Yg:=aI gl;have UZ:=aI hwk;have HIL:=aI Ai;have HIR:=aI Ah;clear hown hB1 hG1 JK yl jk hres hal Je Ai Ah cl cr Qf hD1 gl hwk;go_wp2_with fail
   refine kH (λW=>W.cell? ⟨w.heap.size,0,none⟩=some (.slice (some ⟨bF,0,none⟩) F.length fI)/\W.cell? ⟨bF,k*2,none⟩=some (.slice aL (F[k]).1.length cL)/\W.cell? ⟨bF,k*2+1,none⟩=some (.slice aR (F[k]).2.length cR)) [20,21] (by kernel_rfl) hS0 (λaa=>?_);(refine jT 0 aa ?_;refine jT 1 aa ?_;refine jT 2 aa ?_;refine jT 3 aa ?_;refine jT 4 aa ?_;refine jT 5 aa ?_;refine jT 6 aa ?_;refine jT 7 aa ?_;refine jT 8 aa ?_;refine jT 10 aa ?_;refine jT 11 aa ?_;refine jT 12 aa ?_;refine jT 13 aa ?_;refine jT 14 aa ?_;refine jT 15 aa ?_;refine jT 16 aa ?_);(refine stA (i:=9) λK hK=>?_;go_simp);have hlen1:(bV (F[k]).1).length<=1000000000:=(by rw[aP];have:=Yg.out.1;omega);have Ns:(bV (F[k]).2).length<=1000000000:=(by rw[aP];have:=Yg.out.2;omega);have Uo:∀x,x∈bV (F[k]).1->0<=x/\x<(bV at_).length:=λx hx=>by obtain⟨n,hn,rfl⟩:=mo hx;have:=UZ.out.1 n hn;rw[aP,zX.out];omega
   have Un:∀x,x∈bV (F[k]).2->0<=x/\x<(bV at_).length:=λx hx=>by obtain⟨n,hn,rfl⟩:=mo hx;have:=UZ.out.2 n hn;rw[aP,zX.out];omega
   refine(qZ _ _ (bV at_) (bV (F[k]).1) _ (Ms.out.ext hx0) (HIL.out.ext (ah Yk.out.ext hx0)) Uo hlen1).mono ?_;rintro e w1 ⟨v1,rfl,hI1,hx1⟩;have BV:=ah hx0 hx1;(refine hK.out _ _ (λ_=>?_) ?_)
   .exact nZ _ (ah Yk.out.ext BV) (by rw[BV.block _ (bq F6.out)];exact F6.out)
   clear hK K;(try simp only[nP]);(refine stA (i:=17) λK hK=>?_;go_simp);refine(qZ _ _ (bV at_) (bV (F[k]).2) _ (Ms.out.ext BV) (HIR.out.ext (ah Yk.out.ext BV)) Un Ns).mono ?_;rintro e w2 ⟨v2,rfl,hI2,hx2⟩;have rq:=ah BV hx2;have yg:w2.heap[w.heap.size]?=some (.cells #[.slice (some ⟨bF,0,none⟩) F.length fI] 30 (0,0)):=(by rw[rq.block _ (bq F6.out)];exact F6.out);(refine hK.out _ _ (λ_=>?_) ?_)
   .exact nZ _ (ah Yk.out.ext rq) yg
   clear hK K;(try simp only[nP]);have LG:=hI1.ext hx2;rw[AU]at LG hI2;have hB2:=HB1.out.ext rq;have Tp:∀i (h:i<at_.length),at_[i]<D1.length:=HA.out.lt;have hG2:=Zm.out.trans (iX.ext HB1.out rq);have yj:∀b,Value.ownBlock (.slice aA k cA)=some b->we.heap.size<=b/\Beside w2 (w.heap.size+1+1) o7 vb1 D1 b:=λb hb=>⟨(P8.out b hb).1,(P8.out b hb).2.Nw HB1.out rq⟩
   have Db:=hbb.Nw HB1.out rq;have hown2:=bW HOWN.out rq;(refine stA (i:=18) λK hK=>?_;go_simp);refine(KL (w.heap.size+1+1) o7 vb1 D1 _ _ _ _ _ hB2 LG hI2 (FW UZ.out.1 zX.out Tp) (FW UZ.out.2 zX.out Tp) (by simp;have:=Yg.out.1;omega) (by simp;have:=Yg.out.2;omega) (by have:=HD1.out;omega) (Jt HA.out UZ.out.1 zX.out) (Jt HA.out UZ.out.2 zX.out)).mono ?_;rintro e w3 ⟨F8,qK,D2,i2,rfl,hB3,hK3,Eg,XA,pG,hi3,hC3,Vw,hW3⟩;have gU:iX w2 w3 (w.heap.size+1+1) o7 vb1 D1 F8 qK D2:=⟨hK3,Eg,XA,by obtain⟨E,h,_⟩:=pG;exact⟨E,h⟩⟩;have oI:w3.heap[w.heap.size]?=some (.cells #[.slice (some ⟨bF,0,none⟩) F.length fI] 30 (0,0)):=(by rw[hK3.block _ (bq yg) Db.ins];exact yg);have hG3:=hG2.trans gU;have Dc:=hB.go hB3 hG3;(refine hK.out _ _ (λ_=>?_) ?_)
   .exact nZ _ Dc.ext oI
   clear hK K;(try simp only[nP]);(refine stA (i:=19) λK hK=>?_;go_simp);have hx4:Ext w3 (w3.alloc (.cells #[.int .i64 ((i2:Nat):Int)] 3)):=(by go_grown);(refine hK.out _ _ (λ_=>?_) ?_)
   .exact nZ _ (ah Dc.ext hx4) (by rw[hx4.block _ (bq oI)];exact oI)
   clear hK K;(try simp only[nP]);have hown3:=aV hown2 hK3 (λb hb=>(yj b hb).2.ins);have YI:=hG3.keep.size;refine VX [20,21] [_,_] ?_;refine dm rfl (.tmp 16) (.tmp 35) 41 rfl we.heap.size 3 i0 (.int .i64 0) 1 8 underlying41 hi0 hz0 hz1 hz2 rfl (by decide) (.slice aA k cA) k ((bV at_).map (Value.int .i64)) rfl (bW hown3 hx4) _ 1 _ [.int .i64 ((i2:Nat):Int)] rfl rfl (.inr ⟨_,rfl,dA (bY _ _ _)⟩) one_cell (by unfold maxLen;omega) (by omega) (by rw[eX];omega) ?_;intro v5 w5 ji hg5 hl5;have rC:∀b,Value.ownBlock (.slice aA k cA)=some b->we.heap.size<=b/\Beside w3 (w.heap.size+1+1) F8 qK D2 b:=λb hb=>⟨(yj b hb).1,(yj b hb).2.go (hown2.lt b hb).2 gU⟩
   have Tn:=Db.go (bq yg) gU;obtain⟨XI,Gc,yh,hside⟩:=Beside.row hG3 hB3 rC hx4 hg5 hl5;have Tm:=hside _ Tn;have ry:w5.heap[w.heap.size]?=some (.cells #[.slice (some ⟨bF,0,none⟩) F.length fI] 30 (0,0)):=by
    rw[hg5.block _ (by rw[eX];have:=bq oI;omega) (λe=>by have:=(rC _ e.symm).1;omega),hx4.block _ (bq oI)];exact oI
   have acA:=(hrb.Nw HB1.out rq).go (aJ (bq P5.out) rq.size) gU;have oH:w3.heap[w.heap.size+1]?=some (.cells #[.slice none 0 0] 30 (0,0)):=by
    rw[hK3.block _ (aJ (bq P5.out) rq.size) (hrb.Nw HB1.out rq).ins,rq.block _ (bq P5.out)];exact P5.out
   have Pg:=hside _ acA;have Ed:w5.heap[w.heap.size+1]?=some (.cells #[.slice none 0 0] 30 (0,0)):=by
    rw[hg5.block _ (by rw[eX];have:=bq oH;omega) (λe=>by have:=(rC _ e.symm).1;omega),hx4.block _ (bq oH)];exact oH
   have hlen:D2.length<=3*(k+1):=(by obtain⟨E,rfl,hE⟩:=pG;have:=HD1.out;simp;omega);have hsame:Hid (Dl D2 F (at_++[i2])):=Dl.next HB1.out.good.wf hB3.good.wf hGF.out.wf hlt zX.out HA.out pG hi3 hC3 Vw hW3;have H5:=aI XI;have H6:=aI Gc;have H7:=aI yh;have H8:=aI ry;have H9:=aI Tm;have H10:=aI Ed;have VO:=aI Pg;have H11:=aI ji;have H12:=aI hlen;clear XI Gc yh ry Tm Ed Pg oH acA ji hlen hg5 hl5 hside rC Tn gU oI hG3 Dc hx4 hown3 hB3 hK3 Eg XA pG hi3 hC3 Vw hW3 yj Db hown2 hG2 hB2 aa;(try simp only[nP]);go_wp2_with fail
   go_roundw
   case rel=>exact⟨k+1,F8,qK,D2,at_++[i2],by omega,by go_num,by rw[aK,zX.out];rfl,by simpa [bV]using H11.out,H5.out,H6.out,H12.out,H7.out,H8.out,H9.out,H10.out,VO.out,hsame⟩
   case measure=>simp[intOf];omega
  .have hke:k=F.length:=by omega
   have hlt':¬(((k:Nat):Int)<(F.length:Int)):=(by omega);obtain⟨ga,ca,rfl,hca,_,hcell⟩:=gY hown (by omega);have hlast:k-1<at_.length:=(by omega);have hc1:wr.cell? ⟨ga,k-1,none⟩=some (.int .i64 ((at_[k-1]:Nat):Int)):=(by rw[hcell _ (by omega)];simp[bV,hlast]);have hrl:=HA.out.lt _ hlast;have hrc:=HA.out.canon _ hlast;have hre:=HA.out.eqv _ hlast;have hrm:at_[k-1]∈at_:=aj hlast;generalize hroot:at_[k-1]=root at *;have HA':=yD hrc hre hrm;have P8:=aI yl;have Zm:=aI hG1;have Mr:=aI hke;have zX:=aI hal;have YI:=hG1.keep.size;have hwk:wrap64 ((k:Int)-1)=((k-1:Nat):Int):=(by unfold wrap64;omega);have YW:((k-1:Nat):Int)<(k:Int):=(by omega);clear hcell yl hG1 hal hroot hrc hre hrm hown hke
   go_wp2_with (first
    |(go_at_call 70;refine(Cg _ o7 vb1 D1 root _ hB1 hrl).mono ?_;rintro e w7 ⟨vN,F',rfl,hN7,hIF,hS7,hx7⟩
      obtain⟨aN,cN,rfl,-⟩:=id hN7;have BX:w7.heap[w.heap.size+1]?=some (.cells #[.slice none 0 0] 30 (0,0)):=(by rw[hx7.block _ (bq hres)];exact hres);have cr7:=bI w7 (w.heap.size+1) 0 _ _ _ BX;have fr7:=iW w7 (w.heap.size+1) 0 _ _ BX;have hh:=iV w7 (w.heap.size+1) 0 _ _ (.slice aN F'.length cN) BX;have HH:Hid ((w7.setCell ⟨w.heap.size+1,0,none⟩ (.slice aN F'.length cN)).heap[w.heap.size+1]?=some (.cells #[.slice aN F'.length cN] 30 (0,0))):=hh;clear hh))
   (try simp only[Exit.inBlock,Exit.then]);refine bodyPost_ret (results_cell_row rfl _ _ (w.heap.size+1) 30 #[.slice aN F'.length cN] (0,0) _ rfl HH.out underlying30 rfl (by kernel_rfl)) rfl ?_;obtain⟨hrc,hre,hrm⟩:=HA'.out;have Y9:Ext w w7:=ah JK.ext hx7;have hN8:=(hN7.set (p:=⟨w.heap.size+1,0,none⟩) (by show w.heap.size+1<wr.heap.size;exact bq hres) (.slice aN F'.length cN)).weaken (base':=w.heap.size) JK.ext.size;have hsm:=Cf hB1.good hrl hIF hS7 hrm HA.out.shut;refine⟨_,F',_,rfl,hN8,hIF,hS7,hrc,?_,by have:=zX.out;have:=Mr.out;omega,oG Y9 (w.heap.size+1) 0 _⟩;have e:k-1=F.length-1:=(by have:=Mr.out;omega);rw[e]at hre;exact hre
end
