/-
  Contract of the reference's l5Zero. (4 texts.)
-/
import Derived.Test.YteknjeohbcgpdaaGreatDoorK9
import Derived.Deep.DeepCutAuto
set_option maxRecDepth 100000
namespace Go.Proofs.YteknjeohbcgpdaaGreatDoor
open Tryz
section
open Go.RowKit
open bz (dC Nd vl nc cl)
theorem Gs:∀l m:List Nat,Hq (dx l) (dx m)=cl l m
 |[],[]=>rfl
 |[],_ :: _=>rfl
 |_ :: _,[]=>rfl
 |a :: l,b :: m=>by
  have ih:=Gs l m;simp only[dx,eZ]at ih ⊢;simp only[Hq,cl,ih];by_cases h:a<b
  .rw[if_pos h,if_pos (by omega)]
  .rw[if_neg h,if_neg (by omega)]
   by_cases k:b<a
   .rw[if_pos k,if_pos (by omega)]
   .rw[if_neg k,if_neg (by omega)]
theorem xe(v1 v2 u1 u2:Value)(a b:Nd)(w:World)(h1:Ints w v1 (dx a.1))(h2:Ints w v2 (dx a.2))(k1:Ints w u1 (dx b.1))(k2:Ints w u2 (dx b.2)):
 Calls prog 179 #[.agg #[v1,v2],.agg #[u1,u2]] w λe w'=>e=.returned (.bool (decide (nc a b<0)))/\Ext w w':=by
 obtain⟨_,_,rfl,-⟩:=id h1;obtain⟨_,_,rfl,-⟩:=id h2;obtain⟨_,_,rfl,-⟩:=id k1;obtain⟨_,_,rfl,-⟩:=id k2;have hcl:=Gs a.1 b.1;have hcr:=Gs a.2 b.2;have hn:nc a b=if cl a.1 b.1≠0 then cl a.1 b.1 else cl a.2 b.2:=rfl
 go_enter Tryz.func179,Tryz.ntmps179
 by_cases h0:cl a.1 b.1=0
 .have hN:Hid (nc a b=cl a.2 b.2):=by rw[Hid,hn,if_neg (by simpa using h0)]
  clear hn
  go_wp2_with (first
   |(go_at_call 209;refine(xO _ _ (dx a.1) (dx b.1) _ (by refine h1.ext ?_;first|(go_grown;done)|(refine fZ ?_ _;go_grown;done)) (by refine k1.ext ?_;first|(go_grown;done)|(refine fZ ?_ _;go_grown;done))).mono ?_;rintro e w1 ⟨rfl,n1,rfl⟩;rw[hcl])
   |(go_at_call 209;refine(xO _ _ (dx a.2) (dx b.2) _ (by refine h2.ext ?_;first|(go_grown;done)|(refine fZ ?_ _;go_grown;done)) (by refine k2.ext ?_;first|(go_grown;done)|(refine fZ ?_ _;go_grown;done))).mono ?_;rintro e w1 ⟨rfl,n2,rfl⟩;rw[hcr]))
  go_ret
  refine⟨by rw[hN.out];rfl,?_⟩
  first|(refine fZ ?_ _;go_grown;done)|(refine fZ ?_ _;refine fZ ?_ _;go_grown;done)
 .have hN:Hid (nc a b=cl a.1 b.1):=by rw[Hid,hn,if_pos h0]
  have hb:(cl a.1 b.1 == 0)=false:=by simpa using h0
  clear hn;go_wp2_with (go_at_call 209;refine(xO _ _ (dx a.1) (dx b.1) _ (by refine h1.ext ?_;first|(go_grown;done)|(refine fZ ?_ _;go_grown;done)) (by refine k1.ext ?_;first|(go_grown;done)|(refine fZ ?_ _;go_grown;done))).mono ?_;rintro e w1 ⟨rfl,n1,rfl⟩;rw[hcl])
  go_ret
  refine⟨by rw[hN.out];rfl,?_⟩;refine fZ ?_ _;go_grown
end
section
open Go.RowKit
open bz (dC Nd vl)
variable {w w':World} {G K:Nat->Prop} {v L R:Value} {xs:List Value} {F:dC} {base i:Nat}
def jg(w:World)(xs:List Value)(F:dC)(base:Nat)(K:Nat->Prop):Prop:=
 ∀i (h:i<F.length),∃L R,xs[i*2]?=some L/\xs[i*2+1]?=some R/\Ints w L (dx (F[i]).1)/\Ints w R (dx (F[i]).2)/\
  (∀b,L.ownBlock=some b->base<=b/\b<w.heap.size/\¬K b)/\(∀b,R.ownBlock=some b->base<=b/\b<w.heap.size/\¬K b)
theorem jg.nil(w:World)(base:Nat)(K:Nat->Prop):jg w [] [] base K:=λi h=>absurd h (by simp)
theorem vY{l:List Int}(h:Ints w v l)(hk:fe G w w')(hn:∀b,v.ownBlock=some b->¬G b):Ints w' v l:=
 h.keep λb hl hb=>hk.block b (h.blk hl hb) (hn b hb)
theorem jg.keep{K':Nat->Prop}(h:jg w xs F base K)(hk:fe G w w')(hG:∀b,G b->K b)(hK:∀b,K' b->K b\/w.heap.size<=b):jg w' xs F base K':=by
 intro i hi;obtain⟨L,R,h1,h2,h3,h4,h5,h6⟩:=h i hi;have hz:=hk.size
 exact⟨L,R,h1,h2,vY h3 hk (λb hb g=>(h5 b hb).2.2 (hG b g)),vY h4 hk (λb hb g=>(h6 b hb).2.2 (hG b g)),
  λb hb=>⟨(h5 b hb).1,by have:=(h5 b hb).2.1;omega,λk=>by rcases hK b k with k|k;exact(h5 b hb).2.2 k;have:=(h5 b hb).2.1;omega⟩,
  λb hb=>⟨(h6 b hb).1,by have:=(h6 b hb).2.1;omega,λk=>by rcases hK b k with k|k;exact(h6 b hb).2.2 k;have:=(h6 b hb).2.1;omega⟩⟩
theorem jg.ext(h:jg w xs F base K)(hx:Ext w w'):jg w' xs F base K:=
 h.keep (fV (F:=λ_=>False) hx) (λ_ g=>g.elim) (λ_ k=>.inl k)
theorem getElem?_pairs{n:Nat}(hx:xs.length=n*2)(hi:i<=n)(j:Nat):
 (xs.take (i*2)++([L,R]++xs.drop (i*2)))[j]?=if j<i*2 then xs[j]? else if j=i*2 then some L else if j=i*2+1 then some R else xs[j-2]?:=by
 have hl:(xs.take (i*2)).length=i*2:=by rw[ek];omega
 by_cases h1:j<i*2
 .rw[if_pos h1,dN (by omega),lI,if_pos h1]
 .rw[if_neg h1,dV (by omega),hl]
  by_cases h2:j=i*2
  .rw[if_pos h2,show j-i*2=0 by omega];rfl
  .rw[if_neg h2]
   by_cases h3:j=i*2+1
   .rw[if_pos h3,show j-i*2=1 by omega];rfl
   .rw[if_neg h3,dV (by simp;omega),p9]
    congr 1;simp;omega
theorem jg.insert(h:jg w xs F base K)(hx:xs.length=F.length*2){nd:Nd}(hi:i<=F.length)
 (hL:Ints w L (dx nd.1)) (hR:Ints w R (dx nd.2)) (bL:∀b,L.ownBlock=some b->base<=b/\b<w.heap.size/\¬K b) (bR:∀b,R.ownBlock=some b->base<=b/\b<w.heap.size/\¬K b):
 jg w (xs.take (i*2)++([L,R]++xs.drop (i*2))) (F.take i++nd :: F.drop i) base K:=by
 intro j hj;have hlt:(F.take i).length=i:=by rw[ek];omega
 have hjl:j<F.length+1:=by simp at hj;omega
 rcases qZ j i with c|c|c
 .obtain⟨L',R',h1,h2,h3⟩:=h j (by omega)
  refine⟨L',R',?_,?_,?_⟩
  .rw[getElem?_pairs hx hi,if_pos (by omega)];exact h1
  .rw[getElem?_pairs hx hi,if_pos (by omega)];exact h2
  .rw[dM (by omega),List.getElem_take];exact h3
 .subst c
  refine⟨L,R,?_,?_,?_⟩
  .rw[getElem?_pairs hx hi,if_neg (by omega),if_pos rfl]
  .rw[getElem?_pairs hx hi,if_neg (by omega),if_neg (by omega),if_pos rfl]
  .rw[eB (by omega)]
   simp only[hlt,Nat.sub_self,List.getElem_cons_zero];exact⟨hL,hR,bL,bR⟩
 .obtain⟨L',R',h1,h2,h3⟩:=h (j-1) (by omega)
  refine⟨L',R',?_,?_,?_⟩
  .rw[getElem?_pairs hx hi,if_neg (by omega),if_neg (by omega),if_neg (by omega),show j*2-2=(j-1)*2 by omega];exact h1
  .rw[getElem?_pairs hx hi,if_neg (by omega),if_neg (by omega),if_neg (by omega),show j*2+1-2=(j-1)*2+1 by omega];exact h2
  .rw[eB (by omega)]
   have e:j-(F.take i).length=(j-1-i)+1:=(by omega);simp only[e,List.getElem_cons_succ,List.getElem_drop];have e2:i+(j-1-i)=j-1:=(by omega);simp only[e2];exact h3
def eX(w:World)(base:Nat)(v:Value)(F:dC):Prop:=∃a cap,v=.slice a F.length cap/\F.length<=cap/\F.length<=maxLen/\
 (0<F.length->∃b,a=some ⟨b,0,none⟩/\base<=b/\∀i (h:i<F.length),∃L R,w.cell? ⟨b,i*2,none⟩=some L/\w.cell? ⟨b,i*2+1,none⟩=some R/\Ints w L (dx (F[i]).1)/\Ints w R (dx (F[i]).2)/\
  (∀b,L.ownBlock=some b->base<=b/\b<w.heap.size)/\(∀b,R.ownBlock=some b->base<=b/\b<w.heap.size))
theorem eX.ext{w w':World}{base:Nat}{v:Value}{F:dC}(h:eX w base v F)(hx:Ext w w'):eX w' base v F:=by
 obtain⟨a,cap,rfl,h1,h2,h3⟩:=h;refine⟨a,cap,rfl,h1,h2,λh0=>?_⟩;obtain⟨b,rfl,hb,hc⟩:=h3 h0;refine⟨b,rfl,hb,λi hi=>?_⟩;obtain⟨L,R,c1,c2,c3,c4,c5,c6⟩:=hc i hi;have hz:=hx.size;exact⟨L,R,(hx.cell (lt_of_cell c1)).trans c1,(hx.cell (lt_of_cell c2)).trans c2,c3.ext hx,c4.ext hx,λb hb=>⟨(c5 b hb).1,by have:=(c5 b hb).2;omega⟩,λb hb=>⟨(c6 b hb).1,by have:=(c6 b hb).2;omega⟩⟩
theorem eX.eO{e:Nat}(h:w.ownsRow base e 2 v F.length xs)(hn:jg w xs F base K):eX w base v F:=by
 rcases kg F.length with h0|h0
 .obtain⟨a,cap,rfl,h1,h2⟩:=bD h
  exact⟨a,cap,rfl,h1,by omega,λk=>absurd k (by omega)⟩
 .obtain⟨g,cap,rfl,h1,h2,h3⟩:=iB h h0
  refine⟨_,cap,rfl,h1,by omega,λ_=>⟨g,rfl,(h.lt g rfl).1,λi hi=>?_⟩⟩;obtain⟨L,R,c1,c2,c3,c4,c5,c6⟩:=hn i hi;exact⟨L,R,by rw[h3 _ (by omega)];exact c1,by rw[h3 _ (by omega)];exact c2,c3,c4,λb hb=>⟨(c5 b hb).1,(c5 b hb).2.1⟩,λb hb=>⟨(c6 b hb).1,(c6 b hb).2.1⟩⟩
theorem eX.weaken{base':Nat}(h:eX w base v F)(hb:base'<=base):eX w base' v F:=by
 obtain⟨a,cap,rfl,h1,h2,h3⟩:=h;refine⟨a,cap,rfl,h1,h2,λh0=>?_⟩;obtain⟨b,rfl,hb',hc⟩:=h3 h0;refine⟨b,rfl,by omega,λi hi=>?_⟩;obtain⟨L,R,c1,c2,c3,c4,c5,c6⟩:=hc i hi;exact⟨L,R,c1,c2,c3,c4,λb hb=>⟨by have:=(c5 b hb).1;omega,(c5 b hb).2⟩,λb hb=>⟨by have:=(c6 b hb).1;omega,(c6 b hb).2⟩⟩
theorem eX.at{w:World}{base:Nat}{v:Value}{F:dC}(h:eX w base v F){i:Nat}(hi:i<F.length):
 ∃b cap aL cL aR cR,v=.slice (some ⟨b,0,none⟩) F.length cap/\F.length<=cap/\w.cell? ⟨b,i*2,none⟩=some (.slice aL (F[i]).1.length cL)/\w.cell? ⟨b,i*2+1,none⟩=some (.slice aR (F[i]).2.length cR)/\
  Ints w (.slice aL (F[i]).1.length cL) (dx (F[i]).1)/\Ints w (.slice aR (F[i]).2.length cR) (dx (F[i]).2):=by
 obtain⟨a,cap,rfl,h1,h2,h3⟩:=h;obtain⟨b,rfl,hb,hc⟩:=h3 (by omega);obtain⟨L,R,c1,c2,c3,c4,c5,c6⟩:=hc i hi;obtain⟨aL,cL,rfl,-⟩:=id c3;obtain⟨aR,cR,rfl,-⟩:=id c4;rw[bu]at c1 c2 c3 c4;exact⟨b,cap,aL,cL,aR,cR,rfl,h1,c1,c2,c3,c4⟩
theorem eX.slice{w:World}{base:Nat}{v:Value}{F:dC}(h:eX w base v F):∃a c,v=.slice a F.length c:=by
 obtain⟨a,c,h,_⟩:=h;exact⟨a,c,h⟩
end
section
open Go.RowKit
open bz (dC Nd vl)
variable {w w' wr:World} {B e size n o pR root:Nat} {v vN:Value} {xs:List Value} {F:dC} {at_:List Nat} {K:Nat->Prop}
theorem bO{G:Nat->Prop}(h:w.ownsRow B e size v n xs)(hk:fe G w w')(hn:∀b,v.ownBlock=some b->¬G b):w'.ownsRow B e size v n xs:=by
 obtain⟨hl,h⟩:=h;refine⟨hl,?_⟩;rcases h with h|⟨g,cap,cur,rfl,hb,hg,h1⟩
 .exact .inl h
 .exact .inr ⟨g,cap,cur,rfl,hb,by rw[hk.block g (fH.1 hg).1 (hn g rfl)];exact hg,h1⟩
def KF(w:World)(o pR:Nat)(vN:Value)(b:Nat):Prop:=b=o\/b=pR\/b=w.heap.size\/vN.ownBlock=some b
structure wU(w wr:World)(o pR:Nat)(vN:Value)(root:Nat)(F:dC)(at_:List Nat):Prop where
 ext:Ext w wr
 res:wr.heap[w.heap.size]?=some (.cells #[.slice none 0 0] 28 (0,0))
 WW:wr.ownsRow w.heap.size 3 1 (.slice (some ⟨pR,0,none⟩) (root+1) (root+1)) (root+1) ((dx at_).map (Value.int .i64))
 out:wr.heap[o]?=some (.cells #[vN] 28 (0,0))
 nodes:∃xs,wr.ownsRow w.heap.size 89 2 vN F.length xs/\jg wr xs F w.heap.size (KF w o pR vN)
 a1:vN.ownBlock≠some o
 a2:vN.ownBlock≠some pR
 a3:vN.ownBlock≠some w.heap.size
 a4:o≠pR
 a5:o≠w.heap.size
 a6:pR≠w.heap.size
 a7:w.heap.size<=o
theorem bG{b:Nat}{x:Obj}(h:w.heap[b]?=some x):b<w.heap.size:=(fH.1 h).1
theorem wU.ext'(h:wU w wr o pR vN root F at_)(hx:Ext wr w'):wU w w' o pR vN root F at_:=by
 obtain⟨xs,h1,h2⟩:=h.nodes;exact⟨ay h.ext hx,by rw[hx.block _ (bG h.res)];exact h.res,dn h.WW hx,by rw[hx.block _ (bG h.out)];exact h.out,⟨xs,dn h1 hx,h2.ext hx⟩,h.a1,h.a2,h.a3,h.a4,h.a5,h.a6,h.a7⟩
theorem gI{p:Addr}:fe (λb=>b=p.block) w (w.setCell p v):=⟨rfl,rfl,rfl,by simp,λk _ hn=>heap_setCell_other _ _ _ _ hn⟩
theorem wU.setAt(h:wU w wr o pR vN root F at_)(k x:Nat):
 wU w (wr.setCell ⟨pR,k,none⟩ (.int .i64 (x:Int))) o pR vN root F (at_.set k x)/\fe (KF w o pR vN) wr (wr.setCell ⟨pR,k,none⟩ (.int .i64 (x:Int))):=by
 have hk:=gI (w:=wr) (p:=⟨pR,k,none⟩) (v:=.int .i64 (x:Int));obtain⟨xs,h1,h2⟩:=h.nodes;have hs:=h.WW.stored k (.int .i64 (x:Int));have hge:=(h.WW.lt pR rfl).1;refine⟨⟨h.ext.setCell (p:=⟨pR,k,none⟩) hge _,?_,?_,?_,⟨xs,bO h1 hk (λb hb e=>h.a2 (by rw[hb,e])),h2.keep hk (λb e=>.inr (.inl e)) (λb k=>.inl k)⟩,h.a1,h.a2,h.a3,h.a4,h.a5,h.a6,h.a7⟩,?_⟩
 .rw[heap_setCell_other _ _ _ _ (by exact h.a6.symm)];exact h.res
 .have e:(dx (at_.set k x)).map (Value.int .i64)=((dx at_).map (Value.int .i64)).set k (.int .i64 (x:Int)):=by simp[dx,List.map_set]
  rw[e];exact hs.1
 .rw[heap_setCell_other _ _ _ _ (by exact h.a4)];exact h.out
 .exact⟨hk.os,hk.tape,hk.output,hk.size,λb hb hn=>hk.block b hb (λe=>hn (.inr (.inl e)))⟩
theorem wU.push{wd w1:World}{U6:Value}{nd:Nd}{L R:Value}(h:wU w wr o pR vN root F at_)
 (h2:jg wr xs F w.heap.size (KF w o pR vN)) (hxl:xs.length=F.length*2) (hd:Ext wr wd) (hdz:wd.heap.size=wr.heap.size)
 (hL:Ints wr L (dx nd.1)) (hR:Ints wr R (dx nd.2)) (bL:∀b,L.ownBlock=some b->w.heap.size<=b/\b<wr.heap.size/\¬KF w o pR vN b) (bR:∀b,R.ownBlock=some b->w.heap.size<=b/\b<wr.heap.size/\¬KF w o pR vN b)
 (hg1:(wd.alloc (.cells #[L,R] 89)).grownBy w1 vN.ownBlock) (ho1:w1.ownsRow w.heap.size 89 2 U6 (F.length+1) (xs++[L,R])) (hl1:mM (wd.alloc (.cells #[L,R] 89)) vN U6):
 wU w (w1.setCell ⟨o,0,none⟩ U6) o pR U6 root (F++[nd]) at_/\fe (KF w o pR vN) wr (w1.setCell ⟨o,0,none⟩ U6)/\(∀b,KF w o pR U6 b->KF w o pR vN b\/wr.heap.size<=b):=by
 have hgx:Ext wr (wd.alloc (.cells #[L,R] 89)):=ay hd (by go_grown);have z1:=hg1.size;rw[fw,hdz]at z1;have hk1:fe (KF w o pR vN) wr w1:=by
  refine⟨hg1.os.trans hgx.os,hg1.tape.trans hgx.tape,hg1.output.trans hgx.output,by omega,λk hk hn=>?_⟩;rw[hg1.block k (by rw[fw];omega) (λe=>hn (.inr (.inr (.inr e.symm))))];exact hgx.block k hk
 have hk2:fe (KF w o pR vN) wr (w1.setCell ⟨o,0,none⟩ U6):=by
  refine⟨hk1.os,hk1.tape,hk1.output,by rw[World.size_setCell];exact hk1.size,λk hk hn=>?_⟩;rw[heap_setCell_other _ _ _ _ (λe=>hn (.inl e))];exact hk1.block k hk hn
 have hK:∀b,KF w o pR U6 b->KF w o pR vN b\/wr.heap.size<=b:=by
  rintro b (e|e|e|e)
  .exact .inl (.inl e)
  .exact .inl (.inr (.inl e))
  .exact .inl (.inr (.inr (.inl e)))
  .rcases hl1 with h'|⟨g,h',k⟩
   .exact .inl (.inr (.inr (.inr (by rw[<-h'];exact e))))
   .rw[h']at e;injection e with e;rw[fw,hdz]at k;exact .inr (by omega)
 have zo:=bG h.out;have zr:=bG h.res;have zg:=(h.WW.lt pR rfl);have ap:∀b,b<wr.heap.size->vN.ownBlock≠some b->U6.ownBlock≠some b:=by
  intro b hb hn e;rcases hl1 with h'|⟨g,h',k⟩
  .exact hn (by rw[<-h'];exact e)
  .rw[h']at e;injection e with e;rw[fw,hdz]at k;omega
 have b1:∀k,k<wr.heap.size->vN.ownBlock≠some k->w1.heap[k]?=wr.heap[k]?:=by
  intro k hk hn;rw[hg1.block k (by rw[fw];omega) (λe=>hn e.symm)];exact hgx.block k hk
 have ho:w1.heap[o]?=some (.cells #[vN] 28 (0,0)):=by rw[b1 o zo h.a1];exact h.out
 have hks:=gI (w:=w1) (p:=⟨o,0,none⟩) (v:=U6);refine⟨⟨⟨hk2.os.trans h.ext.os,hk2.tape.trans h.ext.tape,hk2.output.trans h.ext.output,bU h.ext.size hk2.size,λk hk=>?_⟩,?_,?_,?_,⟨xs++[L,R],?_,?_⟩,ap o zo h.a1,ap pR zg.2 h.a2,ap _ zr h.a3,h.a4,h.a5,h.a6,h.a7⟩,hk2,hK⟩
 .have hz:=h.ext.size
  have:¬KF w o pR vN k:=by
   rintro(e|e|e|e)
   .have:=h.a7;omega
   .omega
   .omega
   .obtain⟨xs',ho',_⟩:=h.nodes
    have:=(ho'.lt k e).1;omega
  rw[hk2.block k (by omega) this];exact h.ext.block k hk
 .rw[heap_setCell_other _ _ _ _ (by exact h.a5.symm),b1 _ zr h.a3];exact h.res
 .refine bO (bO h.WW (w':=w1) (G:=λb=>vN.ownBlock=some b) ⟨hk1.os,hk1.tape,hk1.output,hk1.size,b1⟩ (λb hb e=>?_)) hks (λb hb e=>?_)
  .simp[Value.ownBlock]at hb;subst hb;exact h.a2 e
  .simp[Value.ownBlock]at hb;subst hb;exact h.a4 e.symm
 .exact heap_setCell_same _ _ _ _ _ _ ho
 .refine bO (by simpa using ho1) hks (λb hb e=>ap o zo h.a1 (by rw[hb,e]))
 .have hr2:=h2.insert hxl (ai _) hL hR bL bR
  rw[cO (by omega),List.drop_of_length_le (by omega),bq,cO (ai _),List.drop_of_length_le (ai _)]at hr2;exact hr2.keep hk2 (λb k=>k) hK
structure GR(w wr:World)(K:Nat->Prop)(lv fv:Value)(from_:List Nat)(X:Nat->Nd):Prop where
 rows:∃xs,wr.ownsRow w.heap.size 89 2 lv from_.length xs/\jg wr xs (from_.map X) w.heap.size K
 NP:wr.ownsRow w.heap.size 3 1 fv from_.length ((dx from_).map (Value.int .i64))
 k1:∀b,lv.ownBlock=some b->¬K b
 k2:∀b,fv.ownBlock=some b->¬K b
 s1:∃g cap,lv=.slice (some ⟨g,0,none⟩) from_.length cap
 s2:∃g cap,fv=.slice (some ⟨g,0,none⟩) from_.length cap
theorem GR.keep{w wr w':World}{K K' G:Nat->Prop}{lv fv:Value}{from_:List Nat}{X:Nat->Nd}(h:GR w wr K lv fv from_ X)(hk:fe G wr w')(hG:∀b,G b->K b)(hK:∀b,K' b->K b\/wr.heap.size<=b):GR w w' K' lv fv from_ X:=by
 obtain⟨xs,h1,h2⟩:=h.rows;refine⟨⟨xs,bO h1 hk (λb hb g=>h.k1 b hb (hG b g)),h2.keep hk hG hK⟩,bO h.NP hk (λb hb g=>h.k2 b hb (hG b g)),λb hb k=>?_,λb hb k=>?_,h.s1,h.s2⟩
 .rcases hK b k with k|k
  .exact h.k1 b hb k
  .have:=(h1.lt b hb).2;omega
 .rcases hK b k with k|k
  .exact h.k2 b hb k
  .have:=(h.NP.lt b hb).2;omega
theorem GR.ext{lv fv:Value}{from_:List Nat}{X:Nat->Nd}(h:GR w wr K lv fv from_ X)(hx:Ext wr w'):GR w w' K lv fv from_ X:=
 h.keep (fV (F:=λ_=>False) hx) (λ_ g=>g.elim) (λ_ k=>.inl k)
theorem wU.klt(h:wU w wr o pR vN root F at_):∀b,KF w o pR vN b->b<wr.heap.size:=by
 obtain⟨xs,ho,_⟩:=h.nodes;rintro b (rfl|rfl|rfl|e)
 .exact bG h.out
 .exact(h.WW.lt _ rfl).2
 .exact bG h.res
 .exact(ho.lt b e).2
theorem CB{B':Nat}(h:w.ownsRow B e size v n xs)(hb:B'<=B):w.ownsRow B' e size v n xs:=by
 obtain⟨hl,h⟩:=h;refine⟨hl,?_⟩;rcases h with h|⟨g,cap,cur,h1,hb',h2⟩
 .exact .inl h
 .exact .inr ⟨g,cap,cur,h1,by omega,h2⟩
theorem yw{W:World}{g cap:Nat}(h:w.ownsRow B e size (.slice (some ⟨g,0,none⟩) n cap) n xs)(hE:Ext w W)(s m:Nat)(hsm:s+m<=n*size):
 ∀j u,((xs.drop s).take m)[j]?=some u->W.cell? ((⟨g,s,none⟩:Addr).add j)=some u:=by
 intro j u hu;rw[lI]at hu;split at hu
 .rename_i hj
  rw[p9]at hu;have hc:=(dn h hE).cellAt (s+j) (by omega);have e:(⟨g,s,none⟩:Addr).add j=⟨g,s+j,none⟩:=by simp[Addr.add]
  rw[e,hc,hu]
 .cases hu
theorem jg.one{base:Nat}(h:jg w xs F base K)(hx:xs.length=F.length*2):∀u∈xs,u.oneCell'=true:=by
 intro u hu;obtain⟨j,hj,rfl⟩:=aO.1 hu;obtain⟨L,R,h1,h2,h3,h4,_⟩:=h (j / 2) (by omega);rcases Nat.mod_two_eq_zero_or_one j with c|c
 .rw[show j / 2*2=j by omega,aa hj]at h1
  injection h1 with h1;obtain⟨a,cap,e,_⟩:=h3;rw[h1,e];rfl
 .rw[show j / 2*2+1=j by omega,aa hj]at h2
  injection h2 with h2;obtain⟨a,cap,e,_⟩:=h4;rw[h2,e];rfl
end
section
open Go.RowKit
open bz (dC Nd vl Same)
theorem Li(w:World):Calls prog 76 #[] w λe w'=>∃vN,e=.returned (.agg #[vN])/\eX w' w.heap.size vN [([],[])]/\Ext w w':=by
 have hb1:((w.alloc (.cells #[.slice (some ⟨w.heap.size+1,0,none⟩) 1 1] 28)).alloc (.cells #[.slice none 0 0,.slice none 0 0] 89)).heap[w.heap.size]?=some (.cells #[.slice (some ⟨w.heap.size+1,0,none⟩) 1 1] 28 (0,0)):=by
  rw[Below.heap_alloc _ _ _ (by simp)];exact heap_alloc_new _ _
 have hb2:((w.alloc (.cells #[.slice (some ⟨w.heap.size+1,0,none⟩) 1 1] 28)).alloc (.cells #[.slice none 0 0,.slice none 0 0] 89)).heap[w.heap.size+1]?=some (.cells #[.slice none 0 0,.slice none 0 0] 89 (0,0)):=by
  have h:=heap_alloc_new (w.alloc (.cells #[.slice (some ⟨w.heap.size+1,0,none⟩) 1 1] 28)) (.cells #[.slice none 0 0,.slice none 0 0] 89);rw[fw]at h;exact h
 have hx:Ext w ((w.alloc (.cells #[.slice (some ⟨w.heap.size+1,0,none⟩) 1 1] 28)).alloc (.cells #[.slice none 0 0,.slice none 0 0] 89)):=by go_grown
 go_enter Tryz.func76,Tryz.ntmps76
 go_wp2
 (try simp only[Exit.inBlock,Exit.then]);refine bodyPost_ret (results_cell_row rfl _ _ w.heap.size 28 _ (0,0) _ rfl hb1 underlying28 rfl (by kernel_rfl)) rfl ?_;refine⟨_,rfl,⟨_,1,rfl,ai _,by unfold maxLen;simp,λ_=>⟨w.heap.size+1,rfl,by omega,λi hi=>?_⟩⟩,hx⟩;have hi0:i=0:=by simp at hi;omega
 subst hi0;refine⟨.slice none 0 0,.slice none 0 0,cell_of_row _ _ 0 _ _ _ hb2,cell_of_row _ _ 1 _ _ _ hb2,Ints.nil _ _ _,Ints.nil _ _ _,λb hb=>?_,λb hb=>?_⟩
 .simp[Value.ownBlock]at hb
 .simp[Value.ownBlock]at hb
end
end Go.Proofs.YteknjeohbcgpdaaGreatDoor