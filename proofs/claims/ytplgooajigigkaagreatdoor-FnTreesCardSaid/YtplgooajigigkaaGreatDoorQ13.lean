/- 13 -/
import Derived.Test.YtplgooajigigkaaGreatDoorQ12
set_option maxRecDepth 100000
set_option maxHeartbeats 4000000
namespace Go.Proofs.YtplgooajigigkaaGreatDoor
open Tryz
section
open Go.RowKit
open aZ (cZ Nd vl nc cl)
theorem FN:∀l m:List Nat,Gf (bV l) (bV m)=cl l m
 |[],[]=>rfl
 |[],_ :: _=>rfl
 |_ :: _,[]=>rfl
 |a :: l,b :: m=>by
  have ih:=FN l m;simp only[bV,eF]at ih ⊢;simp only[Gf,cl,ih];by_cases h:a<b
  .rw[if_pos h,if_pos (by omega)]
  .rw[if_neg h,if_neg (by omega)]
   by_cases k:b<a
   .rw[if_pos k,if_pos (by omega)]
   .rw[if_neg k,if_neg (by omega)]
theorem wu(v1 v2 u1 u2:Value)(a b:Nd)(w:World)(h1:Ints w v1 (bV a.1))(h2:Ints w v2 (bV a.2))(k1:Ints w u1 (bV b.1))(k2:Ints w u2 (bV b.2)):
 Calls prog 121 #[.agg #[v1,v2],.agg #[u1,u2]] w λe w'=>e=.returned (.bool (decide (nc a b<0)))/\Ext w w':=by
 obtain⟨_,_,rfl,-⟩:=id h1;obtain⟨_,_,rfl,-⟩:=id h2;obtain⟨_,_,rfl,-⟩:=id k1;obtain⟨_,_,rfl,-⟩:=id k2;have hcl:=FN a.1 b.1;have hcr:=FN a.2 b.2;have hn:nc a b=if cl a.1 b.1≠0 then cl a.1 b.1 else cl a.2 b.2:=rfl
 go_enter Tryz.func121,Tryz.ntmps121
 by_cases h0:cl a.1 b.1=0
 .have hN:Hid (nc a b=cl a.2 b.2):=by rw[Hid,hn,if_neg (by simpa using h0)]
  clear hn
  go_wp2_with (first
   |(go_at_call 166;refine(wV _ _ (bV a.1) (bV b.1) _ (by refine h1.ext ?_;first|(go_grown;done)|(refine dG ?_ _;go_grown;done)) (by refine k1.ext ?_;first|(go_grown;done)|(refine dG ?_ _;go_grown;done))).mono ?_;rintro e w1 ⟨rfl,n1,rfl⟩;rw[hcl])
   |(go_at_call 166;refine(wV _ _ (bV a.2) (bV b.2) _ (by refine h2.ext ?_;first|(go_grown;done)|(refine dG ?_ _;go_grown;done)) (by refine k2.ext ?_;first|(go_grown;done)|(refine dG ?_ _;go_grown;done))).mono ?_;rintro e w1 ⟨rfl,n2,rfl⟩;rw[hcr]))
  go_ret
  refine⟨by rw[hN.out];rfl,?_⟩
  first|(refine dG ?_ _;go_grown;done)|(refine dG ?_ _;refine dG ?_ _;go_grown;done)
 .have hN:Hid (nc a b=cl a.1 b.1):=by rw[Hid,hn,if_pos h0]
  have hb:(cl a.1 b.1 == 0)=false:=by simpa using h0
  clear hn;go_wp2_with (go_at_call 166;refine(wV _ _ (bV a.1) (bV b.1) _ (by refine h1.ext ?_;first|(go_grown;done)|(refine dG ?_ _;go_grown;done)) (by refine k1.ext ?_;first|(go_grown;done)|(refine dG ?_ _;go_grown;done))).mono ?_;rintro e w1 ⟨rfl,n1,rfl⟩;rw[hcl])
  go_ret
  refine⟨by rw[hN.out];rfl,?_⟩;refine dG ?_ _;go_grown
end
section
open Go.RowKit
open aZ (cZ Nd vl)
variable {w w':World} {G K:Nat->Prop} {v L R:Value} {xs:List Value} {F:cZ} {base i:Nat}
def iD(w:World)(xs:List Value)(F:cZ)(base:Nat)(K:Nat->Prop):Prop:=
 ∀i (h:i<F.length),∃L R,xs[i*2]?=some L/\xs[i*2+1]?=some R/\Ints w L (bV (F[i]).1)/\Ints w R (bV (F[i]).2)/\
  (∀b,L.ownBlock=some b->base<=b/\b<w.heap.size/\¬K b)/\(∀b,R.ownBlock=some b->base<=b/\b<w.heap.size/\¬K b)
theorem iD.nil(w:World)(base:Nat)(K:Nat->Prop):iD w [] [] base K:=λi h=>absurd h (by simp)
theorem vM{l:List Int}(h:Ints w v l)(hk:dW G w w')(hn:∀b,v.ownBlock=some b->¬G b):Ints w' v l:=
 h.keep λb hl hb=>hk.block b (h.blk hl hb) (hn b hb)
theorem iD.keep{K':Nat->Prop}(h:iD w xs F base K)(hk:dW G w w')(hG:∀b,G b->K b)(hK:∀b,K' b->K b\/w.heap.size<=b):iD w' xs F base K':=by
 intro i hi;obtain⟨L,R,h1,h2,h3,h4,h5,h6⟩:=h i hi;have hz:=hk.size
 exact⟨L,R,h1,h2,vM h3 hk (λb hb g=>(h5 b hb).2.2 (hG b g)),vM h4 hk (λb hb g=>(h6 b hb).2.2 (hG b g)),
  λb hb=>⟨(h5 b hb).1,by have:=(h5 b hb).2.1;omega,λk=>by rcases hK b k with k|k;exact(h5 b hb).2.2 k;have:=(h5 b hb).2.1;omega⟩,
  λb hb=>⟨(h6 b hb).1,by have:=(h6 b hb).2.1;omega,λk=>by rcases hK b k with k|k;exact(h6 b hb).2.2 k;have:=(h6 b hb).2.1;omega⟩⟩
theorem iD.ext(h:iD w xs F base K)(hx:Ext w w'):iD w' xs F base K:=
 h.keep (iM (F:=λ_=>False) hx) (λ_ g=>g.elim) (λ_ k=>.inl k)
theorem getElem?_pairs{n:Nat}(hx:xs.length=n*2)(hi:i<=n)(j:Nat):
 (xs.take (i*2)++([L,R]++xs.drop (i*2)))[j]?=if j<i*2 then xs[j]? else if j=i*2 then some L else if j=i*2+1 then some R else xs[j-2]?:=by
 have hl:(xs.take (i*2)).length=i*2:=by rw[gZ];omega
 by_cases h1:j<i*2
 .rw[if_pos h1,bQ (by omega),kK,if_pos h1]
 .rw[if_neg h1,dC (by omega),hl]
  by_cases h2:j=i*2
  .rw[if_pos h2,show j-i*2=0 by omega];rfl
  .rw[if_neg h2]
   by_cases h3:j=i*2+1
   .rw[if_pos h3,show j-i*2=1 by omega];rfl
   .rw[if_neg h3,dC (by simp;omega),List.getElem?_drop]
    congr 1;simp;omega
theorem iD.insert(h:iD w xs F base K)(hx:xs.length=F.length*2){nd:Nd}(hi:i<=F.length)
 (hL:Ints w L (bV nd.1)) (hR:Ints w R (bV nd.2)) (bL:∀b,L.ownBlock=some b->base<=b/\b<w.heap.size/\¬K b) (bR:∀b,R.ownBlock=some b->base<=b/\b<w.heap.size/\¬K b):
 iD w (xs.take (i*2)++([L,R]++xs.drop (i*2))) (F.take i++nd :: F.drop i) base K:=by
 intro j hj;have hlt:(F.take i).length=i:=by rw[gZ];omega
 have hjl:j<F.length+1:=by simp at hj;omega
 rcases Nat.lt_trichotomy j i with c|c|c
 .obtain⟨L',R',h1,h2,h3⟩:=h j (by omega)
  refine⟨L',R',?_,?_,?_⟩
  .rw[getElem?_pairs hx hi,if_pos (by omega)];exact h1
  .rw[getElem?_pairs hx hi,if_pos (by omega)];exact h2
  .rw[dN (by omega),List.getElem_take];exact h3
 .subst c
  refine⟨L,R,?_,?_,?_⟩
  .rw[getElem?_pairs hx hi,if_neg (by omega),if_pos rfl]
  .rw[getElem?_pairs hx hi,if_neg (by omega),if_neg (by omega),if_pos rfl]
  .rw[fO (by omega)]
   simp only[hlt,Nat.sub_self,l5];exact⟨hL,hR,bL,bR⟩
 .obtain⟨L',R',h1,h2,h3⟩:=h (j-1) (by omega)
  refine⟨L',R',?_,?_,?_⟩
  .rw[getElem?_pairs hx hi,if_neg (by omega),if_neg (by omega),if_neg (by omega),show j*2-2=(j-1)*2 by omega];exact h1
  .rw[getElem?_pairs hx hi,if_neg (by omega),if_neg (by omega),if_neg (by omega),show j*2+1-2=(j-1)*2+1 by omega];exact h2
  .rw[fO (by omega)]
   have e:j-(F.take i).length=(j-1-i)+1:=(by omega);simp only[e,List.getElem_cons_succ,List.getElem_drop];have e2:i+(j-1-i)=j-1:=(by omega);simp only[e2];exact h3
def eZ(w:World)(base:Nat)(v:Value)(F:cZ):Prop:=∃a cap,v=.slice a F.length cap/\F.length<=cap/\F.length<=maxLen/\
 (0<F.length->∃b,a=some ⟨b,0,none⟩/\base<=b/\∀i (h:i<F.length),∃L R,w.cell? ⟨b,i*2,none⟩=some L/\w.cell? ⟨b,i*2+1,none⟩=some R/\Ints w L (bV (F[i]).1)/\Ints w R (bV (F[i]).2)/\
  (∀b,L.ownBlock=some b->base<=b/\b<w.heap.size)/\(∀b,R.ownBlock=some b->base<=b/\b<w.heap.size))
theorem eZ.ext{w w':World}{base:Nat}{v:Value}{F:cZ}(h:eZ w base v F)(hx:Ext w w'):eZ w' base v F:=by
 obtain⟨a,cap,rfl,h1,h2,h3⟩:=h;refine⟨a,cap,rfl,h1,h2,λh0=>?_⟩;obtain⟨b,rfl,hb,hc⟩:=h3 h0;refine⟨b,rfl,hb,λi hi=>?_⟩;obtain⟨L,R,c1,c2,c3,c4,c5,c6⟩:=hc i hi;have hz:=hx.size;exact⟨L,R,dP hx c1,dP hx c2,c3.ext hx,c4.ext hx,λb hb=>⟨(c5 b hb).1,by have:=(c5 b hb).2;omega⟩,λb hb=>⟨(c6 b hb).1,by have:=(c6 b hb).2;omega⟩⟩
theorem eZ.dX{e:Nat}(h:w.ownsRow base e 2 v F.length xs)(hn:iD w xs F base K):eZ w base v F:=by
 rcases pM F.length with h0|h0
 .obtain⟨a,cap,rfl,h1,h2⟩:=bu h
  exact⟨a,cap,rfl,h1,by omega,λk=>absurd k (by omega)⟩
 .obtain⟨g,cap,rfl,h1,h2,h3⟩:=gY h h0
  refine⟨_,cap,rfl,h1,by omega,λ_=>⟨g,rfl,(h.lt g rfl).1,λi hi=>?_⟩⟩;obtain⟨L,R,c1,c2,c3,c4,c5,c6⟩:=hn i hi;exact⟨L,R,by rw[h3 _ (by omega)];exact c1,by rw[h3 _ (by omega)];exact c2,c3,c4,λb hb=>⟨(c5 b hb).1,(c5 b hb).2.1⟩,λb hb=>⟨(c6 b hb).1,(c6 b hb).2.1⟩⟩
theorem eZ.weaken{base':Nat}(h:eZ w base v F)(hb:base'<=base):eZ w base' v F:=by
 obtain⟨a,cap,rfl,h1,h2,h3⟩:=h;refine⟨a,cap,rfl,h1,h2,λh0=>?_⟩;obtain⟨b,rfl,hb',hc⟩:=h3 h0;refine⟨b,rfl,by omega,λi hi=>?_⟩;obtain⟨L,R,c1,c2,c3,c4,c5,c6⟩:=hc i hi;exact⟨L,R,c1,c2,c3,c4,λb hb=>⟨by have:=(c5 b hb).1;omega,(c5 b hb).2⟩,λb hb=>⟨by have:=(c6 b hb).1;omega,(c6 b hb).2⟩⟩
theorem eZ.at{w:World}{base:Nat}{v:Value}{F:cZ}(h:eZ w base v F){i:Nat}(hi:i<F.length):
 ∃b cap aL cL aR cR,v=.slice (some ⟨b,0,none⟩) F.length cap/\F.length<=cap/\w.cell? ⟨b,i*2,none⟩=some (.slice aL (F[i]).1.length cL)/\w.cell? ⟨b,i*2+1,none⟩=some (.slice aR (F[i]).2.length cR)/\
  Ints w (.slice aL (F[i]).1.length cL) (bV (F[i]).1)/\Ints w (.slice aR (F[i]).2.length cR) (bV (F[i]).2):=by
 obtain⟨a,cap,rfl,h1,h2,h3⟩:=h;obtain⟨b,rfl,hb,hc⟩:=h3 (by omega);obtain⟨L,R,c1,c2,c3,c4,c5,c6⟩:=hc i hi;obtain⟨aL,cL,rfl,-⟩:=id c3;obtain⟨aR,cR,rfl,-⟩:=id c4;rw[aP]at c1 c2 c3 c4;exact⟨b,cap,aL,cL,aR,cR,rfl,h1,c1,c2,c3,c4⟩
theorem eZ.slice{w:World}{base:Nat}{v:Value}{F:cZ}(h:eZ w base v F):∃a c,v=.slice a F.length c:=by
 obtain⟨a,c,h,_⟩:=h;exact⟨a,c,h⟩
end
section
open Go.RowKit
open aZ (cZ Nd vl)
variable {w w' wr:World} {B e size n o pJ root:Nat} {v vN:Value} {xs:List Value} {F:cZ} {at_:List Nat}
theorem aV{G:Nat->Prop}(h:w.ownsRow B e size v n xs)(hk:dW G w w')(hn:∀b,v.ownBlock=some b->¬G b):w'.ownsRow B e size v n xs:=by
 obtain⟨hl,h⟩:=h;refine⟨hl,?_⟩;rcases h with h|⟨g,cap,cur,rfl,hb,hg,h1⟩
 .exact .inl h
 .exact .inr ⟨g,cap,cur,rfl,hb,by rw[hk.block g (fC.1 hg).1 (hn g rfl)];exact hg,h1⟩
def KF(w:World)(o pJ:Nat)(vN:Value)(b:Nat):Prop:=b=o\/b=pJ\/b=w.heap.size\/vN.ownBlock=some b
structure vZ(w wr:World)(o pJ:Nat)(vN:Value)(root:Nat)(F:cZ)(at_:List Nat):Prop where
 ext:Ext w wr
 res:wr.heap[w.heap.size]?=some (.cells #[.slice none 0 0] 30 (0,0))
 X5:wr.ownsRow w.heap.size 3 1 (.slice (some ⟨pJ,0,none⟩) (root+1) (root+1)) (root+1) ((bV at_).map (Value.int .i64))
 out:wr.heap[o]?=some (.cells #[vN] 30 (0,0))
 nodes:∃xs,wr.ownsRow w.heap.size 91 2 vN F.length xs/\iD wr xs F w.heap.size (KF w o pJ vN)
 a1:vN.ownBlock≠some o
 a2:vN.ownBlock≠some pJ
 a3:vN.ownBlock≠some w.heap.size
 a4:o≠pJ
 a5:o≠w.heap.size
 a6:pJ≠w.heap.size
 a7:w.heap.size<=o
theorem bq{b:Nat}{x:Obj}(h:w.heap[b]?=some x):b<w.heap.size:=(fC.1 h).1
theorem vZ.ext'(h:vZ w wr o pJ vN root F at_)(hx:Ext wr w'):vZ w w' o pJ vN root F at_:=by
 obtain⟨xs,h1,h2⟩:=h.nodes;exact⟨ah h.ext hx,by rw[hx.block _ (bq h.res)];exact h.res,bW h.X5 hx,by rw[hx.block _ (bq h.out)];exact h.out,⟨xs,bW h1 hx,h2.ext hx⟩,h.a1,h.a2,h.a3,h.a4,h.a5,h.a6,h.a7⟩
theorem dx{p:Addr}:dW (λb=>b=p.block) w (w.setCell p v):=⟨rfl,rfl,rfl,by simp,λk _ hn=>jH _ _ _ _ hn⟩
theorem vZ.setAt(h:vZ w wr o pJ vN root F at_)(k x:Nat):
 vZ w (wr.setCell ⟨pJ,k,none⟩ (.int .i64 (x:Int))) o pJ vN root F (at_.set k x)/\dW (KF w o pJ vN) wr (wr.setCell ⟨pJ,k,none⟩ (.int .i64 (x:Int))):=by
 have hk:=dx (w:=wr) (p:=⟨pJ,k,none⟩) (v:=.int .i64 (x:Int));obtain⟨xs,h1,h2⟩:=h.nodes;have hs:=h.X5.stored k (.int .i64 (x:Int));have hge:=(h.X5.lt pJ rfl).1;refine⟨⟨h.ext.setCell (p:=⟨pJ,k,none⟩) hge _,?_,?_,?_,⟨xs,aV h1 hk (λb hb e=>h.a2 (by rw[hb,e])),h2.keep hk (λb e=>.inr (.inl e)) (λb k=>.inl k)⟩,h.a1,h.a2,h.a3,h.a4,h.a5,h.a6,h.a7⟩,?_⟩
 .rw[jH _ _ _ _ (by exact h.a6.symm)];exact h.res
 .have e:(bV (at_.set k x)).map (Value.int .i64)=((bV at_).map (Value.int .i64)).set k (.int .i64 (x:Int)):=by simp[bV,uf]
  rw[e];exact hs.1
 .rw[jH _ _ _ _ (by exact h.a4)];exact h.out
 .exact⟨hk.os,hk.tape,hk.output,hk.size,λb hb hn=>hk.block b hb (λe=>hn (.inr (.inl e)))⟩
theorem vZ.push{wd w1:World}{Vj:Value}{nd:Nd}{L R:Value}(h:vZ w wr o pJ vN root F at_)
 (h2:iD wr xs F w.heap.size (KF w o pJ vN)) (hxl:xs.length=F.length*2) (hd:Ext wr wd) (hdz:wd.heap.size=wr.heap.size)
 (hL:Ints wr L (bV nd.1)) (hR:Ints wr R (bV nd.2)) (bL:∀b,L.ownBlock=some b->w.heap.size<=b/\b<wr.heap.size/\¬KF w o pJ vN b) (bR:∀b,R.ownBlock=some b->w.heap.size<=b/\b<wr.heap.size/\¬KF w o pJ vN b)
 (hg1:(wd.alloc (.cells #[L,R] 91)).grownBy w1 vN.ownBlock) (ho1:w1.ownsRow w.heap.size 91 2 Vj (F.length+1) (xs++[L,R])) (hl1:lY (wd.alloc (.cells #[L,R] 91)) vN Vj):
 vZ w (w1.setCell ⟨o,0,none⟩ Vj) o pJ Vj root (F++[nd]) at_/\dW (KF w o pJ vN) wr (w1.setCell ⟨o,0,none⟩ Vj)/\(∀b,KF w o pJ Vj b->KF w o pJ vN b\/wr.heap.size<=b):=by
 have hgx:Ext wr (wd.alloc (.cells #[L,R] 91)):=ah hd (by go_grown);have z1:=hg1.size;rw[eX,hdz]at z1;have hk1:dW (KF w o pJ vN) wr w1:=by
  refine⟨hg1.os.trans hgx.os,hg1.tape.trans hgx.tape,hg1.output.trans hgx.output,by omega,λk hk hn=>?_⟩;rw[hg1.block k (by rw[eX];omega) (λe=>hn (.inr (.inr (.inr e.symm))))];exact hgx.block k hk
 have hk2:dW (KF w o pJ vN) wr (w1.setCell ⟨o,0,none⟩ Vj):=by
  refine⟨hk1.os,hk1.tape,hk1.output,by rw[World.size_setCell];exact hk1.size,λk hk hn=>?_⟩;rw[jH _ _ _ _ (λe=>hn (.inl e))];exact hk1.block k hk hn
 have hK:∀b,KF w o pJ Vj b->KF w o pJ vN b\/wr.heap.size<=b:=by
  rintro b (e|e|e|e)
  .exact .inl (.inl e)
  .exact .inl (.inr (.inl e))
  .exact .inl (.inr (.inr (.inl e)))
  .rcases hl1 with h'|⟨g,h',k⟩
   .exact .inl (.inr (.inr (.inr (by rw[<-h'];exact e))))
   .rw[h']at e;injection e with e;rw[eX,hdz]at k;exact .inr (by omega)
 have zo:=bq h.out;have zr:=bq h.res;have zg:=(h.X5.lt pJ rfl);have ap:∀b,b<wr.heap.size->vN.ownBlock≠some b->Vj.ownBlock≠some b:=by
  intro b hb hn e;rcases hl1 with h'|⟨g,h',k⟩
  .exact hn (by rw[<-h'];exact e)
  .rw[h']at e;injection e with e;rw[eX,hdz]at k;omega
 have b1:∀k,k<wr.heap.size->vN.ownBlock≠some k->w1.heap[k]?=wr.heap[k]?:=by
  intro k hk hn;rw[hg1.block k (by rw[eX];omega) (λe=>hn e.symm)];exact hgx.block k hk
 have ho:w1.heap[o]?=some (.cells #[vN] 30 (0,0)):=by rw[b1 o zo h.a1];exact h.out
 have hks:=dx (w:=w1) (p:=⟨o,0,none⟩) (v:=Vj);refine⟨⟨⟨hk2.os.trans h.ext.os,hk2.tape.trans h.ext.tape,hk2.output.trans h.ext.output,df h.ext.size hk2.size,λk hk=>?_⟩,?_,?_,?_,⟨xs++[L,R],?_,?_⟩,ap o zo h.a1,ap pJ zg.2 h.a2,ap _ zr h.a3,h.a4,h.a5,h.a6,h.a7⟩,hk2,hK⟩
 .have hz:=h.ext.size
  have:¬KF w o pJ vN k:=by
   rintro(e|e|e|e)
   .have:=h.a7;omega
   .omega
   .omega
   .obtain⟨xs',ho',_⟩:=h.nodes
    have:=(ho'.lt k e).1;omega
  rw[hk2.block k (by omega) this];exact h.ext.block k hk
 .rw[jH _ _ _ _ (by exact h.a5.symm),b1 _ zr h.a3];exact h.res
 .refine aV (aV h.X5 (w':=w1) (G:=λb=>vN.ownBlock=some b) ⟨hk1.os,hk1.tape,hk1.output,hk1.size,b1⟩ (λb hb e=>?_)) hks (λb hb e=>?_)
  .simp[Value.ownBlock]at hb;subst hb;exact h.a2 e
  .simp[Value.ownBlock]at hb;subst hb;exact h.a4 e.symm
 .exact iV _ _ _ _ _ _ ho
 .refine aV (by simpa using ho1) hks (λb hb e=>ap o zo h.a1 (by rw[hb,e]))
 .have hr2:=h2.insert hxl (ax _) hL hR bL bR
  rw[dH (by omega),List.drop_of_length_le (by omega),gK,dH (ax _),List.drop_of_length_le (ax _)]at hr2;exact hr2.keep hk2 (λb k=>k) hK
structure PX(w wr:World)(K:Nat->Prop)(lv fv:Value)(from_:List Nat)(X:Nat->Nd):Prop where
 rows:∃xs,wr.ownsRow w.heap.size 91 2 lv from_.length xs/\iD wr xs (from_.map X) w.heap.size K
 Ny:wr.ownsRow w.heap.size 3 1 fv from_.length ((bV from_).map (Value.int .i64))
 k1:∀b,lv.ownBlock=some b->¬K b
 k2:∀b,fv.ownBlock=some b->¬K b
 s1:∃g cap,lv=.slice (some ⟨g,0,none⟩) from_.length cap
 s2:∃g cap,fv=.slice (some ⟨g,0,none⟩) from_.length cap
theorem PX.keep{w wr w':World}{K K' G:Nat->Prop}{lv fv:Value}{from_:List Nat}{X:Nat->Nd}(h:PX w wr K lv fv from_ X)(hk:dW G wr w')(hG:∀b,G b->K b)(hK:∀b,K' b->K b\/wr.heap.size<=b):PX w w' K' lv fv from_ X:=by
 obtain⟨xs,h1,h2⟩:=h.rows;refine⟨⟨xs,aV h1 hk (λb hb g=>h.k1 b hb (hG b g)),h2.keep hk hG hK⟩,aV h.Ny hk (λb hb g=>h.k2 b hb (hG b g)),λb hb k=>?_,λb hb k=>?_,h.s1,h.s2⟩
 .rcases hK b k with k|k
  .exact h.k1 b hb k
  .have:=(h1.lt b hb).2;omega
 .rcases hK b k with k|k
  .exact h.k2 b hb k
  .have:=(h.Ny.lt b hb).2;omega
theorem vZ.klt(h:vZ w wr o pJ vN root F at_):∀b,KF w o pJ vN b->b<wr.heap.size:=by
 obtain⟨xs,ho,_⟩:=h.nodes;rintro b (rfl|rfl|rfl|e)
 .exact bq h.out
 .exact(h.X5.lt _ rfl).2
 .exact bq h.res
 .exact(ho.lt b e).2
theorem Bp{B':Nat}(h:w.ownsRow B e size v n xs)(hb:B'<=B):w.ownsRow B' e size v n xs:=by
 obtain⟨hl,h⟩:=h;refine⟨hl,?_⟩;rcases h with h|⟨g,cap,cur,h1,hb',h2⟩
 .exact .inl h
 .exact .inr ⟨g,cap,cur,h1,by omega,h2⟩
theorem xH{W:World}{g cap:Nat}(h:w.ownsRow B e size (.slice (some ⟨g,0,none⟩) n cap) n xs)(hE:Ext w W)(s m:Nat)(hsm:s+m<=n*size):
 ∀j u,((xs.drop s).take m)[j]?=some u->W.cell? ((⟨g,s,none⟩:Addr).add j)=some u:=by
 intro j u hu;rw[kK]at hu;split at hu
 .rename_i hj
  rw[List.getElem?_drop]at hu;have hc:=(bW h hE).cellAt (s+j) (by omega);have e:(⟨g,s,none⟩:Addr).add j=⟨g,s+j,none⟩:=by simp[Addr.add]
  rw[e,hc,hu]
 .cases hu
theorem iD.one{base:Nat}{K:Nat->Prop}(h:iD w xs F base K)(hx:xs.length=F.length*2):∀u∈xs,u.oneCell'=true:=by
 intro u hu;obtain⟨j,hj,rfl⟩:=aH.1 hu;obtain⟨L,R,h1,h2,h3,h4,_⟩:=h (j / 2) (by omega);rcases Nat.mod_two_eq_zero_or_one j with c|c
 .rw[show j / 2*2=j by omega,ae hj]at h1
  injection h1 with h1;obtain⟨a,cap,e,_⟩:=h3;rw[h1,e];rfl
 .rw[show j / 2*2+1=j by omega,ae hj]at h2
  injection h2 with h2;obtain⟨a,cap,e,_⟩:=h4;rw[h2,e];rfl
end
section
open Go.RowKit
theorem KX:(prog.info? 4).map (λi=>(i.zero,i.size,i.bytes))=some (some (.bool false),1,1):=by kernel_rfl
theorem KH(n:Nat):(madeCells #[Value.bool false] n).toList=(List.replicate n false).map Value.bool:=by
 apply qQ;intro i;by_cases h:i<n
 .simp[madeCells,h,Nat.mod_one]
 .simp[madeCells,h]
theorem Rm{w:World}{B e g n cap k:Nat}{xs:List Value}(h:w.ownsRow B e 1 (.slice (some ⟨g,0,none⟩) n cap) n xs)(_hk:k<n)(x:Value):
 (w.setCell ⟨g,k,none⟩ x).ownsRow B e 1 (.slice (some ⟨g,0,none⟩) n cap) n (xs.set k x):=by
 obtain⟨hl,h2⟩:=h;refine⟨by simpa using hl,?_⟩;rcases h2 with⟨e1,_⟩|⟨g',cap',cur,e1,hb,hg,hnc,hcm,hcs,ht⟩
 .simp at e1
 .simp only[gz,bN,Addr.mk.injEq,and_true,true_and]at e1
  obtain⟨rfl,rfl⟩:=e1;refine .inr ⟨g,cap,cur.setIfInBounds k x,rfl,hb,iV _ _ _ _ _ _ hg,hnc,hcm,by simp[hcs],?_⟩;rw[Array.toList_setIfInBounds,<-ht,List.take_set]
theorem PG{a b c:World}{G:Nat->Prop}(h:Ext a b)(k:dW G b c)(hG:∀x,G x->a.heap.size<=x):Ext a c:=
 ⟨k.os.trans h.os,k.tape.trans h.tape,k.output.trans h.output,df h.size k.size,λx hx=>(k.block x (aJ hx h.size) (λg=>Nat.not_le.2 hx (hG x g))).trans (h.block x hx)⟩
end
section
open Go.RowKit
variable {F:Nat->Prop} {w0 w:World} {pc k:Nat} {cv:Value} {us:List Nat}
theorem Yo{x:Int}(h:-1000<=x/\x<=1000):wrap64 x=x:=by unfold wrap64;omega
theorem vK{G:Nat->Prop}{a b:World}(h:dW F a b)(k:∀x,F x->G x):dW G a b:=⟨h.os,h.tape,h.output,h.size,λx hx hn=>h.block x hx λe=>hn (k x e)⟩
theorem uk.keep{w':World}(c:uk w0 w pc cv us k)(h:dW F w w')(hF:∀b,F b->pc<b):uk w0 w' pc cv us k:=by
 have hz:=c.Zy;obtain⟨s,hb⟩:=c.blk;exact⟨c.code,c.small,PG c.ext h (λb hb=>by have:=hF b hb;omega),c.Zy,s,(h.block _ (bq hb) (λe=>by have:=hF _ e;omega)).trans hb⟩
theorem ab7{w1:World}{b off cap x:Nat}{ss:List ByteArray}(hv:Strs w (.slice (some ⟨b,off,none⟩) ss.length cap) ss)(hne:∀g,Value.ownBlock (.slice (some ⟨b,off,none⟩) ss.length cap)=some g->g≠pc)(hl:0<ss.length)(hg:mh w0 w w1 pc cv us k 1)(hx:x=0\/x<ss.length):∃t,t∈ss/\((x:Nat):Int)<((ss.length:Nat):Int)/\w1.cell? ⟨b,off+x,none⟩=some (.string t):=by
 have hx':x<ss.length:=by omega
 have hv1:Strs w1 (.slice (some ⟨b,off,none⟩) ss.length cap) ss:=nX.keep hv (λc hc hb=>hg.2.block c (nX.blk hv hc hb) (hne c hb));obtain⟨b',off',eb,hcl⟩:=hv1.at hl;simp only[bN,Addr.mk.injEq,and_true]at eb;obtain⟨rfl,rfl⟩:=eb;exact⟨_,aj hx',by omega,hcl x hx'⟩
theorem Ry(h:uk w0 w pc cv us k)(hk:k<=900000)(a:Option Addr)(cap:Nat)(ss:List ByteArray)(hv:Strs w (.slice a ss.length cap) ss)(hl:0<ss.length/\ss.length<=200)(hne:∀b,(Value.slice a ss.length cap).ownBlock=some b->b≠pc):
 Calls prog 85 #[.pointer (some ⟨pc,0,none⟩),.slice a ss.length cap] w λe w'=>∃t,t∈ss/\e=.returned (.string t)/\mh w0 w w' pc cv us k 1:=by
 have H:=aI h;obtain⟨b,off,rfl,hcl⟩:=hv.at hl.1;have HV:=aI hv;have HN:=aI hne;have HL:=aI hl;clear hcl h hv hne hl;go_enter Tryz.func85,Tryz.ntmps85
 go_wp2_with (go_at_call 83;refine(lD H.out (by omega) ss.length HL.out.2).mono ?_;rintro e w1 ⟨x,hx,rfl,hg⟩;obtain⟨t,ht,hxi,hcx⟩:=ab7 HV.out HN.out HL.out.1 hg hx;have HG:=aI hg;have HT:=aI ht;clear hg hx ht)
 go_ret
 exact⟨t,HT.out,rfl,HG.out⟩
theorem GH(w:World)(ss:List ByteArray)(hl:ss.length<=100):Strs (w.alloc (.cells (ss.map Value.string).toArray 9)) (.slice (some ⟨w.heap.size,0,none⟩) ss.length ss.length) ss:=by
 refine⟨_,ss.length,by rw[bH],by simp,by simp;omega,λh0=>⟨w.heap.size,0,rfl,λi hi=>?_⟩⟩;rw[gQ,bI _ w.heap.size i _ _ (0,0) (dV w _)];simp at hi ⊢
end
