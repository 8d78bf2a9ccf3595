/-
  Contract of the reference's l5Zero. (5 texts.)
-/
import Derived.Test.YteknjeohbcgpdaaGreatDoorK3
import Derived.Test.YteknjeohbcgpdaaGreatDoorK8
import Derived.Test.YteknjeohbcgpdaaGreatDoorK9
import Derived.Deep.DeepCutAuto
import Derived.Deep.CutBlock
set_option maxRecDepth 100000
namespace Go.Proofs.YteknjeohbcgpdaaGreatDoor
open Tryz
section
open Go.RowKit
open bO (dH Nd vl nc cl)
theorem Hz:∀l m:List Nat,I1 (dD l) (dD m)=cl l m
 |[],[]=>rfl
 |[],_ :: _=>rfl
 |_ :: _,[]=>rfl
 |a :: l,b :: m=>by
  have ih:=Hz l m;simp only[dD,lM]at ih ⊢;simp only[I1,cl,ih];by_cases h:a<b
  .rw[if_pos h,if_pos (by omega)]
  .rw[if_neg h,if_neg (by omega)]
   by_cases k:b<a
   .rw[if_pos k,if_pos (by omega)]
   .rw[if_neg k,if_neg (by omega)]
theorem xR(v1 v2 u1 u2:Value)(a b:Nd)(w:World)(h1:Ints w v1 (dD a.1))(h2:Ints w v2 (dD a.2))(k1:Ints w u1 (dD b.1))(k2:Ints w u2 (dD b.2)):
 Calls prog 179 #[.agg #[v1,v2],.agg #[u1,u2]] w λe w'=>e=.returned (.bool (decide (nc a b<0)))/\Ext w w':=by
 obtain⟨_,_,rfl,-⟩:=id h1;obtain⟨_,_,rfl,-⟩:=id h2;obtain⟨_,_,rfl,-⟩:=id k1;obtain⟨_,_,rfl,-⟩:=id k2;have hcl:=Hz a.1 b.1;have hcr:=Hz a.2 b.2;have hn:nc a b=if cl a.1 b.1≠0 then cl a.1 b.1 else cl a.2 b.2:=rfl
 go_enter Tryz.func179,Tryz.ntmps179
 by_cases h0:cl a.1 b.1=0
 .have hN:Hid (nc a b=cl a.2 b.2):=by rw[Hid,hn,if_neg (by simpa using h0)]
  clear hn
  go_wp2_with (first
   |(go_at_call 209;refine(yC _ _ (dD a.1) (dD b.1) _ (by refine h1.ext ?_;first|(go_grown;done)|(refine fA ?_ _;go_grown;done)) (by refine k1.ext ?_;first|(go_grown;done)|(refine fA ?_ _;go_grown;done))).mono ?_;rintro e w1 ⟨rfl,n1,rfl⟩;rw[hcl])
   |(go_at_call 209;refine(yC _ _ (dD a.2) (dD b.2) _ (by refine h2.ext ?_;first|(go_grown;done)|(refine fA ?_ _;go_grown;done)) (by refine k2.ext ?_;first|(go_grown;done)|(refine fA ?_ _;go_grown;done))).mono ?_;rintro e w1 ⟨rfl,n2,rfl⟩;rw[hcr]))
  go_ret
  refine⟨by rw[hN.out];rfl,?_⟩
  first|(refine fA ?_ _;go_grown;done)|(refine fA ?_ _;refine fA ?_ _;go_grown;done)
 .have hN:Hid (nc a b=cl a.1 b.1):=by rw[Hid,hn,if_pos h0]
  have hb:(cl a.1 b.1 == 0)=false:=by simpa using h0
  clear hn;go_wp2_with (go_at_call 209;refine(yC _ _ (dD a.1) (dD b.1) _ (by refine h1.ext ?_;first|(go_grown;done)|(refine fA ?_ _;go_grown;done)) (by refine k1.ext ?_;first|(go_grown;done)|(refine fA ?_ _;go_grown;done))).mono ?_;rintro e w1 ⟨rfl,n1,rfl⟩;rw[hcl])
  go_ret
  refine⟨by rw[hN.out];rfl,?_⟩;refine fA ?_ _;go_grown
end
section
open Go.RowKit
open bO (dH Nd vl)
variable {w w':World} {G K:Nat->Prop} {v L R:Value} {xs:List Value} {F:dH} {base i:Nat}
def jd(w:World)(xs:List Value)(F:dH)(base:Nat)(K:Nat->Prop):Prop:=
 ∀i (h:i<F.length),∃L R,xs[i*2]?=some L/\xs[i*2+1]?=some R/\Ints w L (dD (F[i]).1)/\Ints w R (dD (F[i]).2)/\
  (∀b,L.ownBlock=some b->base<=b/\b<w.heap.size/\¬K b)/\(∀b,R.ownBlock=some b->base<=b/\b<w.heap.size/\¬K b)
theorem jd.nil(w:World)(base:Nat)(K:Nat->Prop):jd w [] [] base K:=λi h=>absurd h (by simp)
theorem xm{l:List Int}(h:Ints w v l)(hk:dX G w w')(hn:∀b,v.ownBlock=some b->¬G b):Ints w' v l:=
 h.keep λb hl hb=>hk.block b (h.blk hl hb) (hn b hb)
theorem jd.keep{K':Nat->Prop}(h:jd w xs F base K)(hk:dX G w w')(hG:∀b,G b->K b)(hK:∀b,K' b->K b\/w.heap.size<=b):jd w' xs F base K':=by
 intro i hi;obtain⟨L,R,h1,h2,h3,h4,h5,h6⟩:=h i hi;have hz:=hk.size
 exact⟨L,R,h1,h2,xm h3 hk (λb hb g=>(h5 b hb).2.2 (hG b g)),xm h4 hk (λb hb g=>(h6 b hb).2.2 (hG b g)),
  λb hb=>⟨(h5 b hb).1,by have:=(h5 b hb).2.1;omega,λk=>by rcases hK b k with k|k;exact(h5 b hb).2.2 k;have:=(h5 b hb).2.1;omega⟩,
  λb hb=>⟨(h6 b hb).1,by have:=(h6 b hb).2.1;omega,λk=>by rcases hK b k with k|k;exact(h6 b hb).2.2 k;have:=(h6 b hb).2.1;omega⟩⟩
theorem jd.ext(h:jd w xs F base K)(hx:Ext w w'):jd w' xs F base K:=
 h.keep (fq (F:=λ_=>False) hx) (λ_ g=>g.elim) (λ_ k=>.inl k)
theorem getElem?_pairs{n:Nat}(hx:xs.length=n*2)(hi:i<=n)(j:Nat):
 (xs.take (i*2)++([L,R]++xs.drop (i*2)))[j]?=if j<i*2 then xs[j]? else if j=i*2 then some L else if j=i*2+1 then some R else xs[j-2]?:=by
 have hl:(xs.take (i*2)).length=i*2:=by rw[dI];omega
 by_cases h1:j<i*2
 .rw[if_pos h1,dN (by omega),il,if_pos h1]
 .rw[if_neg h1,dW (by omega),hl]
  by_cases h2:j=i*2
  .rw[if_pos h2,show j-i*2=0 by omega];rfl
  .rw[if_neg h2]
   by_cases h3:j=i*2+1
   .rw[if_pos h3,show j-i*2=1 by omega];rfl
   .rw[if_neg h3,dW (by simp;omega),ym]
    congr 1;simp;omega
theorem jd.insert(h:jd w xs F base K)(hx:xs.length=F.length*2){nd:Nd}(hi:i<=F.length)
 (hL:Ints w L (dD nd.1)) (hR:Ints w R (dD nd.2)) (bL:∀b,L.ownBlock=some b->base<=b/\b<w.heap.size/\¬K b) (bR:∀b,R.ownBlock=some b->base<=b/\b<w.heap.size/\¬K b):
 jd w (xs.take (i*2)++([L,R]++xs.drop (i*2))) (F.take i++nd :: F.drop i) base K:=by
 intro j hj;have hlt:(F.take i).length=i:=by rw[dI];omega
 have hjl:j<F.length+1:=by simp at hj;omega
 rcases Nat.lt_trichotomy j i with c|c|c
 .obtain⟨L',R',h1,h2,h3⟩:=h j (by omega)
  refine⟨L',R',?_,?_,?_⟩
  .rw[getElem?_pairs hx hi,if_pos (by omega)];exact h1
  .rw[getElem?_pairs hx hi,if_pos (by omega)];exact h2
  .rw[dw (by omega),List.getElem_take];exact h3
 .subst c
  refine⟨L,R,?_,?_,?_⟩
  .rw[getElem?_pairs hx hi,if_neg (by omega),if_pos rfl]
  .rw[getElem?_pairs hx hi,if_neg (by omega),if_neg (by omega),if_pos rfl]
  .rw[dU (by omega)]
   simp only[hlt,Nat.sub_self,List.getElem_cons_zero];exact⟨hL,hR,bL,bR⟩
 .obtain⟨L',R',h1,h2,h3⟩:=h (j-1) (by omega)
  refine⟨L',R',?_,?_,?_⟩
  .rw[getElem?_pairs hx hi,if_neg (by omega),if_neg (by omega),if_neg (by omega),show j*2-2=(j-1)*2 by omega];exact h1
  .rw[getElem?_pairs hx hi,if_neg (by omega),if_neg (by omega),if_neg (by omega),show j*2+1-2=(j-1)*2+1 by omega];exact h2
  .rw[dU (by omega)]
   have e:j-(F.take i).length=(j-1-i)+1:=(by omega);simp only[e,List.getElem_cons_succ,rT];have e2:i+(j-1-i)=j-1:=(by omega);simp only[e2];exact h3
def fu(w:World)(base:Nat)(v:Value)(F:dH):Prop:=∃a cap,v=.slice a F.length cap/\F.length<=cap/\F.length<=maxLen/\
 (0<F.length->∃b,a=some ⟨b,0,none⟩/\base<=b/\∀i (h:i<F.length),∃L R,w.cell? ⟨b,i*2,none⟩=some L/\w.cell? ⟨b,i*2+1,none⟩=some R/\Ints w L (dD (F[i]).1)/\Ints w R (dD (F[i]).2)/\
  (∀b,L.ownBlock=some b->base<=b/\b<w.heap.size)/\(∀b,R.ownBlock=some b->base<=b/\b<w.heap.size))
theorem fu.ext{w w':World}{base:Nat}{v:Value}{F:dH}(h:fu w base v F)(hx:Ext w w'):fu w' base v F:=by
 obtain⟨a,cap,rfl,h1,h2,h3⟩:=h;refine⟨a,cap,rfl,h1,h2,λh0=>?_⟩;obtain⟨b,rfl,hb,hc⟩:=h3 h0;refine⟨b,rfl,hb,λi hi=>?_⟩;obtain⟨L,R,c1,c2,c3,c4,c5,c6⟩:=hc i hi;have hz:=hx.size;exact⟨L,R,(hx.cell (lt_of_cell c1)).trans c1,(hx.cell (lt_of_cell c2)).trans c2,c3.ext hx,c4.ext hx,λb hb=>⟨(c5 b hb).1,by have:=(c5 b hb).2;omega⟩,λb hb=>⟨(c6 b hb).1,by have:=(c6 b hb).2;omega⟩⟩
theorem fu.eD{e:Nat}(h:w.ownsRow base e 2 v F.length xs)(hn:jd w xs F base K):fu w base v F:=by
 rcases qi F.length with h0|h0
 .obtain⟨a,cap,rfl,h1,h2⟩:=bH h
  exact⟨a,cap,rfl,h1,by omega,λk=>absurd k (by omega)⟩
 .obtain⟨g,cap,rfl,h1,h2,h3⟩:=gV h h0
  refine⟨_,cap,rfl,h1,by omega,λ_=>⟨g,rfl,(h.lt g rfl).1,λi hi=>?_⟩⟩;obtain⟨L,R,c1,c2,c3,c4,c5,c6⟩:=hn i hi;exact⟨L,R,by rw[h3 _ (by omega)];exact c1,by rw[h3 _ (by omega)];exact c2,c3,c4,λb hb=>⟨(c5 b hb).1,(c5 b hb).2.1⟩,λb hb=>⟨(c6 b hb).1,(c6 b hb).2.1⟩⟩
theorem fu.weaken{base':Nat}(h:fu w base v F)(hb:base'<=base):fu w base' v F:=by
 obtain⟨a,cap,rfl,h1,h2,h3⟩:=h;refine⟨a,cap,rfl,h1,h2,λh0=>?_⟩;obtain⟨b,rfl,hb',hc⟩:=h3 h0;refine⟨b,rfl,by omega,λi hi=>?_⟩;obtain⟨L,R,c1,c2,c3,c4,c5,c6⟩:=hc i hi;exact⟨L,R,c1,c2,c3,c4,λb hb=>⟨by have:=(c5 b hb).1;omega,(c5 b hb).2⟩,λb hb=>⟨by have:=(c6 b hb).1;omega,(c6 b hb).2⟩⟩
theorem fu.at{w:World}{base:Nat}{v:Value}{F:dH}(h:fu w base v F){i:Nat}(hi:i<F.length):
 ∃b cap aL cL aR cR,v=.slice (some ⟨b,0,none⟩) F.length cap/\F.length<=cap/\w.cell? ⟨b,i*2,none⟩=some (.slice aL (F[i]).1.length cL)/\w.cell? ⟨b,i*2+1,none⟩=some (.slice aR (F[i]).2.length cR)/\
  Ints w (.slice aL (F[i]).1.length cL) (dD (F[i]).1)/\Ints w (.slice aR (F[i]).2.length cR) (dD (F[i]).2):=by
 obtain⟨a,cap,rfl,h1,h2,h3⟩:=h;obtain⟨b,rfl,hb,hc⟩:=h3 (by omega);obtain⟨L,R,c1,c2,c3,c4,c5,c6⟩:=hc i hi;obtain⟨aL,cL,rfl,-⟩:=id c3;obtain⟨aR,cR,rfl,-⟩:=id c4;rw[bJ]at c1 c2 c3 c4;exact⟨b,cap,aL,cL,aR,cR,rfl,h1,c1,c2,c3,c4⟩
theorem fu.slice{w:World}{base:Nat}{v:Value}{F:dH}(h:fu w base v F):∃a c,v=.slice a F.length c:=by
 obtain⟨a,c,h,_⟩:=h;exact⟨a,c,h⟩
end
section
open Go.RowKit
open bO (dH Nd vl)
variable {w w' wr:World} {B e size n o jk root:Nat} {v vN:Value} {xs:List Value} {F:dH} {at_:List Nat} {K:Nat->Prop}
theorem bI{G:Nat->Prop}(h:w.ownsRow B e size v n xs)(hk:dX G w w')(hn:∀b,v.ownBlock=some b->¬G b):w'.ownsRow B e size v n xs:=by
 obtain⟨hl,h⟩:=h;refine⟨hl,?_⟩;rcases h with h|⟨g,cap,cur,rfl,hb,hg,h1⟩
 .exact .inl h
 .exact .inr ⟨g,cap,cur,rfl,hb,by rw[hk.block g (fB.1 hg).1 (hn g rfl)];exact hg,h1⟩
def KF(w:World)(o jk:Nat)(vN:Value)(b:Nat):Prop:=b=o\/b=jk\/b=w.heap.size\/vN.ownBlock=some b
structure xP(w wr:World)(o jk:Nat)(vN:Value)(root:Nat)(F:dH)(at_:List Nat):Prop where
 ext:Ext w wr
 res:wr.heap[w.heap.size]?=some (.cells #[.slice none 0 0] 28 (0,0))
 ZI:wr.ownsRow w.heap.size 3 1 (.slice (some ⟨jk,0,none⟩) (root+1) (root+1)) (root+1) ((dD at_).map (Value.int .i64))
 out:wr.heap[o]?=some (.cells #[vN] 28 (0,0))
 nodes:∃xs,wr.ownsRow w.heap.size 89 2 vN F.length xs/\jd wr xs F w.heap.size (KF w o jk vN)
 a1:vN.ownBlock≠some o
 a2:vN.ownBlock≠some jk
 a3:vN.ownBlock≠some w.heap.size
 a4:o≠jk
 a5:o≠w.heap.size
 a6:jk≠w.heap.size
 a7:w.heap.size<=o
theorem bu{b:Nat}{x:Obj}(h:w.heap[b]?=some x):b<w.heap.size:=(fB.1 h).1
theorem xP.ext'(h:xP w wr o jk vN root F at_)(hx:Ext wr w'):xP w w' o jk vN root F at_:=by
 obtain⟨xs,h1,h2⟩:=h.nodes;exact⟨ax h.ext hx,by rw[hx.block _ (bu h.res)];exact h.res,bY h.ZI hx,by rw[hx.block _ (bu h.out)];exact h.out,⟨xs,bY h1 hx,h2.ext hx⟩,h.a1,h.a2,h.a3,h.a4,h.a5,h.a6,h.a7⟩
theorem dV{p:Addr}:dX (λb=>b=p.block) w (w.setCell p v):=⟨rfl,rfl,rfl,by simp,λk _ hn=>heap_setCell_other _ _ _ _ hn⟩
theorem xP.setAt(h:xP w wr o jk vN root F at_)(k x:Nat):
 xP w (wr.setCell ⟨jk,k,none⟩ (.int .i64 (x:Int))) o jk vN root F (at_.set k x)/\dX (KF w o jk vN) wr (wr.setCell ⟨jk,k,none⟩ (.int .i64 (x:Int))):=by
 have hk:=dV (w:=wr) (p:=⟨jk,k,none⟩) (v:=.int .i64 (x:Int));obtain⟨xs,h1,h2⟩:=h.nodes;have hs:=h.ZI.stored k (.int .i64 (x:Int));have hge:=(h.ZI.lt jk rfl).1;refine⟨⟨h.ext.setCell (p:=⟨jk,k,none⟩) hge _,?_,?_,?_,⟨xs,bI h1 hk (λb hb e=>h.a2 (by rw[hb,e])),h2.keep hk (λb e=>.inr (.inl e)) (λb k=>.inl k)⟩,h.a1,h.a2,h.a3,h.a4,h.a5,h.a6,h.a7⟩,?_⟩
 .rw[heap_setCell_other _ _ _ _ (by exact h.a6.symm)];exact h.res
 .have e:(dD (at_.set k x)).map (Value.int .i64)=((dD at_).map (Value.int .i64)).set k (.int .i64 (x:Int)):=by simp[dD,oq]
  rw[e];exact hs.1
 .rw[heap_setCell_other _ _ _ _ (by exact h.a4)];exact h.out
 .exact⟨hk.os,hk.tape,hk.output,hk.size,λb hb hn=>hk.block b hb (λe=>hn (.inr (.inl e)))⟩
theorem xP.push{wd w1:World}{XC:Value}{nd:Nd}{L R:Value}(h:xP w wr o jk vN root F at_)
 (h2:jd wr xs F w.heap.size (KF w o jk vN)) (hxl:xs.length=F.length*2) (hd:Ext wr wd) (hdz:wd.heap.size=wr.heap.size)
 (hL:Ints wr L (dD nd.1)) (hR:Ints wr R (dD nd.2)) (bL:∀b,L.ownBlock=some b->w.heap.size<=b/\b<wr.heap.size/\¬KF w o jk vN b) (bR:∀b,R.ownBlock=some b->w.heap.size<=b/\b<wr.heap.size/\¬KF w o jk vN b)
 (hg1:(wd.alloc (.cells #[L,R] 89)).grownBy w1 vN.ownBlock) (ho1:w1.ownsRow w.heap.size 89 2 XC (F.length+1) (xs++[L,R])) (hl1:kR (wd.alloc (.cells #[L,R] 89)) vN XC):
 xP w (w1.setCell ⟨o,0,none⟩ XC) o jk XC root (F++[nd]) at_/\dX (KF w o jk vN) wr (w1.setCell ⟨o,0,none⟩ XC)/\(∀b,KF w o jk XC b->KF w o jk vN b\/wr.heap.size<=b):=by
 have hgx:Ext wr (wd.alloc (.cells #[L,R] 89)):=ax hd (by go_grown);have z1:=hg1.size;rw[eQ,hdz]at z1;have hk1:dX (KF w o jk vN) wr w1:=by
  refine⟨hg1.os.trans hgx.os,hg1.tape.trans hgx.tape,hg1.output.trans hgx.output,by omega,λk hk hn=>?_⟩;rw[hg1.block k (by rw[eQ];omega) (λe=>hn (.inr (.inr (.inr e.symm))))];exact hgx.block k hk
 have hk2:dX (KF w o jk vN) wr (w1.setCell ⟨o,0,none⟩ XC):=by
  refine⟨hk1.os,hk1.tape,hk1.output,by rw[World.size_setCell];exact hk1.size,λk hk hn=>?_⟩;rw[heap_setCell_other _ _ _ _ (λe=>hn (.inl e))];exact hk1.block k hk hn
 have hK:∀b,KF w o jk XC b->KF w o jk vN b\/wr.heap.size<=b:=by
  rintro b (e|e|e|e)
  .exact .inl (.inl e)
  .exact .inl (.inr (.inl e))
  .exact .inl (.inr (.inr (.inl e)))
  .rcases hl1 with h'|⟨g,h',k⟩
   .exact .inl (.inr (.inr (.inr (by rw[<-h'];exact e))))
   .rw[h']at e;injection e with e;rw[eQ,hdz]at k;exact .inr (by omega)
 have zo:=bu h.out;have zr:=bu h.res;have zg:=(h.ZI.lt jk rfl);have ap:∀b,b<wr.heap.size->vN.ownBlock≠some b->XC.ownBlock≠some b:=by
  intro b hb hn e;rcases hl1 with h'|⟨g,h',k⟩
  .exact hn (by rw[<-h'];exact e)
  .rw[h']at e;injection e with e;rw[eQ,hdz]at k;omega
 have b1:∀k,k<wr.heap.size->vN.ownBlock≠some k->w1.heap[k]?=wr.heap[k]?:=by
  intro k hk hn;rw[hg1.block k (by rw[eQ];omega) (λe=>hn e.symm)];exact hgx.block k hk
 have ho:w1.heap[o]?=some (.cells #[vN] 28 (0,0)):=by rw[b1 o zo h.a1];exact h.out
 have hks:=dV (w:=w1) (p:=⟨o,0,none⟩) (v:=XC);refine⟨⟨⟨hk2.os.trans h.ext.os,hk2.tape.trans h.ext.tape,hk2.output.trans h.ext.output,dn h.ext.size hk2.size,λk hk=>?_⟩,?_,?_,?_,⟨xs++[L,R],?_,?_⟩,ap o zo h.a1,ap jk zg.2 h.a2,ap _ zr h.a3,h.a4,h.a5,h.a6,h.a7⟩,hk2,hK⟩
 .have hz:=h.ext.size
  have:¬KF w o jk vN k:=by
   rintro(e|e|e|e)
   .have:=h.a7;omega
   .omega
   .omega
   .obtain⟨xs',ho',_⟩:=h.nodes
    have:=(ho'.lt k e).1;omega
  rw[hk2.block k (by omega) this];exact h.ext.block k hk
 .rw[heap_setCell_other _ _ _ _ (by exact h.a5.symm),b1 _ zr h.a3];exact h.res
 .refine bI (bI h.ZI (w':=w1) (G:=λb=>vN.ownBlock=some b) ⟨hk1.os,hk1.tape,hk1.output,hk1.size,b1⟩ (λb hb e=>?_)) hks (λb hb e=>?_)
  .simp[Value.ownBlock]at hb;subst hb;exact h.a2 e
  .simp[Value.ownBlock]at hb;subst hb;exact h.a4 e.symm
 .exact heap_setCell_same _ _ _ _ _ _ ho
 .refine bI (by simpa using ho1) hks (λb hb e=>ap o zo h.a1 (by rw[hb,e]))
 .have hr2:=h2.insert hxl (ay _) hL hR bL bR
  rw[bU (by omega),List.drop_of_length_le (by omega),fV,bU (ay _),List.drop_of_length_le (ay _)]at hr2;exact hr2.keep hk2 (λb k=>k) hK
structure IC(w wr:World)(K:Nat->Prop)(lv fv:Value)(from_:List Nat)(X:Nat->Nd):Prop where
 rows:∃xs,wr.ownsRow w.heap.size 89 2 lv from_.length xs/\jd wr xs (from_.map X) w.heap.size K
 Pm:wr.ownsRow w.heap.size 3 1 fv from_.length ((dD from_).map (Value.int .i64))
 k1:∀b,lv.ownBlock=some b->¬K b
 k2:∀b,fv.ownBlock=some b->¬K b
 s1:∃g cap,lv=.slice (some ⟨g,0,none⟩) from_.length cap
 s2:∃g cap,fv=.slice (some ⟨g,0,none⟩) from_.length cap
theorem IC.keep{w wr w':World}{K K' G:Nat->Prop}{lv fv:Value}{from_:List Nat}{X:Nat->Nd}(h:IC w wr K lv fv from_ X)(hk:dX G wr w')(hG:∀b,G b->K b)(hK:∀b,K' b->K b\/wr.heap.size<=b):IC w w' K' lv fv from_ X:=by
 obtain⟨xs,h1,h2⟩:=h.rows;refine⟨⟨xs,bI h1 hk (λb hb g=>h.k1 b hb (hG b g)),h2.keep hk hG hK⟩,bI h.Pm hk (λb hb g=>h.k2 b hb (hG b g)),λb hb k=>?_,λb hb k=>?_,h.s1,h.s2⟩
 .rcases hK b k with k|k
  .exact h.k1 b hb k
  .have:=(h1.lt b hb).2;omega
 .rcases hK b k with k|k
  .exact h.k2 b hb k
  .have:=(h.Pm.lt b hb).2;omega
theorem IC.ext{lv fv:Value}{from_:List Nat}{X:Nat->Nd}(h:IC w wr K lv fv from_ X)(hx:Ext wr w'):IC w w' K lv fv from_ X:=
 h.keep (fq (F:=λ_=>False) hx) (λ_ g=>g.elim) (λ_ k=>.inl k)
theorem xP.klt(h:xP w wr o jk vN root F at_):∀b,KF w o jk vN b->b<wr.heap.size:=by
 obtain⟨xs,ho,_⟩:=h.nodes;rintro b (rfl|rfl|rfl|e)
 .exact bu h.out
 .exact(h.ZI.lt _ rfl).2
 .exact bu h.res
 .exact(ho.lt b e).2
theorem Dq{B':Nat}(h:w.ownsRow B e size v n xs)(hb:B'<=B):w.ownsRow B' e size v n xs:=by
 obtain⟨hl,h⟩:=h;refine⟨hl,?_⟩;rcases h with h|⟨g,cap,cur,h1,hb',h2⟩
 .exact .inl h
 .exact .inr ⟨g,cap,cur,h1,by omega,h2⟩
theorem yT{W:World}{g cap:Nat}(h:w.ownsRow B e size (.slice (some ⟨g,0,none⟩) n cap) n xs)(hE:Ext w W)(s m:Nat)(hsm:s+m<=n*size):
 ∀j u,((xs.drop s).take m)[j]?=some u->W.cell? ((⟨g,s,none⟩:Addr).add j)=some u:=by
 intro j u hu;rw[il]at hu;split at hu
 .rename_i hj
  rw[ym]at hu;have hc:=(bY h hE).cellAt (s+j) (by omega);have e:(⟨g,s,none⟩:Addr).add j=⟨g,s+j,none⟩:=by simp[Addr.add]
  rw[e,hc,hu]
 .cases hu
theorem jd.one{base:Nat}(h:jd w xs F base K)(hx:xs.length=F.length*2):∀u∈xs,u.oneCell'=true:=by
 intro u hu;obtain⟨j,hj,rfl⟩:=aW.1 hu;obtain⟨L,R,h1,h2,h3,h4,_⟩:=h (j / 2) (by omega);rcases Nat.mod_two_eq_zero_or_one j with c|c
 .rw[show j / 2*2=j by omega,aa hj]at h1
  injection h1 with h1;obtain⟨a,cap,e,_⟩:=h3;rw[h1,e];rfl
 .rw[show j / 2*2+1=j by omega,aa hj]at h2
  injection h2 with h2;obtain⟨a,cap,e,_⟩:=h4;rw[h2,e];rfl
end
section
open Go.RowKit
open bO (fw GB iG rowOk)
variable {s:ByteArray} {k i:Nat} {ss:List ByteArray}
def ll(s:ByteArray):List UInt8:=s.data.toList
def bd(ss:List ByteArray):fw:=ss.map ll
theorem jA(s:ByteArray):(ll s).length=s.size:=by simp[ll]
theorem WI(h:k<s.size):(ll s)[k]'(by rw[jA];exact h)=s[k]:=by simp[ll];rfl
theorem K7(h:k<s.size):(ll s).getD k 0=s[k]:=by
 rw[aj,aa (by rw[jA];exact h),bW,WI h]
theorem iy(ss:List ByteArray):(bd ss).length=ss.length:=by simp[bd]
theorem uH(h:i<ss.length):(bd ss)[i]'(by rw[iy];exact h)=ll ss[i]:=by simp[bd]
theorem PE(h:i<ss.length):(bd ss).getD i []=ll ss[i]:=by
 rw[aj,aa (by rw[iy];exact h),bW,uH h]
def lt8(s:ByteArray)(k:Nat):Bool:=(ll s).getD k 0 == 46 || (ll s).getD k 0 == 35
theorem Yy(h:k<s.size):lt8 s k=true↔(s[k].toNat=46\/s[k].toNat=35):=by
 unfold lt8;rw[K7 h,Bool.or_eq_true,beq_iff_eq,beq_iff_eq,<-UInt8.toNat_inj,<-UInt8.toNat_inj];rfl
theorem wN{w:Nat}:rowOk w (ll s)=true↔(1<=s.size/\s.size<=8)/\s.size=w/\∀k,k<s.size->lt8 s k=true:=by
 unfold rowOk lt8;simp only[dK,decide_eq_true_eq,mM,jA];constructor
 .rintro⟨⟨⟨h1,h2⟩,h3⟩,h4⟩
  refine⟨⟨h1,h2⟩,h3,λk hk=>?_⟩;rw[aj,aa (by rw[jA];exact hk),bW];exact h4 _ (ai _)
 .rintro⟨⟨h1,h2⟩,h3,h4⟩
  refine⟨⟨⟨h1,h2⟩,h3⟩,λc hc=>?_⟩;obtain⟨k,hk,rfl⟩:=aW.1 hc;have:=h4 k (by rw[<-jA];exact hk);rw[aj,aa hk,bW]at this;exact this
theorem sP(h:i<ss.length)(h0:0<ss.length)(k:¬rowOk ss[0].size (ll ss[i])=true):iG (bd ss)=false:=by
 rw[l8];intro e;unfold iG at e;simp only[dK,mM]at e;have:=e.2 (ll ss[i]) (by rw[<-uH h];exact ai _);rw[PE h0,jA]at this;exact k this
theorem F5(h1:1<=ss.length/\ss.length<=8)(h:∀i (hi:i<ss.length),rowOk ss[0].size (ll ss[i])=true):iG (bd ss)=true:=by
 unfold iG;simp only[dK,mM,iy,decide_eq_true_eq];refine⟨h1,λr hr=>?_⟩;obtain⟨i,hi,rfl⟩:=aW.1 hr;have hi':i<ss.length:=by rw[<-iy];exact hi
 rw[uH hi',PE (by omega),jA];exact h i hi'
theorem F6(h:¬(1<=ss.length/\ss.length<=8)):iG (bd ss)=false:=by
 unfold iG;rw[iy];rcases fI ss.length 1 with e|e
 .have:¬(1<=ss.length):=by omega
  simp[this]
 .have:¬(ss.length<=8):=by omega
  simp[this]
def Tw:List Row:=[⟨0,[],18,[1]⟩,⟨1,[0],19,[17]⟩,⟨2,[],20,[3]⟩,⟨3,[1,2],21,[18,19]⟩,⟨4,[3],22,[20]⟩,⟨5,[4],23,[21]⟩,⟨6,[5],24,[22]⟩,⟨7,[6],25,[23]⟩,⟨8,[7,6],26,[24]⟩,⟨9,[8],27,[1,25]⟩,⟨10,[9,8],28,[26,25]⟩,⟨11,[8],29,[3,25]⟩,⟨12,[10,11,8],30,[27,28,25]⟩,⟨13,[12,8],31,[29,25]⟩,⟨14,[13,8],32,[30,25]⟩,⟨15,[8],33,[1,25]⟩,⟨16,[15,8],34,[32,25]⟩,⟨17,[16,8],35,[33,25]⟩,⟨18,[17,8],36,[34,25]⟩,⟨19,[18,8],37,[35,25]⟩,⟨20,[14,19,8],38,[31,36,25]⟩,⟨21,[8,20],39,[25,37]⟩]
set_option maxHeartbeats 2000000 in
theorem jG(v:Value)(ss:List ByteArray)(w:World)(h:Strs w v ss)(hl:ss.length<=1048576)(hs:∀s,s∈ss->s.size<=1048576):
 Calls prog 30 #[.agg #[v]] w λe w'=>e=.returned (.bool (iG (bd ss)))/\Ext w w':=by
 obtain⟨a,cap,rfl,hcap,p8⟩:=h.open;have hxb:Ext w (w.alloc (.cells #[.slice a ss.length cap] 31)):=by go_grown
 have hbb:=heap_alloc_new w (.cells #[.slice a ss.length cap] 31);by_cases h8:1<=ss.length/\ss.length<=8
 .have hin:CB ((ss.length:Nat):Int) 1 8=true:=by simp[CB];omega
  have h0:0<ss.length:=by omega
  have H8:=aQ h8;clear h8;go_enter Tryz.func30,Tryz.ntmps30
  go_wp2_with (go_at_call 60;refine(jC _ _ _ _).mono ?_;rintro e w1 ⟨he,n,rfl⟩;rw[hin]at he;subst he)
  have hx1:Ext w ((w.alloc (.cells #[.slice a ss.length cap] 31)).drewN n):=fA hxb n;have hb1:((w.alloc (.cells #[.slice a ss.length cap] 31)).drewN n).heap[w.heap.size]?=some (.cells #[.slice a ss.length cap] 31 (0,0)):=hbb;generalize (w.alloc (.cells #[.slice a ss.length cap] 31)).drewN n=W at *;generalize w.heap.size=p at *;clear hxb hbb hin;go_loopw [2,3,4] (λ_ ii _ wr=>∃i:Nat,ii=.int .i64 ((i:Nat):Int)/\i<=ss.length/\Ext W wr/\Hid (∀j (hj:j<ss.length),j<i->rowOk ss[0].size (ll ss[j])=true)) (λ_ ii _ _=>ss.length-(intOf ii).toNat)
  case atStart=>exact⟨0,rfl,aJ _,Below.refl _ _,aQ λj _ h=>absurd h (by omega)⟩
  case round=>
   obtain⟨i,rfl,hi,hx,HP⟩:=hrel;have hE:=ax hx1 hx;have hbr:wr.heap[p]?=some (.cells #[.slice a ss.length cap] 31 (0,0)):=(hx.block _ (bu hb1)).trans hb1;have c0:=cell_of_row wr p 0 _ _ _ hbr;simp only[gE]at c0;by_cases hlt:i<ss.length
   .have h1:((i:Nat):Int)<((ss.length:Nat):Int):=by omega
    obtain⟨b,off,rfl,hc⟩:=(h.ext hE).at hlt;have ci:=hc i hlt;have cz:=hc 0 h0;rw[mG]at cz;have hsi:=hs _ (ai hlt);have hs0:=hs _ (ai h0);obtain⟨si,rU⟩:∃si:ByteArray,ss[i]=si:=⟨_,rfl⟩;obtain⟨s0,es0⟩:∃s0:ByteArray,ss[0]=s0:=⟨_,rfl⟩;rw[rU]at ci hsi;rw[es0]at cz hs0 HP;have EU:=aQ rU;have ES0:=aQ es0;clear rU es0;have HC:=aQ hc;have HX:=aQ hx;have HE:=aQ hE;clear hc hx hE;by_cases h2:1<=si.size/\si.size<=8
    .have hin:CB ((si.size:Nat):Int) 1 8=true:=by simp[CB];omega
     have H2:=aQ h2;clear h2;go_upto_region 6 with fail
     refine bV (λW=>W.cell? ⟨p,0,none⟩=some (.slice (some ⟨b,off,none⟩) ss.length cap)/\W.cell? ⟨b,off+i,none⟩=some (.string si)/\W.cell? ⟨b,off,none⟩=some (.string s0)) [21] Tw (by kernel_rfl) ⟨by kernel_rfl,by kernel_rfl,by kernel_rfl⟩ ⟨c0,ci,cz⟩ (λaz ah=>?_);(refine bT 0 az ah ?_;refine bT 1 az ah ?_;refine bT 2 az ah ?_;refine bT 3 az ah ?_;refine bT 4 az ah ?_;refine bT 5 az ah ?_);(refine nM az (i:=6) λK hK=>?_;go_simp);refine(jC _ _ _ _).mono ?_;rintro e w1 ⟨he,n,rfl⟩;rw[hin]at he;subst he;(refine hK.out _ _ (λ_=>?_) ?_)
     .exact ah
     clear hK K;(try simp only[nP]);(refine bT 7 az ah ?_;refine bT 8 az ah ?_;refine bT 9 az ah ?_;refine bT 10 az ah ?_;refine bT 11 az ah ?_;refine bT 12 az ah ?_;refine bT 13 az ah ?_;refine bT 14 az ah ?_;refine bT 15 az ah ?_;refine bT 16 az ah ?_;refine bT 17 az ah ?_;refine bT 18 az ah ?_;refine bT 19 az ah ?_;refine bT 20 az ah ?_);refine nU az [21] [_] ?_;by_cases h3:si.size=s0.size
     .have h3':¬(((si.size:Nat):Int)≠((s0.size:Nat):Int)):=by omega
      have hne:(((si.size:Nat):Int) != ((s0.size:Nat):Int))=false:=(by simp;omega);have H3:=aQ h3;clear h3;go_wp2
      clear h3' hne ci cz hbr ah az c0 hin;go_loopw [2,4] (λ_ kk wr=>∃k:Nat,kk=.int .i64 ((k:Nat):Int)/\k<=si.size/\Ext W wr/\Hid (∀j,j<k->lt8 si j=true)) (λ_ kk _=>si.size-(intOf kk).toNat)
      case atStart=>exact⟨0,rfl,aJ _,ax HX.out (by exact⟨rfl,rfl,rfl,ay _,λ_ _=>rfl⟩),aQ λj h=>absurd h (by omega)⟩
      case round=>
       obtain⟨k,rfl,hk,hx2,HQ⟩:=hrel;have hE:=ax hx1 hx2;have hbr:wr.heap[p]?=some (.cells #[.slice (some ⟨b,off,none⟩) ss.length cap] 31 (0,0)):=(hx2.block _ (bu hb1)).trans hb1;have c0:=cell_of_row wr p 0 _ _ _ hbr;simp only[gE]at c0;obtain⟨b',off',eb,hc⟩:=(h.ext hE).at hlt;simp only[bN,Addr.mk.injEq,and_true]at eb;obtain⟨rfl,rfl⟩:=eb;have ci:=hc i hlt;rw[EU.out]at ci;have Ey:=aQ hx2;have HE2:=aQ hE;clear hc hx2 hE hbr;have fJ:=aQ hlt;by_cases hkl:k<si.size
       .have h4:((k:Nat):Int)<((si.size:Nat):Int):=by omega
        have HI:=aQ (Yy hkl);have jl:=aQ hkl;by_cases h46:(si[k]'hkl).toNat=46
        .have e1:(((si[k]'hkl).toNat:Nat):Int)=46:=by omega
         have HK:=aQ (HI.out.2 (.inl h46));clear h46;go_wp2
         go_roundw
         case rel=>exact⟨k+1,by go_num,by have:=jl.out;omega,Ey.out,aQ λj hj=>by
          by_cases e:j=k
          .subst e;exact HK.out
          .exact HQ.out j (by omega)⟩
         case measure=>have:=jl.out;simp[intOf];omega
        .by_cases h35:(si[k]'hkl).toNat=35
         .have e1:(((si[k]'hkl).toNat:Nat):Int)=35:=by omega
          have HK:=aQ (HI.out.2 (.inr h35));clear h46 h35;go_wp2
          go_roundw
          case rel=>exact⟨k+1,by go_num,by have:=jl.out;omega,Ey.out,aQ λj hj=>by
           by_cases e:j=k
           .subst e;exact HK.out
           .exact HQ.out j (by omega)⟩
          case measure=>have:=jl.out;simp[intOf];omega
         .have e1:((((si[k]'hkl).toNat:Nat):Int) != 46)=true:=by simp;omega
          have e2:((((si[k]'hkl).toNat:Nat):Int) != 35)=true:=(by simp;omega);have e3:¬((((si[k]'hkl).toNat:Nat):Int)=46):=(by omega);have e4:¬((((si[k]'hkl).toNat:Nat):Int)=35):=(by omega);have e5:(((((si[k]'hkl).toNat:Nat):Int) != 46) && ((((si[k]'hkl).toNat:Nat):Int) != 35))=true:=(by rw[e1,e2];rfl);have HN:Hid (¬(lt8 si k=true)):=aQ λh=>by rcases HI.out.1 h with h|h;exact h46 h;exact h35 h
          clear h46 h35;go_wp2
          go_ret
          exact⟨fE (sP fJ.out h0 λe=>HN.out ((wN.1 (by rw[EU.out]at e;exact e)).2.2 k jl.out)).symm,HE2.out⟩
       .have h4:¬(((k:Nat):Int)<((si.size:Nat):Int)):=by omega
        have jl:=aQ hkl;clear hkl;go_wp2
        go_roundw
        case rel=>exact⟨i+1,by go_num,by have:=fJ.out;omega,Ey.out,aQ λj hj hji=>by
         by_cases e:j=i
         .subst e;rw[EU.out,ES0.out];exact wN.2 ⟨H2.out,H3.out,λq hq=>HQ.out q (by have:=jl.out;omega)⟩
         .rw[ES0.out];exact HP.out j hj (by omega)⟩
        case measure=>have:=fJ.out;simp[intOf];omega
     .have h3':((si.size:Nat):Int)≠((s0.size:Nat):Int):=by omega
      have hne:(((si.size:Nat):Int) != ((s0.size:Nat):Int))=true:=(by simp;omega);have H3:=aQ h3;clear h3;go_wp2
      go_ret
      exact⟨fE (sP hlt h0 λe=>H3.out (wN.1 (by rw[EU.out,ES0.out]at e;exact e)).2.1).symm,ax HE.out (by exact⟨rfl,rfl,rfl,ay _,λ_ _=>rfl⟩)⟩
    .have hin:CB ((si.size:Nat):Int) 1 8=false:=by
      rw[l8];intro e;simp[CB]at e;omega
     have H2:=aQ h2;clear h2;go_upto_region 6 with fail
     refine bV (λW=>W.cell? ⟨p,0,none⟩=some (.slice (some ⟨b,off,none⟩) ss.length cap)/\W.cell? ⟨b,off+i,none⟩=some (.string si)/\W.cell? ⟨b,off,none⟩=some (.string s0)) [21] Tw (by kernel_rfl) ⟨by kernel_rfl,by kernel_rfl,by kernel_rfl⟩ ⟨c0,ci,cz⟩ (λaz ah=>?_);(refine bT 0 az ah ?_;refine bT 1 az ah ?_;refine bT 2 az ah ?_;refine bT 3 az ah ?_;refine bT 4 az ah ?_;refine bT 5 az ah ?_);(refine nM az (i:=6) λK hK=>?_;go_simp);refine(jC _ _ _ _).mono ?_;rintro e w1 ⟨he,n,rfl⟩;rw[hin]at he;subst he;(refine hK.out _ _ (λ_=>?_) ?_)
     .exact ah
     clear hK K;(try simp only[nP]);(refine bT 7 az ah ?_;refine bT 8 az ah ?_);((refine eu az (i:=9) (oi:=_) (v:=undef) (by simp only[gE];rfl) (by kernel_rfl) (by exact λ_ _ _ h=>h) ah (Or.inr ⟨by rfl,rfl⟩) ?r29);(try simp only[nP]);(refine eu az (i:=10) (oi:=_) (v:=undef) (by simp only[gE];rfl) (by kernel_rfl) (by exact λ_ _ _ h=>h) ah (Or.inr ⟨by rfl,rfl⟩) ?r30);(try simp only[nP]);(refine eu az (i:=11) (oi:=_) (v:=undef) (by simp only[gE];rfl) (by kernel_rfl) (by exact λ_ _ _ h=>h) ah (Or.inr ⟨by rfl,rfl⟩) ?r31);(try simp only[nP]);(refine eu az (i:=12) (oi:=_) (v:=undef) (by simp only[gE];rfl) (by kernel_rfl) (by exact λ_ _ _ h=>h) ah (Or.inr ⟨by rfl,rfl⟩) ?r32);(try simp only[nP]);(refine eu az (i:=13) (oi:=_) (v:=undef) (by simp only[gE];rfl) (by kernel_rfl) (by exact λ_ _ _ h=>h) ah (Or.inr ⟨by rfl,rfl⟩) ?r33);(try simp only[nP]);(refine eu az (i:=14) (oi:=_) (v:=undef) (by simp only[gE];rfl) (by kernel_rfl) (by exact λ_ _ _ h=>h) ah (Or.inr ⟨by rfl,rfl⟩) ?r34);(try simp only[nP]);(refine eu az (i:=15) (oi:=_) (v:=undef) (by simp only[gE];rfl) (by kernel_rfl) (by exact λ_ _ _ h=>h) ah (Or.inr ⟨by rfl,rfl⟩) ?r35);(try simp only[nP]);(refine eu az (i:=16) (oi:=_) (v:=undef) (by simp only[gE];rfl) (by kernel_rfl) (by exact λ_ _ _ h=>h) ah (Or.inr ⟨by rfl,rfl⟩) ?r36);(try simp only[nP]);(refine eu az (i:=17) (oi:=_) (v:=undef) (by simp only[gE];rfl) (by kernel_rfl) (by exact λ_ _ _ h=>h) ah (Or.inr ⟨by rfl,rfl⟩) ?r37);(try simp only[nP]);(refine eu az (i:=18) (oi:=_) (v:=undef) (by simp only[gE];rfl) (by kernel_rfl) (by exact λ_ _ _ h=>h) ah (Or.inr ⟨by rfl,rfl⟩) ?r38);(try simp only[nP]);(refine eu az (i:=19) (oi:=_) (v:=undef) (by simp only[gE];rfl) (by kernel_rfl) (by exact λ_ _ _ h=>h) ah (Or.inr ⟨by rfl,rfl⟩) ?r39);(try simp only[nP]);(refine eu az (i:=20) (oi:=_) (v:=undef) (by simp only[gE];rfl) (by kernel_rfl) (by exact λ_ _ _ h=>h) ah (Or.inr ⟨by rfl,rfl⟩) ?r40);(try simp only[nP]));refine nU az [21] [_] ?_;go_wp2
     go_ret
     exact⟨fE (sP hlt h0 λe=>H2.out (wN.1 (by rw[EU.out]at e;exact e)).1).symm,ax HE.out (by exact⟨rfl,rfl,rfl,ay _,λ_ _=>rfl⟩)⟩
   .have h1:¬(((i:Nat):Int)<((ss.length:Nat):Int)):=by omega
    have fJ:=aQ hlt;clear hlt;go_wp2
    go_ret
    exact⟨fE (F5 H8.out λj hj=>HP.out j hj (by have:=fJ.out;omega)).symm,hE⟩
 .have hin:CB ((ss.length:Nat):Int) 1 8=false:=by
   rw[l8];intro e;simp[CB]at e;omega
  have H8:=aQ h8;clear h8;go_enter Tryz.func30,Tryz.ntmps30
  go_wp2_with (go_at_call 60;refine(jC _ _ _ _).mono ?_;rintro e w1 ⟨he,n,rfl⟩;rw[hin]at he;subst he)
  go_ret
  exact⟨fE (F6 H8.out).symm,fA hxb n⟩
end
section
open Go.RowKit
open bO (dH Nd vl Same)
theorem MI(w:World):Calls prog 76 #[] w λe w'=>∃vN,e=.returned (.agg #[vN])/\fu w' w.heap.size vN [([],[])]/\Ext w w':=by
 have hb1:((w.alloc (.cells #[.slice (some ⟨w.heap.size+1,0,none⟩) 1 1] 28)).alloc (.cells #[.slice none 0 0,.slice none 0 0] 89)).heap[w.heap.size]?=some (.cells #[.slice (some ⟨w.heap.size+1,0,none⟩) 1 1] 28 (0,0)):=by
  rw[Below.heap_alloc _ _ _ (by simp)];exact heap_alloc_new _ _
 have hb2:((w.alloc (.cells #[.slice (some ⟨w.heap.size+1,0,none⟩) 1 1] 28)).alloc (.cells #[.slice none 0 0,.slice none 0 0] 89)).heap[w.heap.size+1]?=some (.cells #[.slice none 0 0,.slice none 0 0] 89 (0,0)):=by
  have h:=heap_alloc_new (w.alloc (.cells #[.slice (some ⟨w.heap.size+1,0,none⟩) 1 1] 28)) (.cells #[.slice none 0 0,.slice none 0 0] 89);rw[eQ]at h;exact h
 have hx:Ext w ((w.alloc (.cells #[.slice (some ⟨w.heap.size+1,0,none⟩) 1 1] 28)).alloc (.cells #[.slice none 0 0,.slice none 0 0] 89)):=by go_grown
 go_enter Tryz.func76,Tryz.ntmps76
 go_wp2
 (try simp only[Exit.inBlock,Exit.then]);refine bodyPost_ret (results_cell_row rfl _ _ w.heap.size 28 _ (0,0) _ rfl hb1 underlying28 rfl (by kernel_rfl)) rfl ?_;refine⟨_,rfl,⟨_,1,rfl,ay _,by unfold maxLen;simp,λ_=>⟨w.heap.size+1,rfl,by omega,λi hi=>?_⟩⟩,hx⟩;have hi0:i=0:=by simp at hi;omega
 subst hi0;refine⟨.slice none 0 0,.slice none 0 0,cell_of_row _ _ 0 _ _ _ hb2,cell_of_row _ _ 1 _ _ _ hb2,Ints.nil _ _ _,Ints.nil _ _ _,λb hb=>?_,λb hb=>?_⟩
 .simp[Value.ownBlock]at hb
 .simp[Value.ownBlock]at hb
end
end Go.Proofs.YteknjeohbcgpdaaGreatDoor