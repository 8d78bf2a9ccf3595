/- 28 -/
import Derived.Test.YtplgooajigigkaaGreatDoorQ27
set_option maxRecDepth 100000
set_option maxHeartbeats 4000000
namespace Go.Proofs.YtplgooajigigkaaGreatDoor
open Tryz
section
open Go.RowKit
open aZ (cZ Nd vl Same)
variable {c:Array Value} {w w1:World} {o:Option Nat} {pp n:Nat} {T:TypeId} {X:Obj} {v:Value} {D E:cZ} {f:Value->Option Value}
theorem jQ{a b c:World}{G:Nat->Prop}(h:Ext a b)(k:dW G b c)(hG:∀x,G x->a.heap.size<=x):Ext a c:=
 ⟨k.os.trans h.os,k.tape.trans h.tape,k.output.trans h.output,df h.size k.size,λx hx=>(k.block x (aJ hx h.size) (λg=>by have:=hG x g;omega)).trans (h.block x hx)⟩
theorem gN{w':World}(g:w.grownBy w' o):dW (λb=>o=some b) w w':=⟨g.os,g.tape,g.output,g.size,λk hk hn=>g.block k hk (λe=>hn e.symm)⟩
theorem vP(h:w.heap[pp]?=some (.cells c T (0,0))):pp<w.heap.size/\(∀j v,c[j]?=some v->w.cell? ⟨pp,j,none⟩=some v)/\∀j,w.frozen? ⟨pp,j,none⟩=false:=by
 refine⟨bq h,λj v hj=>(bI w pp j _ _ _ h).trans hj,λj=>?_⟩;simp[World.frozen?,h]
theorem AR(h:w.heap[pp]?=some (.cells c T (0,0)))(hg:(w.alloc X).grownBy w1 o)(ho:o≠some pp):w1.heap[pp]?=some (.cells c T (0,0)):=by
 have hl:=bq h;rw[hg.block pp (by rw[eX];omega) (Ne.symm ho),gI _ _ _ hl];exact h
theorem ER{B e size:Nat}{xs:List Value}(h:w.ownsRow B e size v n xs)(hg:(w.alloc X).grownBy w1 o)(ho:∀b,v.ownBlock=some b->o≠some b):w1.ownsRow B e size v n xs:=
 aV (bW h (bJ (fJ _ _) X)) (gN hg) ho
theorem rE{j:Nat}{v1:Value}{e:TypeId}{ys:List Value}
 (hb:w.heap[pp]?=some (.cells c T (0,0))) (hv:v.ownBlock≠some pp) (hg:(w.alloc X).grownBy w1 v.ownBlock) (ho:w1.ownsRow 0 e 1 v1 n ys) (hl:lY (w.alloc X) v v1):
 (w1.setCell ⟨pp,j,none⟩ v1).heap[pp]?=some (.cells (c.setIfInBounds j v1) T (0,0))/\(w1.setCell ⟨pp,j,none⟩ v1).ownsRow 0 e 1 v1 n ys/\dW (λb=>b=pp\/v.ownBlock=some b) w (w1.setCell ⟨pp,j,none⟩ v1)/\(v1.ownBlock=v.ownBlock\/∃g,v1.ownBlock=some g/\w.heap.size<=g)/\v1.ownBlock≠some pp:=by
 have hlt:=bq hb;have h1:=AR hb hg hv;have hL:v1.ownBlock=v.ownBlock\/∃g,v1.ownBlock=some g/\w.heap.size<=g:=by
  rcases hl with h|⟨g,h,k⟩
  .exact .inl h
  .rw[eX]at k;exact .inr ⟨g,h,by omega⟩
 have Le:v1.ownBlock≠some pp:=by
  rcases hL with h|⟨g,h,k⟩
  .rw[h];exact hv
  .rw[h];intro e;injection e with e;omega
 refine⟨iV _ _ _ _ _ _ h1,ownsRow_setCell_other ho (a:=⟨pp,j,none⟩) Le v1,⟨hg.os,hg.tape,hg.output,?_,λk hk hn=>?_⟩,hL,Le⟩
 .rw[World.size_setCell];have:=hg.size;rw[eX]at this;omega
 .rw[jH _ _ _ _ (λe=>hn (.inl e)),hg.block k (by rw[eX];omega) (λe=>hn (.inr e.symm)),gI _ _ _ hk]
theorem zA.more{cn:Nat->Option Nat}(h:zA D cn)(hD:aZ.WF D)(hE:aZ.WF (D++E)):zA (D++E) cn:=by
 refine⟨λi j hi=>?_,λi j hi=>?_,h.self,λi j nd hi hn=>?_⟩
 .have:=h.lt i j hi;simp;omega
 .have hl:=h.lt i j hi
  rw[aZ.gV hD hE i hl.1,aZ.gV hD hE j hl.2];exact h.ok i j hi
 .have hl:=h.lt i j hi
  rw[bQ hl.1]at hn;exact h.sub i j nd hi hn
theorem Di(hD:aZ.WF D)(hE:aZ.WF (D++E))(l:List Nat)(hl:∀x,x∈l->x<D.length):eH (D++E) l=eH D l:=by
 have key:∀(k:List Nat) (m:Int),(∀x,x∈k->x<D.length)->k.foldl (λm x=>max m ((aZ.born (vl (D++E) x):Int)+1)) m=k.foldl (λm x=>max m ((aZ.born (vl D x):Int)+1)) m:=by
  intro k
  induction k with
  |nil=>intro m _;rfl
  |cons x k ih=>
   intro m hx;simp only[List.foldl_cons];rw[aZ.gV hD hE x (hx x (by simp))];exact ih _ (λy hy=>hx y (by simp[hy]))
 exact key _ _ hl
def zu(pp h:Nat)(s:iK)(l r:List Nat)(w:World)(e:Ending)(w':World):Prop:=
 ∃s' i,e=.returned (.int .i64 ((i:Nat):Int))/\jd pp h s w s' w'/\jA s.D l r s'.D i/\s'.cn=s.cn
theorem xA{key val k:Value}(h:upd (λ_ _=>Classical.propDecidable _) f key val k=some v):(k=key/\v=val)\/f k=some v:=by
 by_cases c:k=key
 .subst c;rw[upd_same]at h;injection h with h;exact .inl ⟨rfl,h.symm⟩
 .rw[upd_ne c]at h;exact .inr h
theorem RB{wp w2 w3 w4:World}{h:Nat}{s:iK}{l r:List Nat}{L R JH yQ Gg:Value}{xl xr:List Value}
 (hP:bX w pp h s) (hE:Ext w wp) (hroom:s.D.length+1<=900000) (hl:∀x,x∈l->x<s.D.length) (hr:∀x,x∈r->x<s.D.length)
 (hL:Ints wp L (bV (aS l))) (hR:Ints wp R (bV (aS r))) (fL:∀b,L.ownBlock=some b->w.heap.size<=b/\b<wp.heap.size) (fR:∀b,R.ownBlock=some b->w.heap.size<=b/\b<wp.heap.size)
 (hf1:∀i (hi:i<s.D.length),f (ui s.D[i])=some (.int .i64 (i:Int))) (hf2:∀k v,f k=some v->∃i,∃hi:i<s.D.length,k=ui s.D[i]/\v=.int .i64 (i:Int)) (hfn:f (ui (aS l,aS r))=none)
 (hM:fM prog 9 w1 h (s.D.length+1) (upd (λ_ _=>Classical.propDecidable _) f (ui (aS l,aS r)) (.int .i64 ((s.D.length:Nat):Int)))) (hg1:wp.grownBy w1 (some h))
 (hxl:wp.ownsRow 0 41 1 s.lv s.D.length xl) (hil:Items Cz s.S 1 xl (s.D.map (·.1)) wp) (wY:wp.ownsRow 0 41 1 s.rv s.D.length xr) (hir:Items Cz s.S 1 xr (s.D.map (·.2)) wp)
 (hg2:(w1.alloc (.cells #[L] 41)).grownBy w2 s.lv.ownBlock) (ho2:w2.ownsRow 0 41 1 JH (s.D.length+1) (xl++[L])) (hl2:lY (w1.alloc (.cells #[L] 41)) s.lv JH)
 (hg3:((w2.setCell ⟨pp,0,none⟩ JH).alloc (.cells #[R] 41)).grownBy w3 s.rv.ownBlock) (ho3:w3.ownsRow 0 41 1 yQ (s.D.length+1) (xr++[R])) (hl3:lY ((w2.setCell ⟨pp,0,none⟩ JH).alloc (.cells #[R] 41)) s.rv yQ)
 (hg4:((w3.setCell ⟨pp,1,none⟩ yQ).alloc (.cells #[.int .i64 (eH s.D (aS l++aS r))] 3)).grownBy w4 s.bv.ownBlock) (CZ:w4.ownsRow 0 3 1 Gg (s.D.length+1) ((s.D.mapIdx λi _=>(aZ.born (vl s.D i):Int)).map (Value.int .i64)++[.int .i64 (eH s.D (aS l++aS r))])) (hl4:lY ((w3.setCell ⟨pp,1,none⟩ yQ).alloc (.cells #[.int .i64 (eH s.D (aS l++aS r))] 3)) s.bv Gg):
 zu pp h s l r w (.returned (.int .i64 ((s.D.length:Nat):Int))) (w4.setCell ⟨pp,2,none⟩ Gg):=by
 have hPp:=hP.ext hE;have hg:=hP.good;have k1:=gH hg1;have hb1:w1.heap[pp]?=_:=(k1.block pp (bq hPp.box) (λe=>by have:=hP.Zd;omega)).trans hPp.box;have l2:s.lv.ownBlock≠some pp:=λe=>(hP.Ev pp (.inl e)).1 rfl
 have r2:s.rv.ownBlock≠some pp:=λe=>(hP.Ev pp (.inr (.inl e))).1 rfl
 have b2:s.bv.ownBlock≠some pp:=λe=>(hP.Ev pp (.inr (.inr e))).1 rfl
 obtain⟨hb2,hw2,k2,z2,q2⟩:=rE (j:=0) hb1 l2 hg2 ho2 hl2;obtain⟨hb3,hw3,k3,z3,q3⟩:=rE (j:=1) hb2 r2 hg3 ho3 hl3;obtain⟨hb4,hw4,k4,z4,q4⟩:=rE (j:=2) hb3 b2 hg4 CZ hl4;have s0:=hE.size;have s1:=k1.size;have s2:w1.heap.size<=_:=k2.size;have s3:=k3.size;have s4:=k4.size;have hlv:=hxl.lt;have hrv:=wY.lt;have hbv:=hPp.born.lt;have hmap:∀{m},m<h+1+1+1+1+1->m<w.heap.size:=λhm=>hP.ni hm
 have oL:∀b,JH.ownBlock=some b->s.lv.ownBlock=some b\/wp.heap.size<=b:=λb hb=>by
  rcases z2 with e|⟨g,e,k⟩
  .exact .inl (e ▸ hb)
  .rw[e]at hb;injection hb with hb;exact .inr (by omega)
 have oR:∀b,yQ.ownBlock=some b->s.rv.ownBlock=some b\/(w2.setCell ⟨pp,0,none⟩ JH).heap.size<=b:=λb hb=>by
  rcases z3 with e|⟨g,e,k⟩
  .exact .inl (e ▸ hb)
  .rw[e]at hb;injection hb with hb;exact .inr (by omega)
 have oB:∀b,Gg.ownBlock=some b->s.bv.ownBlock=some b\/(w3.setCell ⟨pp,1,none⟩ yQ).heap.size<=b:=λb hb=>by
  rcases z4 with e|⟨g,e,k⟩
  .exact .inl (e ▸ hb)
  .rw[e]at hb;injection hb with hb;exact .inr (by omega)
 have lLt:∀b,JH.ownBlock=some b->b<(w2.setCell ⟨pp,0,none⟩ JH).heap.size:=λb hb=>(hw2.lt b hb).2
 have rLt:∀b,yQ.ownBlock=some b->b<(w3.setCell ⟨pp,1,none⟩ yQ).heap.size:=λb hb=>(hw3.lt b hb).2
 have K:dW (jI pp h s) wp (w4.setCell ⟨pp,2,none⟩ Gg):=by
  refine((dW.trans (F:=jI pp h s) ⟨k1.os,k1.tape,k1.output,k1.size,λk hk hn=>k1.block k hk (λe=>hn (.inr (.inl (by omega))))⟩ (⟨k2.os,k2.tape,k2.output,k2.size,k2.block⟩:dW (λb=>b=pp\/s.lv.ownBlock=some b) w1 _) ?_).trans k3 ?_).trans k4 ?_
  .rintro x _ (rfl|h);exact .inl rfl;exact .inr (.inr (.inl h))
  .rintro x _ (rfl|h);exact .inl rfl;exact .inr (.inr (.inr (.inl h)))
  .rintro x _ (rfl|h);exact .inl rfl;exact .inr (.inr (.inr (.inr h)))
 have afv:(w4.setCell ⟨pp,2,none⟩ Gg).ownsRow 0 41 1 JH (s.D.length+1) (xl++[L]):=by
  refine aV (aV hw2 k3 ?_) k4 ?_
  .rintro b hb (rfl|hc)
   .exact q2 hb
   .rcases oL b hb with h1|h1
    .exact(hP.Zc b h1).1 hc
    .have:=(hrv b hc).2;omega
  .rintro b hb (rfl|hc)
   .exact q2 hb
   .rcases oL b hb with h1|h1
    .exact(hP.Zc b h1).2 hc
    .have:=(hbv b hc).2;omega
 have afu:(w4.setCell ⟨pp,2,none⟩ Gg).ownsRow 0 41 1 yQ (s.D.length+1) (xr++[R]):=by
  refine aV hw3 k4 ?_;rintro b hb (rfl|hc)
  .exact q3 hb
  .rcases oR b hb with h1|h1
   .exact hP.ap4 b h1 hc
   .have:=(hbv b hc).2;omega
 have hmk:∀m,h<=m->m<h+1+1+1+1+1->(w4.setCell ⟨pp,2,none⟩ Gg).heap[m]?=w1.heap[m]?:=λm m1 m2=>by
  have hm:=hmap m2;have Le:=hP.Zd;have n1:m≠pp:=by omega
  have nn:∀b,s.lv.ownBlock=some b\/s.rv.ownBlock=some b\/s.bv.ownBlock=some b->b≠m:=λb hb=>by have:=(hP.Ev b hb).2;omega
  rw[k4.block m (by omega) (by rintro(e|e);exact n1 e;exact nn m (.inr (.inr e)) rfl),k3.block m (by omega) (by rintro(e|e);exact n1 e;exact nn m (.inr (.inl e)) rfl),k2.block m (by omega) (by rintro(e|e);exact n1 e;exact nn m (.inl e) rfl)]
 have acM:∀m,h<m->m<h+1+1+1+1+1->(w4.setCell ⟨pp,2,none⟩ Gg).heap[m]?=wp.heap[m]?:=λm m1 m2=>by
  rw[hmk m (by omega) m2];exact k1.block m (by have:=hmap m2;omega) (by omega)
 have hnd:(aS l,aS r) ∉ s.D:=λhm=>by
  obtain⟨i,hi,e⟩:=aH.1 hm;have:=hf1 i hi;rw[e,hfn]at this;cases this
 have hgn:aZ.Good (s.D++[(aS l,aS r)]):=hg.snoc (λk hk=>hl k (bU.1 hk)) (λk hk=>hr k (bU.1 hk)) (iP l) (iP r) hnd;have hvl:∀x,x<s.D.length->vl (s.D++[(aS l,aS r)]) x=vl s.D x:=λx hx=>aZ.gV hg.wf hgn.wf x hx
 have hlast:(s.D++[(aS l,aS r)])[s.D.length]?=some (aS l,aS r):=by simp
 have hlen:(s.D++[(aS l,aS r)]).length=s.D.length+1:=by simp
 have hmem:∀x,x∈aS l++aS r->x<s.D.length:=λx hx=>by
  rcases aM.1 hx with h|h
  .exact hl x (bU.1 h)
  .exact hr x (bU.1 h)
 have hb0:=kU hg.wf _ hmem;have hbn:=Di hg.wf hgn.wf _ hmem;have hlts:∀b,s.S b->b<wp.heap.size/\¬jI pp h s b:=λb hb=>⟨hPp.uI hb,hP.ap5 b hb⟩
 have hKw:∀b,w.heap.size<=b->¬jI pp h s b:=λb hb hc=>by have:=hP.Bq hc;omega
 let S':Nat->Prop:=λb=>s.S b\/L.ownBlock=some b\/R.ownBlock=some b
 have hS':∀b,S' b->b<wp.heap.size/\¬jI pp h s b:=by
  rintro b (hb|hb|hb)
  .exact hlts b hb
  .exact⟨(fL b hb).2,hKw b (fL b hb).1⟩
  .exact⟨(fR b hb).2,hKw b (fR b hb).1⟩
 have YG:∀{v:Value} {k:List Nat},Ints wp v (bV k)->(∀b,v.ownBlock=some b->S' b)->nN S' (λW=>Cz W [v] k) wp:=λ{v k} hv hb=>by
  obtain⟨a,c,rfl,-⟩:=id hv;refine⟨λb hb=>(hS' b hb).1,λw2 h2=>⟨a,c,by rw[aP],?_⟩⟩;have:=(hv.sup (λb hb=>(hS' b hb).1) hb).2 w2 h2;rw[aP]at this;exact this
 have ZK:Items Cz S' 1 (xl++[L]) (s.D.map (·.1)++[aS l]) wp:=(hil.mono (λb hb=>.inl hb) (λb hb=>(hS' b hb).1)).snoc rfl (YG hL λb hb=>.inr (.inl hb));have ZJ:Items Cz S' 1 (xr++[R]) (s.D.map (·.2)++[aS r]) wp:=(hir.mono (λb hb=>.inl hb) (λb hb=>(hS' b hb).1)).snoc rfl (YG hR λb hb=>.inr (.inr hb));have SI:∀b,S' b->¬jI pp h s b:=λb hb=>(hS' b hb).2
 have afI:∀i (hi:i<s.D.length),ui s.D[i]≠ui (aS l,aS r):=λi hi e=>by
  have:=hf1 i hi;rw[e,hfn]at this;cases this
 have Rn:∀b,jI pp h ⟨JH,yQ,Gg,s.D++[(aS l,aS r)],S',s.cn⟩ b->jI pp h s b\/wp.heap.size<=b:=by
  rintro b (rfl|hb|hb|hb|hb)
  .exact .inl (.inl rfl)
  .exact .inl (.inr (.inl hb))
  .rcases oL b hb with h1|h1
   .exact .inl (.inr (.inr (.inl h1)))
   .exact .inr h1
  .rcases oR b hb with h1|h1
   .exact .inl (.inr (.inr (.inr (.inl h1))))
   .exact .inr (by omega)
  .rcases oB b hb with h1|h1
   .exact .inl (.inr (.inr (.inr (.inr h1))))
   .exact .inr (by omega)
 have ahF:∀b,JH.ownBlock=some b->b≠pp/\(b<h\/h+1+1+1+1+1<=b):=λb hb=>by
  rcases oL b hb with h1|h1
  .exact hP.Ev b (.inl h1)
  .exact⟨λe=>q2 (e ▸ hb),.inr (by have:=hP.ni (m:=h+1+1+1+1) (by omega);omega)⟩
 have ahE:∀b,yQ.ownBlock=some b->b≠pp/\(b<h\/h+1+1+1+1+1<=b):=λb hb=>by
  rcases oR b hb with h1|h1
  .exact hP.Ev b (.inr (.inl h1))
  .exact⟨λe=>q3 (e ▸ hb),.inr (by have:=hP.ni (m:=h+1+1+1+1) (by omega);omega)⟩
 have ahG:∀b,Gg.ownBlock=some b->b≠pp/\(b<h\/h+1+1+1+1+1<=b):=λb hb=>by
  rcases oB b hb with h1|h1
  .exact hP.Ev b (.inr (.inr h1))
  .exact⟨λe=>q4 (e ▸ hb),.inr (by have:=hP.ni (m:=h+1+1+1+1) (by omega);omega)⟩
 obtain⟨n3,f3,o1,o2⟩:=hPp.orders;obtain⟨n4,f4,p1,p2,p3⟩:=hPp.zm;refine⟨⟨JH,yQ,Gg,s.D++[(aS l,aS r)],S',s.cn⟩,s.D.length,rfl,⟨?_,?_,?_,λb hb=>.inl hb,?_,⟨_,rfl⟩,λ_ _ h=>h⟩,⟨hlast,.inr rfl⟩,rfl⟩
 .refine⟨hgn,by rw[hlen];exact hroom,hP.uT.more hg.wf hgn.wf,hb4,⟨xl++[L],?_,?_⟩,⟨xr++[R],?_,?_⟩,?_,⟨upd (λ_ _=>Classical.propDecidable _) f (ui (aS l,aS r)) (.int .i64 ((s.D.length:Nat):Int)),?_,?_,?_⟩,⟨n3,f3,o1.keep (acM _ (by omega) (by omega)),?_⟩,⟨n4,f4,p1.keep (acM _ (by omega) (by omega)),p2,p3⟩,hP.Zd,?_,?_,?_,?_,?_,?_⟩
  .rw[hlen];exact afv
  .rw[bz];exact ZK.keep K SI
  .rw[hlen];exact afu
  .rw[bz];exact ZJ.keep K SI
  .have e:((s.D++[(aS l,aS r)]).mapIdx λi _=>(aZ.born (vl (s.D++[(aS l,aS r)]) i):Int))=(s.D.mapIdx λi _=>(aZ.born (vl s.D i):Int))++[eH s.D (aS l++aS r)]:=by
    rw[List.mapIdx_append];congr 1
    .refine uh (by simp) λi h1 h2=>?_
     simp only[List.getElem_mapIdx];rw[hvl i (by simpa using h2)]
    .simp only[List.mapIdx_cons,List.mapIdx_nil,gQ]
     rw[qG hgn.wf hlast (l:=aS l) (r:=aS r) (λ_=>Iff.rfl) (λ_=>Iff.rfl) (by rw[hbn];exact hb0.1),hbn]
   show World.ownsRow _ 0 _ 1 Gg (s.D++[(aS l,aS r)]).length _;rw[e,bz,hlen];exact hw4
  .have:=hM.keep (w':=w4.setCell ⟨pp,2,none⟩ Gg) (hmk h (ax _) (by omega))
   rw[hlen];exact this
  .intro i hi
   have hi':i<s.D.length+1:=(by rw[<-hlen];exact hi);by_cases c:i<s.D.length
   .have e:(s.D++[(aS l,aS r)])[i]'hi=s.D[i]:=dN c
    rw[show(⟨JH,yQ,Gg,s.D++[(aS l,aS r)],S',s.cn⟩:iK).D[i]'hi=s.D[i] from e,upd_ne (afI i c)];exact hf1 i c
   .have c':i=s.D.length:=by omega
    subst c';have e:(s.D++[(aS l,aS r)])[s.D.length]'hi=(aS l,aS r):=(by simp);rw[show(⟨JH,yQ,Gg,s.D++[(aS l,aS r)],S',s.cn⟩:iK).D[s.D.length]'hi=(aS l,aS r) from e];exact upd_same _ _ _
  .intro k v hk
   rcases xA hk with⟨rfl,rfl⟩|hk
   .refine⟨s.D.length,by rw[hlen];omega,?_,rfl⟩
    have e:(s.D++[(aS l,aS r)])[s.D.length]'(by rw[hlen];omega)=(aS l,aS r):=(by simp);exact congrArg ui e.symm
   .obtain⟨i,hi,e1,e2⟩:=hf2 k v hk
    exact⟨i,by rw[hlen];omega,by rw[e1];exact congrArg ui (dN hi).symm,e2⟩
  .intro k v hk
   obtain⟨a,b,g,e1,e2,h1,h2,h3⟩:=o2 k v hk;refine⟨a,b,g,e1,e2,by rw[hlen];omega,by rw[hlen];omega,?_⟩;rw[show vl (⟨JH,yQ,Gg,s.D++[(aS l,aS r)],S',s.cn⟩:iK).D a=vl s.D a from hvl a h1,show vl (⟨JH,yQ,Gg,s.D++[(aS l,aS r)],S',s.cn⟩:iK).D b=vl s.D b from hvl b h2];exact h3
  .rintro b (hb|hb|hb)
   .exact ahF b hb
   .exact ahE b hb
   .exact ahG b hb
  .intro b hb
   have hz:=lLt b hb;refine⟨λhc=>?_,λhc=>?_⟩
   .rcases oR b hc with h1|h1
    .rcases oL b hb with h2|h2
     .exact(hP.Zc b h2).1 h1
     .have:=(hrv b h1).2;omega
    .omega
   .rcases oB b hc with h1|h1
    .rcases oL b hb with h2|h2
     .exact(hP.Zc b h2).2 h1
     .have:=(hbv b h1).2;omega
    .omega
  .intro b hb hc
   have hz:=rLt b hb;rcases oB b hc with h1|h1
   .rcases oR b hb with h2|h2
    .exact hP.ap4 b h2 h1
    .have:=(hbv b h1).2;omega
   .omega
  .intro b hb hc
   rcases Rn b hc with h1|h1
   .exact(hS' b hb).2 h1
   .have:=(hS' b hb).1;omega
  .have Af:=hP.ni (m:=h+1+1+1+1) (by omega)
   rintro b (hb|hb|hb)
   .exact hP.ap6 b hb
   .have:=(fL b hb).1;omega
   .have:=(fR b hb).1;omega
  .intro m hm
   have:=hP.ni hm;omega
 .exact(iM hE).trans K (λ_ _ h=>h)
 .intro b hb
  rcases Rn b hb with h1|h1
  .exact .inl h1
  .exact .inr (by omega)
 .rintro b (hb|hb|hb)
  .exact .inl hb
  .exact .inr (fL b hb).1
  .exact .inr (fR b hb).1
end
section
open Go.RowKit
open aZ (cZ Nd vl Same Ge)
variable {w w':World} {pp h:Nat} {s:iK}
theorem bX.maps(k:bX w pp h s){G:Nat->Prop}(hk:dW G w w')(hG:∀b,G b->h<=b/\b<h+1+1+1){Am:Nat->Option Nat}(hc:zA s.D Am)
 (find:∃f,fM prog 9 w' h s.D.length f/\(∀i (hi:i<s.D.length),f (ui s.D[i])=some (.int .i64 (i:Int)))/\∀k v,f k=some v->∃i,∃hi:i<s.D.length,k=ui s.D[i]/\v=.int .i64 (i:Int))
 (orders:∃n f,fM prog 219 w' (h+1) n f/\∀k v,f k=some v->∃(a b:Nat) (g:Bool),k=.agg #[.int .i64 (a:Int),.int .i64 (b:Int)]/\v=.bool g/\a<s.D.length/\b<s.D.length/\(g=true↔aZ.Ge (vl s.D a) (vl s.D b)))
 (zm:∃n f,fM prog 3 w' (h+1+1) n f/\(∀i:Nat,f (.int .i64 (i:Int))=(Am i).map λj=>.int .i64 (j:Int))/\∀k v,f k=some v->∃i:Nat,k=.int .i64 (i:Int)):
 bX w' pp h ⟨s.lv,s.rv,s.bv,s.D,s.S,Am⟩/\dW (jI pp h s) w w':=by
 obtain⟨x1,a1,b1⟩:=k.left;obtain⟨x2,a2,b2⟩:=k.right;have hF:∀b,s.lv.ownBlock=some b\/s.rv.ownBlock=some b\/s.bv.ownBlock=some b->¬G b:=λb hb hg=>by have:=(k.Ev b hb).2;have:=hG b hg;omega
 have hS:∀b,s.S b->¬G b:=λb hb hg=>k.ap5 b hb (.inr (.inl (hG b hg)))
 exact⟨⟨k.good,k.small,hc,(hk.block _ (bq k.box) (λhg=>by have:=k.Zd;have:=hG pp hg;omega)).trans k.box,⟨x1,aV a1 hk (λb hb=>hF b (.inl hb)),b1.keep hk hS⟩,⟨x2,aV a2 hk (λb hb=>hF b (.inr (.inl hb))),b2.keep hk hS⟩,aV k.born hk (λb hb=>hF b (.inr (.inr hb))),
  find,orders,zm,k.Zd,k.Ev,k.Zc,k.ap4,k.ap5,k.ap6,λhm=>aJ (k.ni hm) hk.size⟩,⟨hk.os,hk.tape,hk.output,hk.size,λb hb hn=>hk.block b hb (λhg=>hn (.inr (.inl (hG b hg))))⟩⟩
theorem bX.Ji(k:bX w pp h s)(hb:w'.heap[h]?=w.heap[h]?):∃f,fM prog 9 w' h s.D.length f/\(∀i (hi:i<s.D.length),f (ui s.D[i])=some (.int .i64 (i:Int)))/\∀k v,f k=some v->∃i,∃hi:i<s.D.length,k=ui s.D[i]/\v=.int .i64 (i:Int):=by
 obtain⟨f,h1,h2⟩:=k.find;exact⟨f,h1.keep hb,h2⟩
theorem bX.Ku(k:bX w pp h s)(hb:w'.heap[h+1]?=w.heap[h+1]?):∃n f,fM prog 219 w' (h+1) n f/\∀k v,f k=some v->∃(a b:Nat) (g:Bool),k=.agg #[.int .i64 (a:Int),.int .i64 (b:Int)]/\v=.bool g/\a<s.D.length/\b<s.D.length/\(g=true↔aZ.Ge (vl s.D a) (vl s.D b)):=by
 obtain⟨n,f,h1,h2⟩:=k.orders;exact⟨n,f,h1.keep hb,h2⟩
theorem bX.Ma(k:bX w pp h s)(hb:w'.heap[h+1+1]?=w.heap[h+1+1]?):∃n f,fM prog 3 w' (h+1+1) n f/\(∀i:Nat,f (.int .i64 (i:Int))=(s.cn i).map λj=>.int .i64 (j:Int))/\∀k v,f k=some v->∃i:Nat,k=.int .i64 (i:Int):=by
 obtain⟨n,f,h1,h2⟩:=k.zm;exact⟨n,f,h1.keep hb,h2⟩
theorem bX.rV(k:bX w pp h s):∃f,fM prog 219 w (h+1) 810000000000 f/\∀k v,f k=some v->∃(a b:Nat) (g:Bool),k=.agg #[.int .i64 (a:Int),.int .i64 (b:Int)]/\v=.bool g/\a<s.D.length/\b<s.D.length/\(g=true↔aZ.Ge (vl s.D a) (vl s.D b)):=by
 obtain⟨n,f,h1,h2⟩:=k.orders;refine⟨f,(h1.room ((List.range s.D.length).flatMap λ(a:Nat)=>(List.range s.D.length).map λ(b:Nat)=>.agg #[.int .i64 (a:Int),.int .i64 (b:Int)]) λkey v hv=>?_).mono ?_,h2⟩
 .obtain⟨a,b,g,e,_,ha,hb,_⟩:=h2 key v hv
  exact List.mem_flatMap.2 ⟨a,dJ.2 ha,ay.2 ⟨b,dJ.2 hb,e.symm⟩⟩
 .have e:∀l:List Nat,(l.flatMap λ(a:Nat)=>(List.range s.D.length).map λ(b:Nat)=>Value.agg #[.int .i64 (a:Int),.int .i64 (b:Int)]).length=l.length*s.D.length:=by
   intro l
   induction l with
   |nil=>simp
   |cons x l ih=>rw[jr,aK,ih,bH,List.length_range,l9,rJ];omega
  rw[e,List.length_range];exact Nat.mul_le_mul k.small k.small
theorem bX.EX{n:Nat}{f:Value->Option Value}{a b:Nat}{g:Bool}(k:bX w pp h s)(hf:∀k v,f k=some v->∃(a b:Nat) (g:Bool),k=.agg #[.int .i64 (a:Int),.int .i64 (b:Int)]/\v=.bool g/\a<s.D.length/\b<s.D.length/\(g=true↔aZ.Ge (vl s.D a) (vl s.D b)))
 (hM:fM prog 219 w' (h+1) n (upd (λ_ _=>Classical.propDecidable _) f (.agg #[.int .i64 (a:Int),.int .i64 (b:Int)]) (.bool g))) (hg:w.grownBy w' (some (h+1))) (ha:a<s.D.length) (hb:b<s.D.length) (hge:g=true↔aZ.Ge (vl s.D a) (vl s.D b)):jd pp h s w s w':=by
 have kk:=gH hg;obtain⟨h1,h2⟩:=k.maps kk (λb hb=>by omega) k.uT (k.Ji (kk.block _ (k.ni (by omega)) (by omega))) ⟨n,_,hM,λkey v hv=>by
  rcases xA hv with⟨rfl,rfl⟩|hv
  .exact⟨a,b,g,rfl,rfl,ha,hb,hge⟩
  .exact hf key v hv⟩ (k.Ma (kk.block _ (k.ni (by omega)) (by omega)))
 exact⟨h1,h2,λ_ h=>.inl h,λ_ h=>h,λ_ h=>.inl h,⟨[],by simp⟩,λ_ _ h=>h⟩
def Vb(pp h:Nat)(s:iK)(a b:Nat)(w:World)(e:Ending)(w':World):Prop:=∃g:Bool,e=.returned (.bool g)/\(g=true↔Ge (vl s.D a) (vl s.D b))/\jd pp h s w s w'
def UJ(m:Nat):Prop:=∀(pp h:Nat) (s:iK) (a b:Nat) (w:World),bX w pp h s->a<s.D.length->b<s.D.length->a+b<m->Calls prog 144 #[.pointer (some ⟨pp,0,none⟩),.int .i64 (a:Int),.int .i64 (b:Int)] w (Vb pp h s a b w)
theorem Yn(w:World):(zeroValue 4).run prog w=.ok (.bool false) w:=by kernel_rfl
def Dy:List Row:=[⟨0,[],23,[0]⟩,⟨1,[0],24,[22]⟩,⟨2,[1],25,[23]⟩,⟨3,[2],26,[24]⟩,⟨4,[],27,[7]⟩,⟨5,[3,4],28,[25,26]⟩,⟨6,[5],22,[27]⟩,⟨7,[6],29,[21]⟩,⟨8,[6],30,[21]⟩,⟨9,[7,0,1,2,3,4,5,6,7],9,[28]⟩,⟨10,[8,9,0,1,2,3,4,5,6,7,8,9],10,[29]⟩]
def yR:List Row:=[⟨0,[],68,[0]⟩,⟨1,[0],69,[67]⟩,⟨2,[1],70,[68]⟩,⟨3,[2],71,[69]⟩,⟨4,[],72,[7]⟩,⟨5,[],73,[10]⟩,⟨6,[3,4,5,0,1,2,3,4,5],0,[70,71,72]⟩]
theorem XM{m:Nat}(ih:UJ m):UJ (m+1):=by
 intro pp h s a b w hP ha hb hm;have hds:=hP.small;go_enter Tryz.func144,Tryz.ntmps144
 by_cases hab:a=b
 .subst hab
  go_wp2_with fail
  go_ret
  exact⟨true,rfl,by simp[aZ.j6],jd.refl hP (fJ _ _)⟩
 have hne:((a:Int)== (b:Int))=false:=by simp;omega
 have JN:=aI hab;clear hab;have hx1:Ext w (w.alloc (.cells #[.int .i64 (a:Int),.int .i64 (b:Int)] 219)):=by go_grown
 have hkb:(w.alloc (.cells #[.int .i64 (a:Int),.int .i64 (b:Int)] 219)).heap[w.heap.size]?=_:=dV w _;go_upto_region 4 with fail
 have hP1:=hP.ext hx1;generalize w.alloc (.cells #[.int .i64 (a:Int),.int .i64 (b:Int)] 219)=W1 at *;obtain⟨f,hM,hf⟩:=hP1.rV;obtain⟨kl,hkl⟩:=ZH a b (by omega) (by omega);have hlk:=λ(W:World) (hW:W.heap[h+1]?=W1.heap[h+1]?)=>(hM.keep hW).look Fq underlying151 (Yn W) hkl true
 have ck0:=bI W1 w.heap.size 0 _ _ _ hkb;have ck1:=bI W1 w.heap.size 1 _ _ _ hkb;have Y4:bX W1.drew pp h s:=hP1.ext (dz ⟨1,rfl⟩);have Ag:jd pp h s w s W1.drew:=jd.refl hP (ah hx1 (dz ⟨1,rfl⟩));have hnb:w.heap.size<W1.drew.heap.size:=bq hkb;have YS:¬jI pp h s w.heap.size:=λhc=>by have:=hP.Bq hc;omega
 have c4:=hP1.c4;have hagg:Value.agg #[.int .i64 (a:Int),.int .i64 (b:Int)]=Value.agg #[.int .i64 (a:Int),.int .i64 (b:Int)]:=rfl;clear hagg hP1;cases Vv:f (.agg #[.int .i64 (a:Int),.int .i64 (b:Int)])with
 |some v=>
  obtain⟨a',b',g,e1,rfl,-,-,hg⟩:=hf _ _ Vv;simp only[Value.agg.injEq,Array.mk.injEq,iZ,Value.int.injEq,true_and,and_true]at e1;obtain⟨e1,e2⟩:=e1;obtain rfl:a=a':=by omega
  obtain rfl:b=b':=by omega
  simp only[Vv,gM,Option.isSome_some,if_true]at hlk;refine mQ (λW=>W.cell? ⟨pp,4,none⟩=some (.map (some (h+1)))/\W.cell? ⟨w.heap.size,0,none⟩=some (.int .i64 (a:Int))/\W.cell? ⟨w.heap.size,1,none⟩=some (.int .i64 (b:Int))/\(Instr.lookup 151 (.map (some (h+1))) (.agg #[.int .i64 (a:Int),.int .i64 (b:Int)]) true).run prog W=.ok (.tuple #[.bool g,.bool true]) W) [10] Dy ⟨c4,ck0,ck1,hlk _ rfl⟩ (λai aa=>?_);(refine bg 0 ai aa ?_;refine bg 1 ai aa ?_;refine bg 2 ai aa ?_;refine bg 3 ai aa ?_;refine bg 4 ai aa ?_;refine bg 5 ai aa ?_;refine bg 6 ai aa ?_;refine bg 7 ai aa ?_;refine bg 8 ai aa ?_;refine bg 9 ai aa ?_);refine mM ai [10] [_] ?_;clear ai aa;go_wp2_with fail
  go_ret
  exact⟨g,rfl,hg,Ag⟩
 |none=>
  simp only[Vv,Option.getD_none,Option.isSome_none,if_true]at hlk;refine mQ (λW=>W.cell? ⟨pp,4,none⟩=some (.map (some (h+1)))/\W.cell? ⟨w.heap.size,0,none⟩=some (.int .i64 (a:Int))/\W.cell? ⟨w.heap.size,1,none⟩=some (.int .i64 (b:Int))/\(Instr.lookup 151 (.map (some (h+1))) (.agg #[.int .i64 (a:Int),.int .i64 (b:Int)]) true).run prog W=.ok (.tuple #[.bool false,.bool false]) W) [10] Dy ⟨c4,ck0,ck1,hlk _ rfl⟩ (λai aa=>?_);(refine bg 0 ai aa ?_;refine bg 1 ai aa ?_;refine bg 2 ai aa ?_;refine bg 3 ai aa ?_;refine bg 4 ai aa ?_;refine bg 5 ai aa ?_;refine bg 6 ai aa ?_;refine bg 7 ai aa ?_;refine bg 8 ai aa ?_;refine bg 9 ai aa ?_);refine mM ai [10] [_] ?_;clear ai aa hlk hf Vv hM f c4;have aaX:W1.drew.cell? ⟨w.heap.size,0,none⟩=some (.int .i64 (a:Int)):=ck0;have aaW:W1.drew.cell? ⟨w.heap.size,1,none⟩=some (.int .i64 (b:Int)):=ck1;clear ck0 ck1 hkb hx1;generalize W1.drew=W0 at *;obtain⟨gr,L8,aR,cR,xe,Lp,nK,Er,hSR⟩:=Y4.oO ha;obtain⟨gl,L9,aL,cL,xg,Lu,Lr,Es,yI⟩:=Y4.qM hb;have haw:=Y4.good.wf a _ (ae ha);have hbw:=Y4.good.wf b _ (ae hb);have HW:=aI Y4.good.wf;go_wp2
  go_loopw [10,12,40] (λis _ ii wr=>∃k:Nat,k<=(s.D[a]).2.length/\ii=.int .i64 ((k:Nat):Int)/\is=.bool true/\jd pp h s W0 s wr/\Hid (∀j (h:j<(s.D[a]).2.length),j<k->¬Ge (vl s.D b) (vl s.D (s.D[a]).2[j]))) (λ_ _ ii _=>(s.D[a]).2.length-(intOf ii).toNat)
  case atStart=>exact⟨0,az _,rfl,rfl,jd.refl Y4 (fJ _ _),λj _ h=>absurd h (by omega)⟩
  case round=>
   obtain⟨k,hk,rfl,rfl,hgo,HN⟩:=hrel;by_cases hlt:k<(s.D[a]).2.length
   .have h1:((k:Nat):Int)<(((s.D[a]).2.length:Nat):Int):=by omega
    have hI:=(nN.go hSR (Off.lists Y4) hgo).out;obtain⟨aR',cR',e,-,hln,hcl⟩:=hI;rw[aP]at hln;simp only[gz,aP,true_and]at e;obtain⟨rfl,rfl⟩:=e;obtain⟨bR,oR,rfl,hcell⟩:=hcl (by rw[aP];omega);have hck:=hcell k (by rw[aP];exact hlt);rw[fD hlt]at hck;have wY:=haw.2 _ (aj hlt);have IH:=aI (ih pp h s b (s.D[a]).2[k] wr hgo.pool hb (by omega) (by omega));have Zh:=aI hSR;have PZ:=aI yI;clear hcl hcell hSR yI ih;by_cases hge:Ge (vl s.D b) (vl s.D (s.D[a]).2[k])
    .have yM:=aI hge
     go_upto_region 21 with(go_at_call 144;refine IH.out.mono ?_;rintro e wX ⟨g,rfl,hg,fZ⟩
                            obtain rfl:g=true:=hg.2 yM.out;have BZ:=hgo.trans fZ;have I8:=aI (show(false=true↔Ge (vl s.D a) (vl s.D b)) by simpa using xV HW.out ha hlt yM.out);clear hg)
     have Nv:=BZ.pool;have hkX:=BZ.keep.block _ hnb YS;have Uc:wX.cell? ⟨w.heap.size,0,none⟩=some (.int .i64 (a:Int)):=(lh hkX).trans aaX;have Ub:wX.cell? ⟨w.heap.size,1,none⟩=some (.int .i64 (b:Int)):=(lh hkX).trans aaW;obtain⟨fX,hMX,hfX⟩:=Nv.rV;have c4X:=Nv.c4;refine mQ (λW=>W.cell? ⟨pp,4,none⟩=some (.map (some (h+1)))/\W.cell? ⟨w.heap.size,0,none⟩=some (.int .i64 (a:Int))/\W.cell? ⟨w.heap.size,1,none⟩=some (.int .i64 (b:Int))) [6] yR ⟨c4X,Uc,Ub⟩ (λai aa=>?_);(refine bg 0 ai aa ?_;refine bg 1 ai aa ?_;refine bg 2 ai aa ?_;refine bg 3 ai aa ?_;refine bg 4 ai aa ?_;refine bg 5 ai aa ?_);refine mM ai [6] [_] ?_;clear ai aa;go_wp2_with (at_mapUpdate;refine iO rfl _ _ _ 151 rfl 219 4 Fq underlying151 (h+1) 810000000000 fX rfl (hMX.keep rfl) (by unfold maxLen;omega) (.agg #[.int .i64 (a:Int),.int .i64 (b:Int)]) _ rfl rfl ⟨kl,hkl⟩ ?_;intro wZ hMZ hgZ)
     go_ret
     exact⟨_,rfl,by simpa using I8.out,Ag.trans (BZ.trans ((jd.refl Nv (dz ⟨1,rfl⟩)).trans (bX.EX (Nv.ext (dz ⟨1,rfl⟩)) hfX hMZ hgZ ha hb (by simpa using I8.out))))⟩
    .have yM:=aI hge
     go_wp2_with (go_at_call 144;refine IH.out.mono ?_;rintro e wX ⟨g,rfl,hg,fZ⟩
                  obtain rfl:g=false:=(by simpa using(λe=>yM.out (hg.1 e)));clear hg)
     go_roundw
     case rel=>exact⟨k+1,by omega,by go_num,rfl,hgo.trans fZ,y7 hlt HN yM.out⟩
     case measure=>simp[intOf];omega
   .have h1:¬(((k:Nat):Int)<(((s.D[a]).2.length:Nat):Int)):=by omega
    have hkl:k=(s.D[a]).2.length:=(by omega);subst hkl;have hkn:=hgo.keep;obtain⟨wo,rfl⟩:∃wo:World,wo=wr:=⟨_,rfl⟩;have cpl:=hgo.pool.qM hb;obtain⟨gl',akL,aL',cL',akG,ajV,ajU,anS,Xz⟩:=cpl;have PZ:=aI yI;clear yI hSR Er Es xg xe;go_wp2
    go_loopw [10,14,58] (λis _ ii wr=>∃k:Nat,k<=(s.D[b]).1.length/\ii=.int .i64 ((k:Nat):Int)/\is=.bool true/\jd pp h s W0 s wr/\jd pp h s wo s wr/\Hid (∀j (h:j<(s.D[b]).1.length),j<k->¬Ge (vl s.D (s.D[b]).1[j]) (vl s.D a))) (λ_ _ ii _=>(s.D[b]).1.length-(intOf ii).toNat)
    case atStart=>exact⟨0,az _,rfl,rfl,hgo,jd.refl hgo.pool (fJ _ _),λj _ h=>absurd h (by omega)⟩
    case round=>
     clear hkn;have hPo:=hgo.pool;clear hgo;obtain⟨k,hk,rfl,rfl,hgo,ac1,vY⟩:=hrel;by_cases hlt:k<(s.D[b]).1.length
     .have h1:((k:Nat):Int)<(((s.D[b]).1.length:Nat):Int):=by omega
      have hI:=(nN.go Xz (Off.lists hPo) ac1).out;obtain⟨Ey,Et,e,-,hln,hcl⟩:=hI;rw[aP]at hln;simp only[gz,aP,true_and]at e;obtain⟨rfl,rfl⟩:=e;obtain⟨bR,oR,rfl,hcell⟩:=hcl (by rw[aP];omega);have hck:=hcell k (by rw[aP];exact hlt);rw[fD hlt]at hck;have wY:=hbw.1 _ (aj hlt);have IH:=aI (ih pp h s (s.D[b]).1[k] a wr hgo.pool (by omega) ha (by omega));have aoh:=aI Xz;clear hcl hcell Xz ih;by_cases hge:Ge (vl s.D (s.D[b]).1[k]) (vl s.D a)
      .have yM:=aI hge
       go_upto_region 21 with(go_at_call 144;refine IH.out.mono ?_;rintro e wX ⟨g,rfl,hg,fZ⟩
                              obtain rfl:g=true:=hg.2 yM.out;have BZ:=hgo.trans fZ;have I8:=aI (show(false=true↔Ge (vl s.D a) (vl s.D b)) by simpa using xW HW.out hb hlt yM.out);clear hg)
       have Nv:=BZ.pool;have hkX:=BZ.keep.block _ hnb YS;have Uc:wX.cell? ⟨w.heap.size,0,none⟩=some (.int .i64 (a:Int)):=(lh hkX).trans aaX;have Ub:wX.cell? ⟨w.heap.size,1,none⟩=some (.int .i64 (b:Int)):=(lh hkX).trans aaW;obtain⟨fX,hMX,hfX⟩:=Nv.rV;have c4X:=Nv.c4;refine mQ (λW=>W.cell? ⟨pp,4,none⟩=some (.map (some (h+1)))/\W.cell? ⟨w.heap.size,0,none⟩=some (.int .i64 (a:Int))/\W.cell? ⟨w.heap.size,1,none⟩=some (.int .i64 (b:Int))) [6] yR ⟨c4X,Uc,Ub⟩ (λai aa=>?_);(refine bg 0 ai aa ?_;refine bg 1 ai aa ?_;refine bg 2 ai aa ?_;refine bg 3 ai aa ?_;refine bg 4 ai aa ?_;refine bg 5 ai aa ?_);refine mM ai [6] [_] ?_;clear ai aa;go_wp2_with (at_mapUpdate;refine iO rfl _ _ _ 151 rfl 219 4 Fq underlying151 (h+1) 810000000000 fX rfl (hMX.keep rfl) (by unfold maxLen;omega) (.agg #[.int .i64 (a:Int),.int .i64 (b:Int)]) _ rfl rfl ⟨kl,hkl⟩ ?_;intro wZ hMZ hgZ)
       go_ret
       exact⟨_,rfl,by simpa using I8.out,Ag.trans (BZ.trans ((jd.refl Nv (dz ⟨1,rfl⟩)).trans (bX.EX (Nv.ext (dz ⟨1,rfl⟩)) hfX hMZ hgZ ha hb (by simpa using I8.out))))⟩
      .have yM:=aI hge
       go_wp2_with (go_at_call 144;refine IH.out.mono ?_;rintro e wX ⟨g,rfl,hg,fZ⟩
                    obtain rfl:g=false:=(by simpa using(λe=>yM.out (hg.1 e)));clear hg)
       go_roundw
       case rel=>exact⟨k+1,by omega,by go_num,rfl,hgo.trans fZ,ac1.trans fZ,wT hlt vY yM.out⟩
       case measure=>simp[intOf];omega
     .have h1:¬(((k:Nat):Int)<(((s.D[b]).1.length:Nat):Int)):=by omega
      have I8:=aI (show(true=true↔Ge (vl s.D a) (vl s.D b)) by simpa using D5 HW.out ha hb (λj h=>HN.out j h h) (λj h=>vY.out j h (by omega)));obtain⟨wX,rfl⟩:∃wX:World,wX=wr:=⟨_,rfl⟩;have BZ:=hgo;clear Xz ih;go_upto_region 21 with fail
      have Nv:=BZ.pool;have hkX:=BZ.keep.block _ hnb YS;have Uc:wX.cell? ⟨w.heap.size,0,none⟩=some (.int .i64 (a:Int)):=(lh hkX).trans aaX;have Ub:wX.cell? ⟨w.heap.size,1,none⟩=some (.int .i64 (b:Int)):=(lh hkX).trans aaW;obtain⟨fX,hMX,hfX⟩:=Nv.rV;have c4X:=Nv.c4;refine mQ (λW=>W.cell? ⟨pp,4,none⟩=some (.map (some (h+1)))/\W.cell? ⟨w.heap.size,0,none⟩=some (.int .i64 (a:Int))/\W.cell? ⟨w.heap.size,1,none⟩=some (.int .i64 (b:Int))) [6] yR ⟨c4X,Uc,Ub⟩ (λai aa=>?_);(refine bg 0 ai aa ?_;refine bg 1 ai aa ?_;refine bg 2 ai aa ?_;refine bg 3 ai aa ?_;refine bg 4 ai aa ?_;refine bg 5 ai aa ?_);refine mM ai [6] [_] ?_;clear ai aa;go_wp2_with (at_mapUpdate;refine iO rfl _ _ _ 151 rfl 219 4 Fq underlying151 (h+1) 810000000000 fX rfl (hMX.keep rfl) (by unfold maxLen;omega) (.agg #[.int .i64 (a:Int),.int .i64 (b:Int)]) _ rfl rfl ⟨kl,hkl⟩ ?_;intro wZ hMZ hgZ)
      go_ret
      exact⟨_,rfl,by simpa using I8.out,Ag.trans (BZ.trans ((jd.refl Nv (dz ⟨1,rfl⟩)).trans (bX.EX (Nv.ext (dz ⟨1,rfl⟩)) hfX hMZ hgZ ha hb (by simpa using I8.out))))⟩
theorem ab6:∀m,UJ m:=by
 intro m
 induction m with
 |zero=>intro pp h s a b w _ _ _ h;omega
 |succ m ih=>exact XM ih
theorem xN(pp h:Nat)(s:iK)(a b:Nat)(w:World)(hP:bX w pp h s)(ha:a<s.D.length)(hb:b<s.D.length):Calls prog 144 #[.pointer (some ⟨pp,0,none⟩),.int .i64 (a:Int),.int .i64 (b:Int)] w (Vb pp h s a b w):=
 ab6 (a+b+1) pp h s a b w hP ha hb (by omega)
end
