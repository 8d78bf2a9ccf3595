/- 17 -/
import Derived.Test.YtplgooajigigkaaGreatDoorK16
set_option maxRecDepth 100000
set_option maxHeartbeats 4000000
namespace Go.Proofs.YtplgooajigigkaaGreatDoor
open Tryz
section
open Go.RowKit
open bE (dh Nd vl Same)
variable {c:Array Value} {w w1:World} {o:Option Nat} {pp n:Nat} {T:TypeId} {X:Obj} {v:Value} {D E:dh} {f:Value->Option Value}
theorem ko{a b c:World}{G:Nat->Prop}(h:Ext a b)(k:fJ G b c)(hG:∀x,G x->a.heap.size<=x):Ext a c:=
 ⟨k.os.trans h.os,k.tape.trans h.tape,k.output.trans h.output,bZ h.size k.size,λx hx=>(k.block x (bg hx h.size) (λg=>by have:=hG x g;omega)).trans (h.block x hx)⟩
theorem fP{w':World}(g:w.grownBy w' o):fJ (λb=>o=some b) w w':=⟨g.os,g.tape,g.output,g.size,λk hk hn=>g.block k hk (λe=>hn e.symm)⟩
theorem zm(h:w.heap[pp]?=some (.cells c T (0,0))):pp<w.heap.size/\(∀j v,c[j]?=some v->w.cell? ⟨pp,j,none⟩=some v)/\∀j,w.frozen? ⟨pp,j,none⟩=false:=by
 refine⟨bW h,λj v hj=>(bQ w pp j _ _ _ h).trans hj,λj=>?_⟩;simp[World.frozen?,h]
theorem Em(h:w.heap[pp]?=some (.cells c T (0,0)))(hg:(w.alloc X).grownBy w1 o)(ho:o≠some pp):w1.heap[pp]?=some (.cells c T (0,0)):=by
 have hl:=bW h;rw[hg.block pp (by rw[fU];omega) (Ne.symm ho),jo _ _ _ hl];exact h
theorem Jc{B e size:Nat}{xs:List Value}(h:w.ownsRow B e size v n xs)(hg:(w.alloc X).grownBy w1 o)(ho:∀b,v.ownBlock=some b->o≠some b):w1.ownsRow B e size v n xs:=
 bS (dD h (bY (gz _ _) X)) (fP hg) ho
theorem vV{j:Nat}{v1:Value}{e:TypeId}{ys:List Value}
 (hb:w.heap[pp]?=some (.cells c T (0,0))) (hv:v.ownBlock≠some pp) (hg:(w.alloc X).grownBy w1 v.ownBlock) (ho:w1.ownsRow 0 e 1 v1 n ys) (hl:pX (w.alloc X) v v1):
 (w1.setCell ⟨pp,j,none⟩ v1).heap[pp]?=some (.cells (c.setIfInBounds j v1) T (0,0))/\(w1.setCell ⟨pp,j,none⟩ v1).ownsRow 0 e 1 v1 n ys/\fJ (λb=>b=pp\/v.ownBlock=some b) w (w1.setCell ⟨pp,j,none⟩ v1)/\(v1.ownBlock=v.ownBlock\/∃g,v1.ownBlock=some g/\w.heap.size<=g)/\v1.ownBlock≠some pp:=by
 have hlt:=bW hb;have h1:=Em hb hg hv;have hL:v1.ownBlock=v.ownBlock\/∃g,v1.ownBlock=some g/\w.heap.size<=g:=by
  rcases hl with h|⟨g,h,k⟩
  .exact .inl h
  .rw[fU]at k;exact .inr ⟨g,h,by omega⟩
 have Ke:v1.ownBlock≠some pp:=by
  rcases hL with h|⟨g,h,k⟩
  .rw[h];exact hv
  .rw[h];intro e;injection e with e;omega
 refine⟨gK _ _ _ _ _ _ h1,ownsRow_setCell_other ho (a:=⟨pp,j,none⟩) Ke v1,⟨hg.os,hg.tape,hg.output,?_,λk hk hn=>?_⟩,hL,Ke⟩
 .rw[World.size_setCell];have:=hg.size;rw[fU]at this;omega
 .rw[tQ _ _ _ _ (λe=>hn (.inl e)),hg.block k (by rw[fU];omega) (λe=>hn (.inr e.symm)),jo _ _ _ hk]
theorem CX.more{cn:Nat->Option Nat}(h:CX D cn)(hD:bE.WF D)(hE:bE.WF (D++E)):CX (D++E) cn:=by
 refine⟨λi j hi=>?_,λi j hi=>?_,h.self,λi j nd hi hn=>?_⟩
 .have:=h.lt i j hi;simp;omega
 .have hl:=h.lt i j hi
  rw[bE.jJ hD hE i hl.1,bE.jJ hD hE j hl.2];exact h.ok i j hi
 .have hl:=h.lt i j hi
  rw[dN hl.1]at hn;exact h.sub i j nd hi hn
theorem GR(hD:bE.WF D)(hE:bE.WF (D++E))(l:List Nat)(hl:∀x,x∈l->x<D.length):ig (D++E) l=ig D l:=by
 have key:∀(k:List Nat) (m:Int),(∀x,x∈k->x<D.length)->k.foldl (λm x=>max m ((bE.born (vl (D++E) x):Int)+1)) m=k.foldl (λm x=>max m ((bE.born (vl D x):Int)+1)) m:=by
  intro k
  induction k with
  |nil=>intro m _;rfl
  |cons x k ih=>
   intro m hx;simp only[List.foldl_cons];rw[bE.jJ hD hE x (hx x (by simp))];exact ih _ (λy hy=>hx y (by simp[hy]))
 exact key _ _ hl
def IX(pp h:Nat)(s:jF)(l r:List Nat)(w:World)(e:Ending)(w':World):Prop:=
 ∃s' i,e=.returned (.int .i64 ((i:Nat):Int))/\jr pp h s w s' w'/\jN s.D l r s'.D i/\s'.cn=s.cn
theorem AJ{key val k:Value}(h:upd (λ_ _=>Classical.propDecidable _) f key val k=some v):(k=key/\v=val)\/f k=some v:=by
 by_cases c:k=key
 .subst c;rw[upd_same]at h;injection h with h;exact .inl ⟨rfl,h.symm⟩
 .rw[upd_ne c]at h;exact .inr h
theorem VW{wp w2 w3 w4:World}{h:Nat}{s:jF}{l r:List Nat}{L R Gg Nf Kl:Value}{xl xr:List Value}
 (hP:dA w pp h s) (hE:Ext w wp) (hroom:s.D.length+1<=900000) (hl:∀x,x∈l->x<s.D.length) (hr:∀x,x∈r->x<s.D.length)
 (hL:Ints wp L (dB (bO l))) (hR:Ints wp R (dB (bO r))) (fL:∀b,L.ownBlock=some b->w.heap.size<=b/\b<wp.heap.size) (fR:∀b,R.ownBlock=some b->w.heap.size<=b/\b<wp.heap.size)
 (hf1:∀i (hi:i<s.D.length),f (xI s.D[i])=some (.int .i64 (i:Int))) (hf2:∀k v,f k=some v->∃i,∃hi:i<s.D.length,k=xI s.D[i]/\v=.int .i64 (i:Int)) (hfn:f (xI (bO l,bO r))=none)
 (hM:jb prog 9 w1 h (s.D.length+1) (upd (λ_ _=>Classical.propDecidable _) f (xI (bO l,bO r)) (.int .i64 ((s.D.length:Nat):Int)))) (hg1:wp.grownBy w1 (some h))
 (hxl:wp.ownsRow 0 41 1 s.lv s.D.length xl) (hil:Items F7 s.S 1 xl (s.D.map (·.1)) wp) (Gh:wp.ownsRow 0 41 1 s.rv s.D.length xr) (hir:Items F7 s.S 1 xr (s.D.map (·.2)) wp)
 (hg2:(w1.alloc (.cells #[L] 41)).grownBy w2 s.lv.ownBlock) (ho2:w2.ownsRow 0 41 1 Gg (s.D.length+1) (xl++[L])) (hl2:pX (w1.alloc (.cells #[L] 41)) s.lv Gg)
 (hg3:((w2.setCell ⟨pp,0,none⟩ Gg).alloc (.cells #[R] 41)).grownBy w3 s.rv.ownBlock) (ho3:w3.ownsRow 0 41 1 Nf (s.D.length+1) (xr++[R])) (hl3:pX ((w2.setCell ⟨pp,0,none⟩ Gg).alloc (.cells #[R] 41)) s.rv Nf)
 (hg4:((w3.setCell ⟨pp,1,none⟩ Nf).alloc (.cells #[.int .i64 (ig s.D (bO l++bO r))] 3)).grownBy w4 s.bv.ownBlock) (Dx:w4.ownsRow 0 3 1 Kl (s.D.length+1) ((s.D.mapIdx λi _=>(bE.born (vl s.D i):Int)).map (Value.int .i64)++[.int .i64 (ig s.D (bO l++bO r))])) (hl4:pX ((w3.setCell ⟨pp,1,none⟩ Nf).alloc (.cells #[.int .i64 (ig s.D (bO l++bO r))] 3)) s.bv Kl):
 IX pp h s l r w (.returned (.int .i64 ((s.D.length:Nat):Int))) (w4.setCell ⟨pp,2,none⟩ Kl):=by
 have hPp:=hP.ext hE;have hg:=hP.good;have k1:=jA hg1;have hb1:w1.heap[pp]?=_:=(k1.block pp (bW hPp.box) (λe=>by have:=hP.ap1;omega)).trans hPp.box;have l2:s.lv.ownBlock≠some pp:=λe=>(hP.MU pp (.inl e)).1 rfl
 have r2:s.rv.ownBlock≠some pp:=λe=>(hP.MU pp (.inr (.inl e))).1 rfl
 have b2:s.bv.ownBlock≠some pp:=λe=>(hP.MU pp (.inr (.inr e))).1 rfl
 obtain⟨hb2,hw2,k2,z2,q2⟩:=vV (j:=0) hb1 l2 hg2 ho2 hl2;obtain⟨hb3,hw3,k3,z3,q3⟩:=vV (j:=1) hb2 r2 hg3 ho3 hl3;obtain⟨hb4,hw4,k4,z4,q4⟩:=vV (j:=2) hb3 b2 hg4 Dx hl4;have s0:=hE.size;have s1:=k1.size;have s2:w1.heap.size<=_:=k2.size;have s3:=k3.size;have s4:=k4.size;have hlv:=hxl.lt;have hrv:=Gh.lt;have hbv:=hPp.born.lt;have hmap:∀{m},m<h+1+1+1+1+1->m<w.heap.size:=λhm=>hP.pJ hm
 have oL:∀b,Gg.ownBlock=some b->s.lv.ownBlock=some b\/wp.heap.size<=b:=λb hb=>by
  rcases z2 with e|⟨g,e,k⟩
  .exact .inl (e ▸ hb)
  .rw[e]at hb;injection hb with hb;exact .inr (by omega)
 have oR:∀b,Nf.ownBlock=some b->s.rv.ownBlock=some b\/(w2.setCell ⟨pp,0,none⟩ Gg).heap.size<=b:=λb hb=>by
  rcases z3 with e|⟨g,e,k⟩
  .exact .inl (e ▸ hb)
  .rw[e]at hb;injection hb with hb;exact .inr (by omega)
 have oB:∀b,Kl.ownBlock=some b->s.bv.ownBlock=some b\/(w3.setCell ⟨pp,1,none⟩ Nf).heap.size<=b:=λb hb=>by
  rcases z4 with e|⟨g,e,k⟩
  .exact .inl (e ▸ hb)
  .rw[e]at hb;injection hb with hb;exact .inr (by omega)
 have lLt:∀b,Gg.ownBlock=some b->b<(w2.setCell ⟨pp,0,none⟩ Gg).heap.size:=λb hb=>(hw2.lt b hb).2
 have rLt:∀b,Nf.ownBlock=some b->b<(w3.setCell ⟨pp,1,none⟩ Nf).heap.size:=λb hb=>(hw3.lt b hb).2
 have K:fJ (lg pp h s) wp (w4.setCell ⟨pp,2,none⟩ Kl):=by
  refine((fJ.trans (F:=lg pp h s) ⟨k1.os,k1.tape,k1.output,k1.size,λk hk hn=>k1.block k hk (λe=>hn (.inr (.inl (by omega))))⟩ (⟨k2.os,k2.tape,k2.output,k2.size,k2.block⟩:fJ (λb=>b=pp\/s.lv.ownBlock=some b) w1 _) ?_).trans k3 ?_).trans k4 ?_
  .rintro x _ (rfl|h);exact .inl rfl;exact .inr (.inr (.inl h))
  .rintro x _ (rfl|h);exact .inl rfl;exact .inr (.inr (.inr (.inl h)))
  .rintro x _ (rfl|h);exact .inl rfl;exact .inr (.inr (.inr (.inr h)))
 have akq:(w4.setCell ⟨pp,2,none⟩ Kl).ownsRow 0 41 1 Gg (s.D.length+1) (xl++[L]):=by
  refine bS (bS hw2 k3 ?_) k4 ?_
  .rintro b hb (rfl|hc)
   .exact q2 hb
   .rcases oL b hb with h1|h1
    .exact(hP.ap3 b h1).1 hc
    .have:=(hrv b hc).2;omega
  .rintro b hb (rfl|hc)
   .exact q2 hb
   .rcases oL b hb with h1|h1
    .exact(hP.ap3 b h1).2 hc
    .have:=(hbv b hc).2;omega
 have akp:(w4.setCell ⟨pp,2,none⟩ Kl).ownsRow 0 41 1 Nf (s.D.length+1) (xr++[R]):=by
  refine bS hw3 k4 ?_;rintro b hb (rfl|hc)
  .exact q3 hb
  .rcases oR b hb with h1|h1
   .exact hP.ap4 b h1 hc
   .have:=(hbv b hc).2;omega
 have hmk:∀m,h<=m->m<h+1+1+1+1+1->(w4.setCell ⟨pp,2,none⟩ Kl).heap[m]?=w1.heap[m]?:=λm m1 m2=>by
  have hm:=hmap m2;have Ke:=hP.ap1;have n1:m≠pp:=by omega
  have nn:∀b,s.lv.ownBlock=some b\/s.rv.ownBlock=some b\/s.bv.ownBlock=some b->b≠m:=λb hb=>by have:=(hP.MU b hb).2;omega
  rw[k4.block m (by omega) (by rintro(e|e);exact n1 e;exact nn m (.inr (.inr e)) rfl),k3.block m (by omega) (by rintro(e|e);exact n1 e;exact nn m (.inr (.inl e)) rfl),k2.block m (by omega) (by rintro(e|e);exact n1 e;exact nn m (.inl e) rfl)]
 have agN:∀m,h<m->m<h+1+1+1+1+1->(w4.setCell ⟨pp,2,none⟩ Kl).heap[m]?=wp.heap[m]?:=λm m1 m2=>by
  rw[hmk m (by omega) m2];exact k1.block m (by have:=hmap m2;omega) (by omega)
 have hnd:(bO l,bO r) ∉ s.D:=λhm=>by
  obtain⟨i,hi,e⟩:=aQ.1 hm;have:=hf1 i hi;rw[e,hfn]at this;cases this
 have hgn:bE.Good (s.D++[(bO l,bO r)]):=hg.snoc (λk hk=>hl k (cz.1 hk)) (λk hk=>hr k (cz.1 hk)) (kC l) (kC r) hnd;have hvl:∀x,x<s.D.length->vl (s.D++[(bO l,bO r)]) x=vl s.D x:=λx hx=>bE.jJ hg.wf hgn.wf x hx
 have hlast:(s.D++[(bO l,bO r)])[s.D.length]?=some (bO l,bO r):=by simp
 have hlen:(s.D++[(bO l,bO r)]).length=s.D.length+1:=by simp
 have hmem:∀x,x∈bO l++bO r->x<s.D.length:=λx hx=>by
  rcases bq.1 hx with h|h
  .exact hl x (cz.1 h)
  .exact hr x (cz.1 h)
 have hb0:=nu hg.wf _ hmem;have hbn:=GR hg.wf hgn.wf _ hmem;have hlts:∀b,s.S b->b<wp.heap.size/\¬lg pp h s b:=λb hb=>⟨hPp.Ae hb,hP.ap5 b hb⟩
 have hKw:∀b,w.heap.size<=b->¬lg pp h s b:=λb hb hc=>by have:=hP.uZ hc;omega
 let S':Nat->Prop:=λb=>s.S b\/L.ownBlock=some b\/R.ownBlock=some b
 have hS':∀b,S' b->b<wp.heap.size/\¬lg pp h s b:=by
  rintro b (hb|hb|hb)
  .exact hlts b hb
  .exact⟨(fL b hb).2,hKw b (fL b hb).1⟩
  .exact⟨(fR b hb).2,hKw b (fR b hb).1⟩
 have acb:∀{v:Value} {k:List Nat},Ints wp v (dB k)->(∀b,v.ownBlock=some b->S' b)->oN S' (λW=>F7 W [v] k) wp:=λ{v k} hv hb=>by
  obtain⟨a,c,rfl,-⟩:=id hv;refine⟨λb hb=>(hS' b hb).1,λw2 h2=>⟨a,c,by rw[bG],?_⟩⟩;have:=(hv.sup (λb hb=>(hS' b hb).1) hb).2 w2 h2;rw[bG]at this;exact this
 have adh:Items F7 S' 1 (xl++[L]) (s.D.map (·.1)++[bO l]) wp:=(hil.mono (λb hb=>.inl hb) (λb hb=>(hS' b hb).1)).snoc rfl (acb hL λb hb=>.inr (.inl hb));have adg:Items F7 S' 1 (xr++[R]) (s.D.map (·.2)++[bO r]) wp:=(hir.mono (λb hb=>.inl hb) (λb hb=>(hS' b hb).1)).snoc rfl (acb hR λb hb=>.inr (.inr hb));have Xi:∀b,S' b->¬lg pp h s b:=λb hb=>(hS' b hb).2
 have akC:∀i (hi:i<s.D.length),xI s.D[i]≠xI (bO l,bO r):=λi hi e=>by
  have:=hf1 i hi;rw[e,hfn]at this;cases this
 have VN:∀b,lg pp h ⟨Gg,Nf,Kl,s.D++[(bO l,bO r)],S',s.cn⟩ b->lg pp h s b\/wp.heap.size<=b:=by
  rintro b (rfl|hb|hb|hb|hb)
  .exact .inl (.inl rfl)
  .exact .inl (.inr (.inl hb))
  .rcases oL b hb with h1|h1
   .exact .inl (.inr (.inr (.inl h1)))
   .exact .inr h1
  .rcases oR b hb with h1|h1
   .exact .inl (.inr (.inr (.inr (.inl h1))))
   .exact .inr (by omega)
  .rcases oB b hb with h1|h1
   .exact .inl (.inr (.inr (.inr (.inr h1))))
   .exact .inr (by omega)
 have amZ:∀b,Gg.ownBlock=some b->b≠pp/\(b<h\/h+1+1+1+1+1<=b):=λb hb=>by
  rcases oL b hb with h1|h1
  .exact hP.MU b (.inl h1)
  .exact⟨λe=>q2 (e ▸ hb),.inr (by have:=hP.pJ (m:=h+1+1+1+1) (by omega);omega)⟩
 have amY:∀b,Nf.ownBlock=some b->b≠pp/\(b<h\/h+1+1+1+1+1<=b):=λb hb=>by
  rcases oR b hb with h1|h1
  .exact hP.MU b (.inr (.inl h1))
  .exact⟨λe=>q3 (e ▸ hb),.inr (by have:=hP.pJ (m:=h+1+1+1+1) (by omega);omega)⟩
 have am0:∀b,Kl.ownBlock=some b->b≠pp/\(b<h\/h+1+1+1+1+1<=b):=λb hb=>by
  rcases oB b hb with h1|h1
  .exact hP.MU b (.inr (.inr h1))
  .exact⟨λe=>q4 (e ▸ hb),.inr (by have:=hP.pJ (m:=h+1+1+1+1) (by omega);omega)⟩
 obtain⟨n3,f3,o1,o2⟩:=hPp.orders;obtain⟨n4,f4,p1,p2,p3⟩:=hPp.CO;refine⟨⟨Gg,Nf,Kl,s.D++[(bO l,bO r)],S',s.cn⟩,s.D.length,rfl,⟨?_,?_,?_,λb hb=>.inl hb,?_,⟨_,rfl⟩,λ_ _ h=>h⟩,⟨hlast,.inr rfl⟩,rfl⟩
 .refine⟨hgn,by rw[hlen];exact hroom,hP.yA.more hg.wf hgn.wf,hb4,⟨xl++[L],?_,?_⟩,⟨xr++[R],?_,?_⟩,?_,⟨upd (λ_ _=>Classical.propDecidable _) f (xI (bO l,bO r)) (.int .i64 ((s.D.length:Nat):Int)),?_,?_,?_⟩,⟨n3,f3,o1.keep (agN _ (by omega) (by omega)),?_⟩,⟨n4,f4,p1.keep (agN _ (by omega) (by omega)),p2,p3⟩,hP.ap1,?_,?_,?_,?_,?_,?_⟩
  .rw[hlen];exact akq
  .rw[dw];exact adh.keep K Xi
  .rw[hlen];exact akp
  .rw[dw];exact adg.keep K Xi
  .have e:((s.D++[(bO l,bO r)]).mapIdx λi _=>(bE.born (vl (s.D++[(bO l,bO r)]) i):Int))=(s.D.mapIdx λi _=>(bE.born (vl s.D i):Int))++[ig s.D (bO l++bO r)]:=by
    rw[List.mapIdx_append];congr 1
    .refine rz (by simp) λi h1 h2=>?_
     simp only[List.getElem_mapIdx];rw[hvl i (by simpa using h2)]
    .simp only[List.mapIdx_cons,List.mapIdx_nil,fI]
     rw[uK hgn.wf hlast (l:=bO l) (r:=bO r) (λ_=>Iff.rfl) (λ_=>Iff.rfl) (by rw[hbn];exact hb0.1),hbn]
   show World.ownsRow _ 0 _ 1 Kl (s.D++[(bO l,bO r)]).length _;rw[e,dw,hlen];exact hw4
  .have:=hM.keep (w':=w4.setCell ⟨pp,2,none⟩ Kl) (hmk h (aJ _) (by omega))
   rw[hlen];exact this
  .intro i hi
   have hi':i<s.D.length+1:=(by rw[<-hlen];exact hi);by_cases c:i<s.D.length
   .have e:(s.D++[(bO l,bO r)])[i]'hi=s.D[i]:=dM c
    rw[show(⟨Gg,Nf,Kl,s.D++[(bO l,bO r)],S',s.cn⟩:jF).D[i]'hi=s.D[i] from e,upd_ne (akC i c)];exact hf1 i c
   .have c':i=s.D.length:=by omega
    subst c';have e:(s.D++[(bO l,bO r)])[s.D.length]'hi=(bO l,bO r):=(by simp);rw[show(⟨Gg,Nf,Kl,s.D++[(bO l,bO r)],S',s.cn⟩:jF).D[s.D.length]'hi=(bO l,bO r) from e];exact upd_same _ _ _
  .intro k v hk
   rcases AJ hk with⟨rfl,rfl⟩|hk
   .refine⟨s.D.length,by rw[hlen];omega,?_,rfl⟩
    have e:(s.D++[(bO l,bO r)])[s.D.length]'(by rw[hlen];omega)=(bO l,bO r):=(by simp);exact congrArg xI e.symm
   .obtain⟨i,hi,e1,e2⟩:=hf2 k v hk
    exact⟨i,by rw[hlen];omega,by rw[e1];exact congrArg xI (dM hi).symm,e2⟩
  .intro k v hk
   obtain⟨a,b,g,e1,e2,h1,h2,h3⟩:=o2 k v hk;refine⟨a,b,g,e1,e2,by rw[hlen];omega,by rw[hlen];omega,?_⟩;rw[show vl (⟨Gg,Nf,Kl,s.D++[(bO l,bO r)],S',s.cn⟩:jF).D a=vl s.D a from hvl a h1,show vl (⟨Gg,Nf,Kl,s.D++[(bO l,bO r)],S',s.cn⟩:jF).D b=vl s.D b from hvl b h2];exact h3
  .rintro b (hb|hb|hb)
   .exact amZ b hb
   .exact amY b hb
   .exact am0 b hb
  .intro b hb
   have hz:=lLt b hb;refine⟨λhc=>?_,λhc=>?_⟩
   .rcases oR b hc with h1|h1
    .rcases oL b hb with h2|h2
     .exact(hP.ap3 b h2).1 h1
     .have:=(hrv b h1).2;omega
    .omega
   .rcases oB b hc with h1|h1
    .rcases oL b hb with h2|h2
     .exact(hP.ap3 b h2).2 h1
     .have:=(hbv b h1).2;omega
    .omega
  .intro b hb hc
   have hz:=rLt b hb;rcases oB b hc with h1|h1
   .rcases oR b hb with h2|h2
    .exact hP.ap4 b h2 h1
    .have:=(hbv b h1).2;omega
   .omega
  .intro b hb hc
   rcases VN b hc with h1|h1
   .exact(hS' b hb).2 h1
   .have:=(hS' b hb).1;omega
  .have JC:=hP.pJ (m:=h+1+1+1+1) (by omega)
   rintro b (hb|hb|hb)
   .exact hP.ap6 b hb
   .have:=(fL b hb).1;omega
   .have:=(fR b hb).1;omega
  .intro m hm
   have:=hP.pJ hm;omega
 .exact(jR hE).trans K (λ_ _ h=>h)
 .intro b hb
  rcases VN b hb with h1|h1
  .exact .inl h1
  .exact .inr (by omega)
 .rintro b (hb|hb|hb)
  .exact .inl hb
  .exact .inr (fL b hb).1
  .exact .inr (fR b hb).1
end
section
open Go.RowKit
open bE (dh Nd vl Same Ge)
variable {w w':World} {pp h:Nat} {s:jF}
theorem dA.maps(k:dA w pp h s){G:Nat->Prop}(hk:fJ G w w')(hG:∀b,G b->h<=b/\b<h+1+1+1){DD:Nat->Option Nat}(hc:CX s.D DD)
 (find:∃f,jb prog 9 w' h s.D.length f/\(∀i (hi:i<s.D.length),f (xI s.D[i])=some (.int .i64 (i:Int)))/\∀k v,f k=some v->∃i,∃hi:i<s.D.length,k=xI s.D[i]/\v=.int .i64 (i:Int))
 (orders:∃n f,jb prog 219 w' (h+1) n f/\∀k v,f k=some v->∃(a b:Nat) (g:Bool),k=.agg #[.int .i64 (a:Int),.int .i64 (b:Int)]/\v=.bool g/\a<s.D.length/\b<s.D.length/\(g=true↔bE.Ge (vl s.D a) (vl s.D b)))
 (CO:∃n f,jb prog 3 w' (h+1+1) n f/\(∀i:Nat,f (.int .i64 (i:Int))=(DD i).map λj=>.int .i64 (j:Int))/\∀k v,f k=some v->∃i:Nat,k=.int .i64 (i:Int)):
 dA w' pp h ⟨s.lv,s.rv,s.bv,s.D,s.S,DD⟩/\fJ (lg pp h s) w w':=by
 obtain⟨x1,a1,b1⟩:=k.left;obtain⟨x2,a2,b2⟩:=k.right;have hF:∀b,s.lv.ownBlock=some b\/s.rv.ownBlock=some b\/s.bv.ownBlock=some b->¬G b:=λb hb hg=>by have:=(k.MU b hb).2;have:=hG b hg;omega
 have hS:∀b,s.S b->¬G b:=λb hb hg=>k.ap5 b hb (.inr (.inl (hG b hg)))
 exact⟨⟨k.good,k.small,hc,(hk.block _ (bW k.box) (λhg=>by have:=k.ap1;have:=hG pp hg;omega)).trans k.box,⟨x1,bS a1 hk (λb hb=>hF b (.inl hb)),b1.keep hk hS⟩,⟨x2,bS a2 hk (λb hb=>hF b (.inr (.inl hb))),b2.keep hk hS⟩,bS k.born hk (λb hb=>hF b (.inr (.inr hb))),
  find,orders,CO,k.ap1,k.MU,k.ap3,k.ap4,k.ap5,k.ap6,λhm=>bg (k.pJ hm) hk.size⟩,⟨hk.os,hk.tape,hk.output,hk.size,λb hb hn=>hk.block b hb (λhg=>hn (.inr (.inl (hG b hg))))⟩⟩
theorem dA.Mw(k:dA w pp h s)(hb:w'.heap[h]?=w.heap[h]?):∃f,jb prog 9 w' h s.D.length f/\(∀i (hi:i<s.D.length),f (xI s.D[i])=some (.int .i64 (i:Int)))/\∀k v,f k=some v->∃i,∃hi:i<s.D.length,k=xI s.D[i]/\v=.int .i64 (i:Int):=by
 obtain⟨f,h1,h2⟩:=k.find;exact⟨f,h1.keep hb,h2⟩
theorem dA.NT(k:dA w pp h s)(hb:w'.heap[h+1]?=w.heap[h+1]?):∃n f,jb prog 219 w' (h+1) n f/\∀k v,f k=some v->∃(a b:Nat) (g:Bool),k=.agg #[.int .i64 (a:Int),.int .i64 (b:Int)]/\v=.bool g/\a<s.D.length/\b<s.D.length/\(g=true↔bE.Ge (vl s.D a) (vl s.D b)):=by
 obtain⟨n,f,h1,h2⟩:=k.orders;exact⟨n,f,h1.keep hb,h2⟩
theorem dA.PH(k:dA w pp h s)(hb:w'.heap[h+1+1]?=w.heap[h+1+1]?):∃n f,jb prog 3 w' (h+1+1) n f/\(∀i:Nat,f (.int .i64 (i:Int))=(s.cn i).map λj=>.int .i64 (j:Int))/\∀k v,f k=some v->∃i:Nat,k=.int .i64 (i:Int):=by
 obtain⟨n,f,h1,h2⟩:=k.CO;exact⟨n,f,h1.keep hb,h2⟩
theorem dA.wM(k:dA w pp h s):∃f,jb prog 219 w (h+1) 810000000000 f/\∀k v,f k=some v->∃(a b:Nat) (g:Bool),k=.agg #[.int .i64 (a:Int),.int .i64 (b:Int)]/\v=.bool g/\a<s.D.length/\b<s.D.length/\(g=true↔bE.Ge (vl s.D a) (vl s.D b)):=by
 obtain⟨n,f,h1,h2⟩:=k.orders;refine⟨f,(h1.room ((List.range s.D.length).flatMap λ(a:Nat)=>(List.range s.D.length).map λ(b:Nat)=>.agg #[.int .i64 (a:Int),.int .i64 (b:Int)]) λkey v hv=>?_).mono ?_,h2⟩
 .obtain⟨a,b,g,e,_,ha,hb,_⟩:=h2 key v hv
  exact List.mem_flatMap.2 ⟨a,dz.2 ha,az.2 ⟨b,dz.2 hb,e.symm⟩⟩
 .have e:∀l:List Nat,(l.flatMap λ(a:Nat)=>(List.range s.D.length).map λ(b:Nat)=>Value.agg #[.int .i64 (a:Int),.int .i64 (b:Int)]).length=l.length*s.D.length:=by
   intro l
   induction l with
   |nil=>simp
   |cons x l ih=>rw[jZ,bu,ih,bK,uV,gI,rW];omega
  rw[e,uV];exact pE k.small k.small
theorem dA.Jk{n:Nat}{f:Value->Option Value}{a b:Nat}{g:Bool}(k:dA w pp h s)(hf:∀k v,f k=some v->∃(a b:Nat) (g:Bool),k=.agg #[.int .i64 (a:Int),.int .i64 (b:Int)]/\v=.bool g/\a<s.D.length/\b<s.D.length/\(g=true↔bE.Ge (vl s.D a) (vl s.D b)))
 (hM:jb prog 219 w' (h+1) n (upd (λ_ _=>Classical.propDecidable _) f (.agg #[.int .i64 (a:Int),.int .i64 (b:Int)]) (.bool g))) (hg:w.grownBy w' (some (h+1))) (ha:a<s.D.length) (hb:b<s.D.length) (hge:g=true↔bE.Ge (vl s.D a) (vl s.D b)):jr pp h s w s w':=by
 have kk:=jA hg;obtain⟨h1,h2⟩:=k.maps kk (λb hb=>by omega) k.yA (k.Mw (kk.block _ (k.pJ (by omega)) (by omega))) ⟨n,_,hM,λkey v hv=>by
  rcases AJ hv with⟨rfl,rfl⟩|hv
  .exact⟨a,b,g,rfl,rfl,ha,hb,hge⟩
  .exact hf key v hv⟩ (k.PH (kk.block _ (k.pJ (by omega)) (by omega)))
 exact⟨h1,h2,λ_ h=>.inl h,λ_ h=>h,λ_ h=>.inl h,⟨[],by simp⟩,λ_ _ h=>h⟩
def Y4(pp h:Nat)(s:jF)(a b:Nat)(w:World)(e:Ending)(w':World):Prop:=∃g:Bool,e=.returned (.bool g)/\(g=true↔Ge (vl s.D a) (vl s.D b))/\jr pp h s w s w'
def YG(m:Nat):Prop:=∀(pp h:Nat) (s:jF) (a b:Nat) (w:World),dA w pp h s->a<s.D.length->b<s.D.length->a+b<m->Calls prog 144 #[.pointer (some ⟨pp,0,none⟩),.int .i64 (a:Int),.int .i64 (b:Int)] w (Y4 pp h s a b w)
theorem abV(w:World):(zeroValue 4).run prog w=.ok (.bool false) w:=by kernel_rfl
def Hr:List Row:=[⟨0,[],23,[0]⟩,⟨1,[0],24,[22]⟩,⟨2,[1],25,[23]⟩,⟨3,[2],26,[24]⟩,⟨4,[],27,[7]⟩,⟨5,[3,4],28,[25,26]⟩,⟨6,[5],22,[27]⟩,⟨7,[6],29,[21]⟩,⟨8,[6],30,[21]⟩,⟨9,[7,0,1,2,3,4,5,6,7],9,[28]⟩,⟨10,[8,9,0,1,2,3,4,5,6,7,8,9],10,[29]⟩]
def Cj:List Row:=[⟨0,[],68,[0]⟩,⟨1,[0],69,[67]⟩,⟨2,[1],70,[68]⟩,⟨3,[2],71,[69]⟩,⟨4,[],72,[7]⟩,⟨5,[],73,[10]⟩,⟨6,[3,4,5,0,1,2,3,4,5],0,[70,71,72]⟩]
theorem aa3{m:Nat}(ih:YG m):YG (m+1):=by
 intro pp h s a b w hP ha hb hm;have hds:=hP.small;go_enter Tryz.func144,Tryz.ntmps144
 by_cases hab:a=b
 .subst hab
  go_wp2_with fail
  go_ret
  exact⟨true,rfl,by simp[bE.pz],jr.refl hP (gz _ _)⟩
 have hne:((a:Int)== (b:Int))=false:=by simp;omega
 have HNE:=aW hab;clear hab;have hx1:Ext w (w.alloc (.cells #[.int .i64 (a:Int),.int .i64 (b:Int)] 219)):=by go_grown
 have hkb:(w.alloc (.cells #[.int .i64 (a:Int),.int .i64 (b:Int)] 219)).heap[w.heap.size]?=_:=eu w _;go_upto_region 4 with fail
 have hP1:=hP.ext hx1;generalize w.alloc (.cells #[.int .i64 (a:Int),.int .i64 (b:Int)] 219)=W1 at *;obtain⟨f,hM,hf⟩:=hP1.wM;obtain⟨kl,hkl⟩:=Ou a b (by omega) (by omega);have hlk:=λ(W:World) (hW:W.heap[h+1]?=W1.heap[h+1]?)=>(hM.keep hW).look Cw underlying151 (abV W) hkl true
 have UK:=bQ W1 w.heap.size 0 _ _ _ hkb;have ck1:=bQ W1 w.heap.size 1 _ _ _ hkb;have hP0:dA W1.drew pp h s:=hP1.ext (dQ ⟨1,rfl⟩);have q8:jr pp h s w s W1.drew:=jr.refl hP (ah hx1 (dQ ⟨1,rfl⟩));have hnb:w.heap.size<W1.drew.heap.size:=bW hkb;have Xa:¬lg pp h s w.heap.size:=λhc=>by have:=hP.uZ hc;omega
 have c4:=hP1.c4;have hagg:Value.agg #[.int .i64 (a:Int),.int .i64 (b:Int)]=Value.agg #[.int .i64 (a:Int),.int .i64 (b:Int)]:=rfl;clear hagg hP1;cases OV:f (.agg #[.int .i64 (a:Int),.int .i64 (b:Int)])with
 |some v=>
  obtain⟨a',b',g,e1,rfl,-,-,hg⟩:=hf _ _ OV;simp only[Value.agg.injEq,Array.mk.injEq,mf,Value.int.injEq,true_and,and_true]at e1;obtain⟨e1,e2⟩:=e1;obtain rfl:a=a':=by omega
  obtain rfl:b=b':=by omega
  simp only[OV,kI,Option.isSome_some,if_true]at hlk;refine oJ (λW=>W.cell? ⟨pp,4,none⟩=some (.map (some (h+1)))/\W.cell? ⟨w.heap.size,0,none⟩=some (.int .i64 (a:Int))/\W.cell? ⟨w.heap.size,1,none⟩=some (.int .i64 (b:Int))/\(Instr.lookup 151 (.map (some (h+1))) (.agg #[.int .i64 (a:Int),.int .i64 (b:Int)]) true).run prog W=.ok (.tuple #[.bool g,.bool true]) W) [10] Hr ⟨c4,UK,ck1,hlk _ rfl⟩ (λaj ae=>?_);(refine bP 0 aj ae ?_;refine bP 1 aj ae ?_;refine bP 2 aj ae ?_;refine bP 3 aj ae ?_;refine bP 4 aj ae ?_;refine bP 5 aj ae ?_;refine bP 6 aj ae ?_;refine bP 7 aj ae ?_;refine bP 8 aj ae ?_;refine bP 9 aj ae ?_);refine nQ aj [10] [_] ?_;clear aj ae;go_wp2_with fail
  go_ret
  exact⟨g,rfl,hg,q8⟩
 |none=>
  simp only[OV,Option.getD_none,Option.isSome_none,if_true]at hlk;refine oJ (λW=>W.cell? ⟨pp,4,none⟩=some (.map (some (h+1)))/\W.cell? ⟨w.heap.size,0,none⟩=some (.int .i64 (a:Int))/\W.cell? ⟨w.heap.size,1,none⟩=some (.int .i64 (b:Int))/\(Instr.lookup 151 (.map (some (h+1))) (.agg #[.int .i64 (a:Int),.int .i64 (b:Int)]) true).run prog W=.ok (.tuple #[.bool false,.bool false]) W) [10] Hr ⟨c4,UK,ck1,hlk _ rfl⟩ (λaj ae=>?_);(refine bP 0 aj ae ?_;refine bP 1 aj ae ?_;refine bP 2 aj ae ?_;refine bP 3 aj ae ?_;refine bP 4 aj ae ?_;refine bP 5 aj ae ?_;refine bP 6 aj ae ?_;refine bP 7 aj ae ?_;refine bP 8 aj ae ?_;refine bP 9 aj ae ?_);refine nQ aj [10] [_] ?_;clear aj ae hlk hf OV hM f c4;have aeh:W1.drew.cell? ⟨w.heap.size,0,none⟩=some (.int .i64 (a:Int)):=UK;have aeg:W1.drew.cell? ⟨w.heap.size,1,none⟩=some (.int .i64 (b:Int)):=ck1;clear UK ck1 hkb hx1;generalize W1.drew=W0 at *;obtain⟨gr,PE,aR,cR,yx,OQ,qC,IJ,hSR⟩:=hP0.qc ha;obtain⟨gl,PG,aL,cL,Al,OU,OT,IK,sO⟩:=hP0.rG hb;have haw:=hP0.good.wf a _ (af ha);have hbw:=hP0.good.wf b _ (af hb);have HW:=aW hP0.good.wf;go_wp2
  go_loopw [10,12,40] (λis _ ii wr=>∃k:Nat,k<=(s.D[a]).2.length/\ii=.int .i64 ((k:Nat):Int)/\is=.bool true/\jr pp h s W0 s wr/\Hid (∀j (h:j<(s.D[a]).2.length),j<k->¬Ge (vl s.D b) (vl s.D (s.D[a]).2[j]))) (λ_ _ ii _=>(s.D[a]).2.length-(intOf ii).toNat)
  case atStart=>exact⟨0,aU _,rfl,rfl,jr.refl hP0 (gz _ _),λj _ h=>absurd h (by omega)⟩
  case round=>
   obtain⟨k,hk,rfl,rfl,hgo,HN⟩:=hrel;by_cases hlt:k<(s.D[a]).2.length
   .have h1:((k:Nat):Int)<(((s.D[a]).2.length:Nat):Int):=by omega
    have hI:=(oN.go hSR (Off.lists hP0) hgo).out;obtain⟨aR',cR',e,-,hln,hcl⟩:=hI;rw[bG]at hln;simp only[il,bG,true_and]at e;obtain⟨rfl,rfl⟩:=e;obtain⟨bR,oR,rfl,hcell⟩:=hcl (by rw[bG];omega);have hck:=hcell k (by rw[bG];exact hlt);rw[iA hlt]at hck;have Gh:=haw.2 _ (ai hlt);have IH:=aW (ih pp h s b (s.D[a]).2[k] wr hgo.pool hb (by omega) (by omega));have HSR:=aW hSR;have HSL:=aW sO;clear hcl hcell hSR sO ih;by_cases hge:Ge (vl s.D b) (vl s.D (s.D[a]).2[k])
    .have Cg:=aW hge
     go_upto_region 21 with(go_at_call 144;refine IH.out.mono ?_;rintro e wX ⟨g,rfl,hg,gZ⟩
                            obtain rfl:g=true:=hg.2 Cg.out;have Fx:=hgo.trans gZ;have Ma:=aW (show(false=true↔Ge (vl s.D a) (vl s.D b)) by simpa using Bt HW.out ha hlt Cg.out);clear hg)
     have Re:=Fx.pool;have hkX:=Fx.keep.block _ hnb Xa;have Yl:wX.cell? ⟨w.heap.size,0,none⟩=some (.int .i64 (a:Int)):=(mP hkX).trans aeh;have Yk:wX.cell? ⟨w.heap.size,1,none⟩=some (.int .i64 (b:Int)):=(mP hkX).trans aeg;obtain⟨fX,hMX,hfX⟩:=Re.wM;have c4X:=Re.c4;refine oJ (λW=>W.cell? ⟨pp,4,none⟩=some (.map (some (h+1)))/\W.cell? ⟨w.heap.size,0,none⟩=some (.int .i64 (a:Int))/\W.cell? ⟨w.heap.size,1,none⟩=some (.int .i64 (b:Int))) [6] Cj ⟨c4X,Yl,Yk⟩ (λaj ae=>?_);(refine bP 0 aj ae ?_;refine bP 1 aj ae ?_;refine bP 2 aj ae ?_;refine bP 3 aj ae ?_;refine bP 4 aj ae ?_;refine bP 5 aj ae ?_);refine nQ aj [6] [_] ?_;clear aj ae;go_wp2_with (at_mapUpdate;refine ku rfl _ _ _ 151 rfl 219 4 Cw underlying151 (h+1) 810000000000 fX rfl (hMX.keep rfl) (by unfold maxLen;omega) (.agg #[.int .i64 (a:Int),.int .i64 (b:Int)]) _ rfl rfl ⟨kl,hkl⟩ ?_;intro wZ hMZ hgZ)
     go_ret
     exact⟨_,rfl,by simpa using Ma.out,q8.trans (Fx.trans ((jr.refl Re (dQ ⟨1,rfl⟩)).trans (dA.Jk (Re.ext (dQ ⟨1,rfl⟩)) hfX hMZ hgZ ha hb (by simpa using Ma.out))))⟩
    .have Cg:=aW hge
     go_wp2_with (go_at_call 144;refine IH.out.mono ?_;rintro e wX ⟨g,rfl,hg,gZ⟩
                  obtain rfl:g=false:=(by simpa using(λe=>Cg.out (hg.1 e)));clear hg)
     go_roundw
     case rel=>exact⟨k+1,by omega,by go_num,rfl,hgo.trans gZ,Cs hlt HN Cg.out⟩
     case measure=>simp[intOf];omega
   .have h1:¬(((k:Nat):Int)<(((s.D[a]).2.length:Nat):Int)):=by omega
    have hkl:k=(s.D[a]).2.length:=(by omega);subst hkl;have hkn:=hgo.keep;obtain⟨wo,rfl⟩:∃wo:World,wo=wr:=⟨_,rfl⟩;have cpl:=hgo.pool.rG hb;obtain⟨gl',aqN,aL',cL',aqH,apG,apF,auw,aaR⟩:=cpl;have HSL:=aW sO;clear sO hSR IJ IK Al yx;go_wp2
    go_loopw [10,14,58] (λis _ ii wr=>∃k:Nat,k<=(s.D[b]).1.length/\ii=.int .i64 ((k:Nat):Int)/\is=.bool true/\jr pp h s W0 s wr/\jr pp h s wo s wr/\Hid (∀j (h:j<(s.D[b]).1.length),j<k->¬Ge (vl s.D (s.D[b]).1[j]) (vl s.D a))) (λ_ _ ii _=>(s.D[b]).1.length-(intOf ii).toNat)
    case atStart=>exact⟨0,aU _,rfl,rfl,hgo,jr.refl hgo.pool (gz _ _),λj _ h=>absurd h (by omega)⟩
    case round=>
     clear hkn;have hPo:=hgo.pool;clear hgo;obtain⟨k,hk,rfl,rfl,hgo,ag4,Eu⟩:=hrel;by_cases hlt:k<(s.D[b]).1.length
     .have h1:((k:Nat):Int)<(((s.D[b]).1.length:Nat):Int):=by omega
      have hI:=(oN.go aaR (Off.lists hPo) ag4).out;obtain⟨JZ,JU,e,-,hln,hcl⟩:=hI;rw[bG]at hln;simp only[il,bG,true_and]at e;obtain⟨rfl,rfl⟩:=e;obtain⟨bR,oR,rfl,hcell⟩:=hcl (by rw[bG];omega);have hck:=hcell k (by rw[bG];exact hlt);rw[iA hlt]at hck;have Gh:=hbw.1 _ (ai hlt);have IH:=aW (ih pp h s (s.D[b]).1[k] a wr hgo.pool (by omega) ha (by omega));have au9:=aW aaR;clear hcl hcell aaR ih;by_cases hge:Ge (vl s.D (s.D[b]).1[k]) (vl s.D a)
      .have Cg:=aW hge
       go_upto_region 21 with(go_at_call 144;refine IH.out.mono ?_;rintro e wX ⟨g,rfl,hg,gZ⟩
                              obtain rfl:g=true:=hg.2 Cg.out;have Fx:=hgo.trans gZ;have Ma:=aW (show(false=true↔Ge (vl s.D a) (vl s.D b)) by simpa using Bu HW.out hb hlt Cg.out);clear hg)
       have Re:=Fx.pool;have hkX:=Fx.keep.block _ hnb Xa;have Yl:wX.cell? ⟨w.heap.size,0,none⟩=some (.int .i64 (a:Int)):=(mP hkX).trans aeh;have Yk:wX.cell? ⟨w.heap.size,1,none⟩=some (.int .i64 (b:Int)):=(mP hkX).trans aeg;obtain⟨fX,hMX,hfX⟩:=Re.wM;have c4X:=Re.c4;refine oJ (λW=>W.cell? ⟨pp,4,none⟩=some (.map (some (h+1)))/\W.cell? ⟨w.heap.size,0,none⟩=some (.int .i64 (a:Int))/\W.cell? ⟨w.heap.size,1,none⟩=some (.int .i64 (b:Int))) [6] Cj ⟨c4X,Yl,Yk⟩ (λaj ae=>?_);(refine bP 0 aj ae ?_;refine bP 1 aj ae ?_;refine bP 2 aj ae ?_;refine bP 3 aj ae ?_;refine bP 4 aj ae ?_;refine bP 5 aj ae ?_);refine nQ aj [6] [_] ?_;clear aj ae;go_wp2_with (at_mapUpdate;refine ku rfl _ _ _ 151 rfl 219 4 Cw underlying151 (h+1) 810000000000 fX rfl (hMX.keep rfl) (by unfold maxLen;omega) (.agg #[.int .i64 (a:Int),.int .i64 (b:Int)]) _ rfl rfl ⟨kl,hkl⟩ ?_;intro wZ hMZ hgZ)
       go_ret
       exact⟨_,rfl,by simpa using Ma.out,q8.trans (Fx.trans ((jr.refl Re (dQ ⟨1,rfl⟩)).trans (dA.Jk (Re.ext (dQ ⟨1,rfl⟩)) hfX hMZ hgZ ha hb (by simpa using Ma.out))))⟩
      .have Cg:=aW hge
       go_wp2_with (go_at_call 144;refine IH.out.mono ?_;rintro e wX ⟨g,rfl,hg,gZ⟩
                    obtain rfl:g=false:=(by simpa using(λe=>Cg.out (hg.1 e)));clear hg)
       go_roundw
       case rel=>exact⟨k+1,by omega,by go_num,rfl,hgo.trans gZ,ag4.trans gZ,Ad hlt Eu Cg.out⟩
       case measure=>simp[intOf];omega
     .have h1:¬(((k:Nat):Int)<(((s.D[b]).1.length:Nat):Int)):=by omega
      have Ma:=aW (show(true=true↔Ge (vl s.D a) (vl s.D b)) by simpa using Io HW.out ha hb (λj h=>HN.out j h h) (λj h=>Eu.out j h (by omega)));obtain⟨wX,rfl⟩:∃wX:World,wX=wr:=⟨_,rfl⟩;have Fx:=hgo;clear aaR ih;go_upto_region 21 with fail
      have Re:=Fx.pool;have hkX:=Fx.keep.block _ hnb Xa;have Yl:wX.cell? ⟨w.heap.size,0,none⟩=some (.int .i64 (a:Int)):=(mP hkX).trans aeh;have Yk:wX.cell? ⟨w.heap.size,1,none⟩=some (.int .i64 (b:Int)):=(mP hkX).trans aeg;obtain⟨fX,hMX,hfX⟩:=Re.wM;have c4X:=Re.c4;refine oJ (λW=>W.cell? ⟨pp,4,none⟩=some (.map (some (h+1)))/\W.cell? ⟨w.heap.size,0,none⟩=some (.int .i64 (a:Int))/\W.cell? ⟨w.heap.size,1,none⟩=some (.int .i64 (b:Int))) [6] Cj ⟨c4X,Yl,Yk⟩ (λaj ae=>?_);(refine bP 0 aj ae ?_;refine bP 1 aj ae ?_;refine bP 2 aj ae ?_;refine bP 3 aj ae ?_;refine bP 4 aj ae ?_;refine bP 5 aj ae ?_);refine nQ aj [6] [_] ?_;clear aj ae;go_wp2_with (at_mapUpdate;refine ku rfl _ _ _ 151 rfl 219 4 Cw underlying151 (h+1) 810000000000 fX rfl (hMX.keep rfl) (by unfold maxLen;omega) (.agg #[.int .i64 (a:Int),.int .i64 (b:Int)]) _ rfl rfl ⟨kl,hkl⟩ ?_;intro wZ hMZ hgZ)
      go_ret
      exact⟨_,rfl,by simpa using Ma.out,q8.trans (Fx.trans ((jr.refl Re (dQ ⟨1,rfl⟩)).trans (dA.Jk (Re.ext (dQ ⟨1,rfl⟩)) hfX hMZ hgZ ha hb (by simpa using Ma.out))))⟩
theorem afT:∀m,YG m:=by
 intro m
 induction m with
 |zero=>intro pp h s a b w _ _ _ h;omega
 |succ m ih=>exact aa3 ih
theorem A7(pp h:Nat)(s:jF)(a b:Nat)(w:World)(hP:dA w pp h s)(ha:a<s.D.length)(hb:b<s.D.length):Calls prog 144 #[.pointer (some ⟨pp,0,none⟩),.int .i64 (a:Int),.int .i64 (b:Int)] w (Y4 pp h s a b w):=
 afT (a+b+1) pp h s a b w hP ha hb (by omega)
end
