/-
  Contract of the program's ge: the order of two games of the pool. (2 texts.)
-/
import Derived.Test.YteknjeohbcgpdaaGreatDoorK19
set_option maxRecDepth 100000
namespace Go.Proofs.YteknjeohbcgpdaaGreatDoor
open Tryz
section
open Go.RowKit
open bO (dH Nd vl Same)
variable {c:Array Value} {w w1:World} {o:Option Nat} {pp n:Nat} {T:TypeId} {X:Obj} {v:Value} {D E:dH} {f:Value->Option Value}
theorem kK{a b c:World}{G:Nat->Prop}(h:Ext a b)(k:dX G b c)(hG:∀x,G x->a.heap.size<=x):Ext a c:=
 ⟨k.os.trans h.os,k.tape.trans h.tape,k.output.trans h.output,dn h.size k.size,λx hx=>(k.block x (bz hx h.size) (λg=>by have:=hG x g;omega)).trans (h.block x hx)⟩
theorem fH{w':World}(g:w.grownBy w' o):dX (λb=>o=some b) w w':=⟨g.os,g.tape,g.output,g.size,λk hk hn=>g.block k hk (λe=>hn e.symm)⟩
theorem xy(h:w.heap[pp]?=some (.cells c T (0,0))):pp<w.heap.size/\(∀j v,c[j]?=some v->w.cell? ⟨pp,j,none⟩=some v)/\∀j,w.frozen? ⟨pp,j,none⟩=false:=by
 refine⟨bu h,λj v hj=>(cell_of_row w pp j _ _ _ h).trans hj,λj=>?_⟩;simp[World.frozen?,h]
theorem CK(h:w.heap[pp]?=some (.cells c T (0,0)))(hg:(w.alloc X).grownBy w1 o)(ho:o≠some pp):w1.heap[pp]?=some (.cells c T (0,0)):=by
 have hl:=bu h;rw[hg.block pp (by rw[eQ];omega) (Ne.symm ho),Below.heap_alloc _ _ _ hl];exact h
theorem GD{B e size:Nat}{xs:List Value}(h:w.ownsRow B e size v n xs)(hg:(w.alloc X).grownBy w1 o)(ho:∀b,v.ownBlock=some b->o≠some b):w1.ownsRow B e size v n xs:=
 bI (bY h (bS (Below.refl _ _) X)) (fH hg) ho
theorem sS{j:Nat}{v1:Value}{e:TypeId}{ys:List Value}
 (hb:w.heap[pp]?=some (.cells c T (0,0))) (hv:v.ownBlock≠some pp) (hg:(w.alloc X).grownBy w1 v.ownBlock) (ho:w1.ownsRow 0 e 1 v1 n ys) (hl:kR (w.alloc X) v v1):
 (w1.setCell ⟨pp,j,none⟩ v1).heap[pp]?=some (.cells (c.setIfInBounds j v1) T (0,0))/\(w1.setCell ⟨pp,j,none⟩ v1).ownsRow 0 e 1 v1 n ys/\dX (λb=>b=pp\/v.ownBlock=some b) w (w1.setCell ⟨pp,j,none⟩ v1)/\(v1.ownBlock=v.ownBlock\/∃g,v1.ownBlock=some g/\w.heap.size<=g)/\v1.ownBlock≠some pp:=by
 have hlt:=bu hb;have h1:=CK hb hg hv;have hL:v1.ownBlock=v.ownBlock\/∃g,v1.ownBlock=some g/\w.heap.size<=g:=by
  rcases hl with h|⟨g,h,k⟩
  .exact .inl h
  .rw[eQ]at k;exact .inr ⟨g,h,by omega⟩
 have MU:v1.ownBlock≠some pp:=by
  rcases hL with h|⟨g,h,k⟩
  .rw[h];exact hv
  .rw[h];intro e;injection e with e;omega
 refine⟨heap_setCell_same _ _ _ _ _ _ h1,ownsRow_setCell_other ho (a:=⟨pp,j,none⟩) MU v1,⟨hg.os,hg.tape,hg.output,?_,λk hk hn=>?_⟩,hL,MU⟩
 .rw[World.size_setCell];have:=hg.size;rw[eQ]at this;omega
 .rw[heap_setCell_other _ _ _ _ (λe=>hn (.inl e)),hg.block k (by rw[eQ];omega) (λe=>hn (.inr e.symm)),Below.heap_alloc _ _ _ hk]
theorem Bi.more{cn:Nat->Option Nat}(h:Bi D cn)(hD:bO.WF D)(hE:bO.WF (D++E)):Bi (D++E) cn:=by
 refine⟨λi j hi=>?_,λi j hi=>?_,h.self,λi j nd hi hn=>?_⟩
 .have:=h.lt i j hi;simp;omega
 .have hl:=h.lt i j hi
  rw[bO.ik hD hE i hl.1,bO.ik hD hE j hl.2];exact h.ok i j hi
 .have hl:=h.lt i j hi
  rw[dN hl.1]at hn;exact h.sub i j nd hi hn
theorem ER(hD:bO.WF D)(hE:bO.WF (D++E))(l:List Nat)(hl:∀x,x∈l->x<D.length):fM (D++E) l=fM D l:=by
 have key:∀(k:List Nat) (m:Int),(∀x,x∈k->x<D.length)->k.foldl (λm x=>max m ((bO.born (vl (D++E) x):Int)+1)) m=k.foldl (λm x=>max m ((bO.born (vl D x):Int)+1)) m:=by
  intro k
  induction k with
  |nil=>intro m _;rfl
  |cons x k ih=>
   intro m hx;simp only[List.foldl_cons];rw[bO.ik hD hE x (hx x (by simp))];exact ih _ (λy hy=>hx y (by simp[hy]))
 exact key _ _ hl
def Be(pp h:Nat)(s:iH)(l r:List Nat)(w:World)(e:Ending)(w':World):Prop:=
 ∃s' i,e=.returned (.int .i64 ((i:Nat):Int))/\jK pp h s w s' w'/\jm s.D l r s'.D i/\s'.cn=s.cn
theorem wK{key val k:Value}(h:upd (λ_ _=>Classical.propDecidable _) f key val k=some v):(k=key/\v=val)\/f k=some v:=by
 by_cases c:k=key
 .subst c;rw[upd_same]at h;injection h with h;exact .inl ⟨rfl,h.symm⟩
 .rw[upd_ne c]at h;exact .inr h
theorem Ua{wp w2 w3 w4:World}{h:Nat}{s:iH}{l r:List Nat}{L R Cw Lj I4:Value}{xl xr:List Value}
 (hP:dz w pp h s) (hE:Ext w wp) (hroom:s.D.length+1<=900000) (hl:∀x,x∈l->x<s.D.length) (hr:∀x,x∈r->x<s.D.length)
 (hL:Ints wp L (dD (bQ l))) (hR:Ints wp R (dD (bQ r))) (fL:∀b,L.ownBlock=some b->w.heap.size<=b/\b<wp.heap.size) (fR:∀b,R.ownBlock=some b->w.heap.size<=b/\b<wp.heap.size)
 (hf1:∀i (hi:i<s.D.length),f (uK s.D[i])=some (.int .i64 (i:Int))) (hf2:∀k v,f k=some v->∃i,∃hi:i<s.D.length,k=uK s.D[i]/\v=.int .i64 (i:Int)) (hfn:f (uK (bQ l,bQ r))=none)
 (hM:gz prog 9 w1 h (s.D.length+1) (upd (λ_ _=>Classical.propDecidable _) f (uK (bQ l,bQ r)) (.int .i64 ((s.D.length:Nat):Int)))) (hg1:wp.grownBy w1 (some h))
 (hxl:wp.ownsRow 0 80 1 s.lv s.D.length xl) (hil:Items Em s.S 1 xl (s.D.map (·.1)) wp) (Ll:wp.ownsRow 0 80 1 s.rv s.D.length xr) (hir:Items Em s.S 1 xr (s.D.map (·.2)) wp)
 (hg2:(w1.alloc (.cells #[L] 80)).grownBy w2 s.lv.ownBlock) (ho2:w2.ownsRow 0 80 1 Cw (s.D.length+1) (xl++[L])) (hl2:kR (w1.alloc (.cells #[L] 80)) s.lv Cw)
 (hg3:((w2.setCell ⟨pp,0,none⟩ Cw).alloc (.cells #[R] 80)).grownBy w3 s.rv.ownBlock) (ho3:w3.ownsRow 0 80 1 Lj (s.D.length+1) (xr++[R])) (hl3:kR ((w2.setCell ⟨pp,0,none⟩ Cw).alloc (.cells #[R] 80)) s.rv Lj)
 (hg4:((w3.setCell ⟨pp,1,none⟩ Lj).alloc (.cells #[.int .i64 (fM s.D (bQ l++bQ r))] 3)).grownBy w4 s.bv.ownBlock) (yJ:w4.ownsRow 0 3 1 I4 (s.D.length+1) ((s.D.mapIdx λi _=>(bO.born (vl s.D i):Int)).map (Value.int .i64)++[.int .i64 (fM s.D (bQ l++bQ r))])) (hl4:kR ((w3.setCell ⟨pp,1,none⟩ Lj).alloc (.cells #[.int .i64 (fM s.D (bQ l++bQ r))] 3)) s.bv I4):
 Be pp h s l r w (.returned (.int .i64 ((s.D.length:Nat):Int))) (w4.setCell ⟨pp,2,none⟩ I4):=by
 have hPp:=hP.ext hE;have hg:=hP.good;have k1:=gJ hg1;have hb1:w1.heap[pp]?=_:=(k1.block pp (bu hPp.box) (λe=>by have:=hP.ZM;omega)).trans hPp.box;have l2:s.lv.ownBlock≠some pp:=λe=>(hP.Eg pp (.inl e)).1 rfl
 have r2:s.rv.ownBlock≠some pp:=λe=>(hP.Eg pp (.inr (.inl e))).1 rfl
 have b2:s.bv.ownBlock≠some pp:=λe=>(hP.Eg pp (.inr (.inr e))).1 rfl
 obtain⟨hb2,hw2,k2,z2,q2⟩:=sS (j:=0) hb1 l2 hg2 ho2 hl2;obtain⟨hb3,hw3,k3,z3,q3⟩:=sS (j:=1) hb2 r2 hg3 ho3 hl3;obtain⟨hb4,hw4,k4,z4,q4⟩:=sS (j:=2) hb3 b2 hg4 yJ hl4;have s0:=hE.size;have s1:=k1.size;have s2:w1.heap.size<=_:=k2.size;have s3:=k3.size;have s4:=k4.size;have hlv:=hxl.lt;have hrv:=Ll.lt;have hbv:=hPp.born.lt;have hmap:∀{m},m<h+1+1+1+1+1->m<w.heap.size:=λhm=>hP.mY hm
 have oL:∀b,Cw.ownBlock=some b->s.lv.ownBlock=some b\/wp.heap.size<=b:=λb hb=>by
  rcases z2 with e|⟨g,e,k⟩
  .exact .inl (e ▸ hb)
  .rw[e]at hb;injection hb with hb;exact .inr (by omega)
 have oR:∀b,Lj.ownBlock=some b->s.rv.ownBlock=some b\/(w2.setCell ⟨pp,0,none⟩ Cw).heap.size<=b:=λb hb=>by
  rcases z3 with e|⟨g,e,k⟩
  .exact .inl (e ▸ hb)
  .rw[e]at hb;injection hb with hb;exact .inr (by omega)
 have oB:∀b,I4.ownBlock=some b->s.bv.ownBlock=some b\/(w3.setCell ⟨pp,1,none⟩ Lj).heap.size<=b:=λb hb=>by
  rcases z4 with e|⟨g,e,k⟩
  .exact .inl (e ▸ hb)
  .rw[e]at hb;injection hb with hb;exact .inr (by omega)
 have lLt:∀b,Cw.ownBlock=some b->b<(w2.setCell ⟨pp,0,none⟩ Cw).heap.size:=λb hb=>(hw2.lt b hb).2
 have rLt:∀b,Lj.ownBlock=some b->b<(w3.setCell ⟨pp,1,none⟩ Lj).heap.size:=λb hb=>(hw3.lt b hb).2
 have K:dX (jN pp h s) wp (w4.setCell ⟨pp,2,none⟩ I4):=by
  refine((dX.trans (F:=jN pp h s) ⟨k1.os,k1.tape,k1.output,k1.size,λk hk hn=>k1.block k hk (λe=>hn (.inr (.inl (by omega))))⟩ (⟨k2.os,k2.tape,k2.output,k2.size,k2.block⟩:dX (λb=>b=pp\/s.lv.ownBlock=some b) w1 _) ?_).trans k3 ?_).trans k4 ?_
  .rintro x _ (rfl|h);exact .inl rfl;exact .inr (.inr (.inl h))
  .rintro x _ (rfl|h);exact .inl rfl;exact .inr (.inr (.inr (.inl h)))
  .rintro x _ (rfl|h);exact .inl rfl;exact .inr (.inr (.inr (.inr h)))
 have aiy:(w4.setCell ⟨pp,2,none⟩ I4).ownsRow 0 80 1 Cw (s.D.length+1) (xl++[L]):=by
  refine bI (bI hw2 k3 ?_) k4 ?_
  .rintro b hb (rfl|hc)
   .exact q2 hb
   .rcases oL b hb with h1|h1
    .exact(hP.ap3 b h1).1 hc
    .have:=(hrv b hc).2;omega
  .rintro b hb (rfl|hc)
   .exact q2 hb
   .rcases oL b hb with h1|h1
    .exact(hP.ap3 b h1).2 hc
    .have:=(hbv b hc).2;omega
 have aix:(w4.setCell ⟨pp,2,none⟩ I4).ownsRow 0 80 1 Lj (s.D.length+1) (xr++[R]):=by
  refine bI hw3 k4 ?_;rintro b hb (rfl|hc)
  .exact q3 hb
  .rcases oR b hb with h1|h1
   .exact hP.ap4 b h1 hc
   .have:=(hbv b hc).2;omega
 have hmk:∀m,h<=m->m<h+1+1+1+1+1->(w4.setCell ⟨pp,2,none⟩ I4).heap[m]?=w1.heap[m]?:=λm m1 m2=>by
  have hm:=hmap m2;have MU:=hP.ZM;have n1:m≠pp:=by omega
  have nn:∀b,s.lv.ownBlock=some b\/s.rv.ownBlock=some b\/s.bv.ownBlock=some b->b≠m:=λb hb=>by have:=(hP.Eg b hb).2;omega
  rw[k4.block m (by omega) (by rintro(e|e);exact n1 e;exact nn m (.inr (.inr e)) rfl),k3.block m (by omega) (by rintro(e|e);exact n1 e;exact nn m (.inr (.inl e)) rfl),k2.block m (by omega) (by rintro(e|e);exact n1 e;exact nn m (.inl e) rfl)]
 have afj:∀m,h<m->m<h+1+1+1+1+1->(w4.setCell ⟨pp,2,none⟩ I4).heap[m]?=wp.heap[m]?:=λm m1 m2=>by
  rw[hmk m (by omega) m2];exact k1.block m (by have:=hmap m2;omega) (by omega)
 have hnd:(bQ l,bQ r) ∉ s.D:=λhm=>by
  obtain⟨i,hi,e⟩:=aW.1 hm;have:=hf1 i hi;rw[e,hfn]at this;cases this
 have hgn:bO.Good (s.D++[(bQ l,bQ r)]):=hg.snoc (λk hk=>hl k (bZ.1 hk)) (λk hk=>hr k (bZ.1 hk)) (jv l) (jv r) hnd;have hvl:∀x,x<s.D.length->vl (s.D++[(bQ l,bQ r)]) x=vl s.D x:=λx hx=>bO.ik hg.wf hgn.wf x hx
 have hlast:(s.D++[(bQ l,bQ r)])[s.D.length]?=some (bQ l,bQ r):=by simp
 have hlen:(s.D++[(bQ l,bQ r)]).length=s.D.length+1:=by simp
 have hmem:∀x,x∈bQ l++bQ r->x<s.D.length:=λx hx=>by
  rcases bq.1 hx with h|h
  .exact hl x (bZ.1 h)
  .exact hr x (bZ.1 h)
 have hb0:=lT hg.wf _ hmem;have hbn:=ER hg.wf hgn.wf _ hmem;have hlts:∀b,s.S b->b<wp.heap.size/\¬jN pp h s b:=λb hb=>⟨hPp.yA hb,hP.ap5 b hb⟩
 have hKw:∀b,w.heap.size<=b->¬jN pp h s b:=λb hb hc=>by have:=hP.JH hc;omega
 let S':Nat->Prop:=λb=>s.S b\/L.ownBlock=some b\/R.ownBlock=some b
 have hS':∀b,S' b->b<wp.heap.size/\¬jN pp h s b:=by
  rintro b (hb|hb|hb)
  .exact hlts b hb
  .exact⟨(fL b hb).2,hKw b (fL b hb).1⟩
  .exact⟨(fR b hb).2,hKw b (fR b hb).1⟩
 have aav:∀{v:Value} {k:List Nat},Ints wp v (dD k)->(∀b,v.ownBlock=some b->S' b)->nN S' (λW=>Em W [v] k) wp:=λ{v k} hv hb=>by
  obtain⟨a,c,rfl,-⟩:=id hv;refine⟨λb hb=>(hS' b hb).1,λw2 h2=>⟨a,c,by rw[bJ],?_⟩⟩;have:=(hv.sup (λb hb=>(hS' b hb).1) hb).2 w2 h2;rw[bJ]at this;exact this
 have abN:Items Em S' 1 (xl++[L]) (s.D.map (·.1)++[bQ l]) wp:=(hil.mono (λb hb=>.inl hb) (λb hb=>(hS' b hb).1)).snoc rfl (aav hL λb hb=>.inr (.inl hb));have abM:Items Em S' 1 (xr++[R]) (s.D.map (·.2)++[bQ r]) wp:=(hir.mono (λb hb=>.inl hb) (λb hb=>(hS' b hb).1)).snoc rfl (aav hR λb hb=>.inr (.inr hb));have U5:∀b,S' b->¬jN pp h s b:=λb hb=>(hS' b hb).2
 have aiO:∀i (hi:i<s.D.length),uK s.D[i]≠uK (bQ l,bQ r):=λi hi e=>by
  have:=hf1 i hi;rw[e,hfn]at this;cases this
 have TQ:∀b,jN pp h ⟨Cw,Lj,I4,s.D++[(bQ l,bQ r)],S',s.cn⟩ b->jN pp h s b\/wp.heap.size<=b:=by
  rintro b (rfl|hb|hb|hb|hb)
  .exact .inl (.inl rfl)
  .exact .inl (.inr (.inl hb))
  .rcases oL b hb with h1|h1
   .exact .inl (.inr (.inr (.inl h1)))
   .exact .inr h1
  .rcases oR b hb with h1|h1
   .exact .inl (.inr (.inr (.inr (.inl h1))))
   .exact .inr (by omega)
  .rcases oB b hb with h1|h1
   .exact .inl (.inr (.inr (.inr (.inr h1))))
   .exact .inr (by omega)
 have ak0:∀b,Cw.ownBlock=some b->b≠pp/\(b<h\/h+1+1+1+1+1<=b):=λb hb=>by
  rcases oL b hb with h1|h1
  .exact hP.Eg b (.inl h1)
  .exact⟨λe=>q2 (e ▸ hb),.inr (by have:=hP.mY (m:=h+1+1+1+1) (by omega);omega)⟩
 have akZ:∀b,Lj.ownBlock=some b->b≠pp/\(b<h\/h+1+1+1+1+1<=b):=λb hb=>by
  rcases oR b hb with h1|h1
  .exact hP.Eg b (.inr (.inl h1))
  .exact⟨λe=>q3 (e ▸ hb),.inr (by have:=hP.mY (m:=h+1+1+1+1) (by omega);omega)⟩
 have ak1:∀b,I4.ownBlock=some b->b≠pp/\(b<h\/h+1+1+1+1+1<=b):=λb hb=>by
  rcases oB b hb with h1|h1
  .exact hP.Eg b (.inr (.inr h1))
  .exact⟨λe=>q4 (e ▸ hb),.inr (by have:=hP.mY (m:=h+1+1+1+1) (by omega);omega)⟩
 obtain⟨n3,f3,o1,o2⟩:=hPp.orders;obtain⟨n4,f4,p1,p2,p3⟩:=hPp.AX;refine⟨⟨Cw,Lj,I4,s.D++[(bQ l,bQ r)],S',s.cn⟩,s.D.length,rfl,⟨?_,?_,?_,λb hb=>.inl hb,?_,⟨_,rfl⟩,λ_ _ h=>h⟩,⟨hlast,.inr rfl⟩,rfl⟩
 .refine⟨hgn,by rw[hlen];exact hroom,hP.vY.more hg.wf hgn.wf,hb4,⟨xl++[L],?_,?_⟩,⟨xr++[R],?_,?_⟩,?_,⟨upd (λ_ _=>Classical.propDecidable _) f (uK (bQ l,bQ r)) (.int .i64 ((s.D.length:Nat):Int)),?_,?_,?_⟩,⟨n3,f3,o1.keep (afj _ (by omega) (by omega)),?_⟩,⟨n4,f4,p1.keep (afj _ (by omega) (by omega)),p2,p3⟩,hP.ZM,?_,?_,?_,?_,?_,?_⟩
  .rw[hlen];exact aiy
  .rw[bG];exact abN.keep K U5
  .rw[hlen];exact aix
  .rw[bG];exact abM.keep K U5
  .have e:((s.D++[(bQ l,bQ r)]).mapIdx λi _=>(bO.born (vl (s.D++[(bQ l,bQ r)]) i):Int))=(s.D.mapIdx λi _=>(bO.born (vl s.D i):Int))++[fM s.D (bQ l++bQ r)]:=by
    rw[List.mapIdx_append];congr 1
    .refine lD (by simp) λi h1 h2=>?_
     simp only[List.getElem_mapIdx];rw[hvl i (by simpa using h2)]
    .simp only[List.mapIdx_cons,List.mapIdx_nil,jf]
     rw[rq hgn.wf hlast (l:=bQ l) (r:=bQ r) (λ_=>Iff.rfl) (λ_=>Iff.rfl) (by rw[hbn];exact hb0.1),hbn]
   show World.ownsRow _ 0 _ 1 I4 (s.D++[(bQ l,bQ r)]).length _;rw[e,bG,hlen];exact hw4
  .have:=hM.keep (w':=w4.setCell ⟨pp,2,none⟩ I4) (hmk h (ay _) (by omega))
   rw[hlen];exact this
  .intro i hi
   have hi':i<s.D.length+1:=(by rw[<-hlen];exact hi);by_cases c:i<s.D.length
   .have e:(s.D++[(bQ l,bQ r)])[i]'hi=s.D[i]:=dw c
    rw[show(⟨Cw,Lj,I4,s.D++[(bQ l,bQ r)],S',s.cn⟩:iH).D[i]'hi=s.D[i] from e,upd_ne (aiO i c)];exact hf1 i c
   .have c':i=s.D.length:=by omega
    subst c';have e:(s.D++[(bQ l,bQ r)])[s.D.length]'hi=(bQ l,bQ r):=(by simp);rw[show(⟨Cw,Lj,I4,s.D++[(bQ l,bQ r)],S',s.cn⟩:iH).D[s.D.length]'hi=(bQ l,bQ r) from e];exact upd_same _ _ _
  .intro k v hk
   rcases wK hk with⟨rfl,rfl⟩|hk
   .refine⟨s.D.length,by rw[hlen];omega,?_,rfl⟩
    have e:(s.D++[(bQ l,bQ r)])[s.D.length]'(by rw[hlen];omega)=(bQ l,bQ r):=(by simp);exact congrArg uK e.symm
   .obtain⟨i,hi,e1,e2⟩:=hf2 k v hk
    exact⟨i,by rw[hlen];omega,by rw[e1];exact congrArg uK (dw hi).symm,e2⟩
  .intro k v hk
   obtain⟨a,b,g,e1,e2,h1,h2,h3⟩:=o2 k v hk;refine⟨a,b,g,e1,e2,by rw[hlen];omega,by rw[hlen];omega,?_⟩;rw[show vl (⟨Cw,Lj,I4,s.D++[(bQ l,bQ r)],S',s.cn⟩:iH).D a=vl s.D a from hvl a h1,show vl (⟨Cw,Lj,I4,s.D++[(bQ l,bQ r)],S',s.cn⟩:iH).D b=vl s.D b from hvl b h2];exact h3
  .rintro b (hb|hb|hb)
   .exact ak0 b hb
   .exact akZ b hb
   .exact ak1 b hb
  .intro b hb
   have hz:=lLt b hb;refine⟨λhc=>?_,λhc=>?_⟩
   .rcases oR b hc with h1|h1
    .rcases oL b hb with h2|h2
     .exact(hP.ap3 b h2).1 h1
     .have:=(hrv b h1).2;omega
    .omega
   .rcases oB b hc with h1|h1
    .rcases oL b hb with h2|h2
     .exact(hP.ap3 b h2).2 h1
     .have:=(hbv b h1).2;omega
    .omega
  .intro b hb hc
   have hz:=rLt b hb;rcases oB b hc with h1|h1
   .rcases oR b hb with h2|h2
    .exact hP.ap4 b h2 h1
    .have:=(hbv b h1).2;omega
   .omega
  .intro b hb hc
   rcases TQ b hc with h1|h1
   .exact(hS' b hb).2 h1
   .have:=(hS' b hb).1;omega
  .have Hg:=hP.mY (m:=h+1+1+1+1) (by omega)
   rintro b (hb|hb|hb)
   .exact hP.ap6 b hb
   .have:=(fL b hb).1;omega
   .have:=(fR b hb).1;omega
  .intro m hm
   have:=hP.mY hm;omega
 .exact(fq hE).trans K (λ_ _ h=>h)
 .intro b hb
  rcases TQ b hb with h1|h1
  .exact .inl h1
  .exact .inr (by omega)
 .rintro b (hb|hb|hb)
  .exact .inl hb
  .exact .inr (fL b hb).1
  .exact .inr (fR b hb).1
end
section
open Go.RowKit
open bO (dH Nd vl Same Ge)
variable {w w':World} {pp h:Nat} {s:iH}
theorem dz.maps(k:dz w pp h s){G:Nat->Prop}(hk:dX G w w')(hG:∀b,G b->h<=b/\b<h+1+1+1){AU:Nat->Option Nat}(hc:Bi s.D AU)
 (find:∃f,gz prog 9 w' h s.D.length f/\(∀i (hi:i<s.D.length),f (uK s.D[i])=some (.int .i64 (i:Int)))/\∀k v,f k=some v->∃i,∃hi:i<s.D.length,k=uK s.D[i]/\v=.int .i64 (i:Int))
 (orders:∃n f,gz prog 183 w' (h+1) n f/\∀k v,f k=some v->∃(a b:Nat) (g:Bool),k=.agg #[.int .i64 (a:Int),.int .i64 (b:Int)]/\v=.bool g/\a<s.D.length/\b<s.D.length/\(g=true↔bO.Ge (vl s.D a) (vl s.D b)))
 (AX:∃n f,gz prog 3 w' (h+1+1) n f/\(∀i:Nat,f (.int .i64 (i:Int))=(AU i).map λj=>.int .i64 (j:Int))/\∀k v,f k=some v->∃i:Nat,k=.int .i64 (i:Int)):
 dz w' pp h ⟨s.lv,s.rv,s.bv,s.D,s.S,AU⟩/\dX (jN pp h s) w w':=by
 obtain⟨x1,a1,b1⟩:=k.left;obtain⟨x2,a2,b2⟩:=k.right;have hF:∀b,s.lv.ownBlock=some b\/s.rv.ownBlock=some b\/s.bv.ownBlock=some b->¬G b:=λb hb hg=>by have:=(k.Eg b hb).2;have:=hG b hg;omega
 have hS:∀b,s.S b->¬G b:=λb hb hg=>k.ap5 b hb (.inr (.inl (hG b hg)))
 exact⟨⟨k.good,k.small,hc,(hk.block _ (bu k.box) (λhg=>by have:=k.ZM;have:=hG pp hg;omega)).trans k.box,⟨x1,bI a1 hk (λb hb=>hF b (.inl hb)),b1.keep hk hS⟩,⟨x2,bI a2 hk (λb hb=>hF b (.inr (.inl hb))),b2.keep hk hS⟩,bI k.born hk (λb hb=>hF b (.inr (.inr hb))),
  find,orders,AX,k.ZM,k.Eg,k.ap3,k.ap4,k.ap5,k.ap6,λhm=>bz (k.mY hm) hk.size⟩,⟨hk.os,hk.tape,hk.output,hk.size,λb hb hn=>hk.block b hb (λhg=>hn (.inr (.inl (hG b hg))))⟩⟩
theorem dz.Ky(k:dz w pp h s)(hb:w'.heap[h]?=w.heap[h]?):∃f,gz prog 9 w' h s.D.length f/\(∀i (hi:i<s.D.length),f (uK s.D[i])=some (.int .i64 (i:Int)))/\∀k v,f k=some v->∃i,∃hi:i<s.D.length,k=uK s.D[i]/\v=.int .i64 (i:Int):=by
 obtain⟨f,h1,h2⟩:=k.find;exact⟨f,h1.keep hb,h2⟩
theorem dz.Ms(k:dz w pp h s)(hb:w'.heap[h+1]?=w.heap[h+1]?):∃n f,gz prog 183 w' (h+1) n f/\∀k v,f k=some v->∃(a b:Nat) (g:Bool),k=.agg #[.int .i64 (a:Int),.int .i64 (b:Int)]/\v=.bool g/\a<s.D.length/\b<s.D.length/\(g=true↔bO.Ge (vl s.D a) (vl s.D b)):=by
 obtain⟨n,f,h1,h2⟩:=k.orders;exact⟨n,f,h1.keep hb,h2⟩
theorem dz.NA(k:dz w pp h s)(hb:w'.heap[h+1+1]?=w.heap[h+1+1]?):∃n f,gz prog 3 w' (h+1+1) n f/\(∀i:Nat,f (.int .i64 (i:Int))=(s.cn i).map λj=>.int .i64 (j:Int))/\∀k v,f k=some v->∃i:Nat,k=.int .i64 (i:Int):=by
 obtain⟨n,f,h1,h2⟩:=k.AX;exact⟨n,f,h1.keep hb,h2⟩
theorem dz.tN(k:dz w pp h s):∃f,gz prog 183 w (h+1) 810000000000 f/\∀k v,f k=some v->∃(a b:Nat) (g:Bool),k=.agg #[.int .i64 (a:Int),.int .i64 (b:Int)]/\v=.bool g/\a<s.D.length/\b<s.D.length/\(g=true↔bO.Ge (vl s.D a) (vl s.D b)):=by
 obtain⟨n,f,h1,h2⟩:=k.orders;refine⟨f,(h1.room ((List.range s.D.length).flatMap λ(a:Nat)=>(List.range s.D.length).map λ(b:Nat)=>.agg #[.int .i64 (a:Int),.int .i64 (b:Int)]) λkey v hv=>?_).mono ?_,h2⟩
 .obtain⟨a,b,g,e,_,ha,hb,_⟩:=h2 key v hv
  exact List.mem_flatMap.2 ⟨a,dM.2 ha,aH.2 ⟨b,dM.2 hb,e.symm⟩⟩
 .have e:∀l:List Nat,(l.flatMap λ(a:Nat)=>(List.range s.D.length).map λ(b:Nat)=>Value.agg #[.int .i64 (a:Int),.int .i64 (b:Int)]).length=l.length*s.D.length:=by
   intro l
   induction l with
   |nil=>simp
   |cons x l ih=>rw[ji,aK,ih,bD,rR,fQ,kS];omega
  rw[e,rR];exact gu k.small k.small
theorem dz.GN{n:Nat}{f:Value->Option Value}{a b:Nat}{g:Bool}(k:dz w pp h s)(hf:∀k v,f k=some v->∃(a b:Nat) (g:Bool),k=.agg #[.int .i64 (a:Int),.int .i64 (b:Int)]/\v=.bool g/\a<s.D.length/\b<s.D.length/\(g=true↔bO.Ge (vl s.D a) (vl s.D b)))
 (hM:gz prog 183 w' (h+1) n (upd (λ_ _=>Classical.propDecidable _) f (.agg #[.int .i64 (a:Int),.int .i64 (b:Int)]) (.bool g))) (hg:w.grownBy w' (some (h+1))) (ha:a<s.D.length) (hb:b<s.D.length) (hge:g=true↔bO.Ge (vl s.D a) (vl s.D b)):jK pp h s w s w':=by
 have kk:=gJ hg;obtain⟨h1,h2⟩:=k.maps kk (λb hb=>by omega) k.vY (k.Ky (kk.block _ (k.mY (by omega)) (by omega))) ⟨n,_,hM,λkey v hv=>by
  rcases wK hv with⟨rfl,rfl⟩|hv
  .exact⟨a,b,g,rfl,rfl,ha,hb,hge⟩
  .exact hf key v hv⟩ (k.NA (kk.block _ (k.mY (by omega)) (by omega)))
 exact⟨h1,h2,λ_ h=>.inl h,λ_ h=>h,λ_ h=>.inl h,⟨[],by simp⟩,λ_ _ h=>h⟩
def Xv(pp h:Nat)(s:iH)(a b:Nat)(w:World)(e:Ending)(w':World):Prop:=∃g:Bool,e=.returned (.bool g)/\(g=true↔Ge (vl s.D a) (vl s.D b))/\jK pp h s w s w'
def WV(m:Nat):Prop:=∀(pp h:Nat) (s:iH) (a b:Nat) (w:World),dz w pp h s->a<s.D.length->b<s.D.length->a+b<m->Calls prog 217 #[.pointer (some ⟨pp,0,none⟩),.int .i64 (a:Int),.int .i64 (b:Int)] w (Xv pp h s a b w)
theorem aak(w:World):(zeroValue 4).run prog w=.ok (.bool false) w:=by kernel_rfl
def Fp:List Row:=[⟨0,[],23,[0]⟩,⟨1,[0],24,[22]⟩,⟨2,[1],25,[23]⟩,⟨3,[2],26,[24]⟩,⟨4,[],27,[7]⟩,⟨5,[3,4],28,[25,26]⟩,⟨6,[5],22,[27]⟩,⟨7,[6],29,[21]⟩,⟨8,[6],30,[21]⟩,⟨9,[7,0,1,2,3,4,5,6,7],9,[28]⟩,⟨10,[8,9,0,1,2,3,4,5,6,7,8,9],10,[29]⟩]
def Ah:List Row:=[⟨0,[],68,[0]⟩,⟨1,[0],69,[67]⟩,⟨2,[1],70,[68]⟩,⟨3,[2],71,[69]⟩,⟨4,[],72,[7]⟩,⟨5,[],73,[10]⟩,⟨6,[3,4,5,0,1,2,3,4,5],0,[70,71,72]⟩]
set_option maxHeartbeats 4000000 in
theorem Zp{m:Nat}(ih:WV m):WV (m+1):=by
 intro pp h s a b w hP ha hb hm;have hds:=hP.small;go_enter Tryz.func217,Tryz.ntmps217
 by_cases hab:a=b
 .subst hab
  go_wp2_with fail
  go_ret
  exact⟨true,rfl,by simp[bO.mW],jK.refl hP (Below.refl _ _)⟩
 have hne:((a:Int)== (b:Int))=false:=by simp;omega
 have HNE:=aQ hab;clear hab;have hx1:Ext w (w.alloc (.cells #[.int .i64 (a:Int),.int .i64 (b:Int)] 183)):=by go_grown
 have hkb:(w.alloc (.cells #[.int .i64 (a:Int),.int .i64 (b:Int)] 183)).heap[w.heap.size]?=_:=heap_alloc_new w _;go_upto_region 4 with fail
 have hP1:=hP.ext hx1;generalize w.alloc (.cells #[.int .i64 (a:Int),.int .i64 (b:Int)] 183)=W1 at *;obtain⟨f,hM,hf⟩:=hP1.tN;obtain⟨kl,hkl⟩:=MN a b (by omega) (by omega);have hlk:=λ(W:World) (hW:W.heap[h+1]?=W1.heap[h+1]?)=>(hM.keep hW).look Aw underlying134 (aak W) hkl true
 have R5:=cell_of_row W1 w.heap.size 0 _ _ _ hkb;have ck1:=cell_of_row W1 w.heap.size 1 _ _ _ hkb;have hP0:dz W1.drew pp h s:=hP1.ext (eU ⟨1,rfl⟩);have vS:jK pp h s w s W1.drew:=jK.refl hP (ax hx1 (eU ⟨1,rfl⟩));have hnb:w.heap.size<W1.drew.heap.size:=bu hkb;have Lm:¬jN pp h s w.heap.size:=λhc=>by have:=hP.JH hc;omega
 have c4:=hP1.c4;have hagg:Value.agg #[.int .i64 (a:Int),.int .i64 (b:Int)]=Value.agg #[.int .i64 (a:Int),.int .i64 (b:Int)]:=rfl;clear hagg hP1;cases M9:f (.agg #[.int .i64 (a:Int),.int .i64 (b:Int)])with
 |some v=>
  obtain⟨a',b',g,e1,rfl,-,-,hg⟩:=hf _ _ M9;simp only[Value.agg.injEq,Array.mk.injEq,jQ,Value.int.injEq,true_and,and_true]at e1;obtain⟨e1,e2⟩:=e1;obtain rfl:a=a':=by omega
  obtain rfl:b=b':=by omega
  simp only[M9,bW,Option.isSome_some,if_true]at hlk;refine bV (λW=>W.cell? ⟨pp,4,none⟩=some (.map (some (h+1)))/\W.cell? ⟨w.heap.size,0,none⟩=some (.int .i64 (a:Int))/\W.cell? ⟨w.heap.size,1,none⟩=some (.int .i64 (b:Int))/\(Instr.lookup 134 (.map (some (h+1))) (.agg #[.int .i64 (a:Int),.int .i64 (b:Int)]) true).run prog W=.ok (.tuple #[.bool g,.bool true]) W) [10] Fp (by kernel_rfl) ⟨by kernel_rfl,by kernel_rfl,by kernel_rfl⟩ ⟨c4,R5,ck1,hlk _ rfl⟩ (λaz ah=>?_);(refine bT 0 az ah ?_;refine bT 1 az ah ?_;refine bT 2 az ah ?_;refine bT 3 az ah ?_;refine bT 4 az ah ?_;refine bT 5 az ah ?_;refine bT 6 az ah ?_;refine bT 7 az ah ?_;refine bT 8 az ah ?_;refine bT 9 az ah ?_);refine nU az [10] [_] ?_;clear az ah;go_wp2_with fail
  go_ret
  exact⟨g,rfl,hg,vS⟩
 |none=>
  simp only[M9,Option.getD_none,Option.isSome_none,if_true]at hlk;refine bV (λW=>W.cell? ⟨pp,4,none⟩=some (.map (some (h+1)))/\W.cell? ⟨w.heap.size,0,none⟩=some (.int .i64 (a:Int))/\W.cell? ⟨w.heap.size,1,none⟩=some (.int .i64 (b:Int))/\(Instr.lookup 134 (.map (some (h+1))) (.agg #[.int .i64 (a:Int),.int .i64 (b:Int)]) true).run prog W=.ok (.tuple #[.bool false,.bool false]) W) [10] Fp (by kernel_rfl) ⟨by kernel_rfl,by kernel_rfl,by kernel_rfl⟩ ⟨c4,R5,ck1,hlk _ rfl⟩ (λaz ah=>?_);(refine bT 0 az ah ?_;refine bT 1 az ah ?_;refine bT 2 az ah ?_;refine bT 3 az ah ?_;refine bT 4 az ah ?_;refine bT 5 az ah ?_;refine bT 6 az ah ?_;refine bT 7 az ah ?_;refine bT 8 az ah ?_;refine bT 9 az ah ?_);refine nU az [10] [_] ?_;clear az ah hlk hf M9 hM f c4;have adh:W1.drew.cell? ⟨w.heap.size,0,none⟩=some (.int .i64 (a:Int)):=R5;have adg:W1.drew.cell? ⟨w.heap.size,1,none⟩=some (.int .i64 (b:Int)):=ck1;clear R5 ck1 hkb hx1;generalize W1.drew=W0 at *;obtain⟨gr,Ws,aR,cR,xK,acn,qa,KP,hSR⟩:=hP0.pV ha;obtain⟨gl,Wu,aL,cL,zU,acr,acp,KQ,tu⟩:=hP0.rG hb;have haw:=hP0.good.wf a _ (aa ha);have hbw:=hP0.good.wf b _ (aa hb);have HW:=aQ hP0.good.wf;go_wp2
  go_loopw [10,12,40] (λis _ ii wr=>∃k:Nat,k<=(s.D[a]).2.length/\ii=.int .i64 ((k:Nat):Int)/\is=.bool true/\jK pp h s W0 s wr/\Hid (∀j (h:j<(s.D[a]).2.length),j<k->¬Ge (vl s.D b) (vl s.D (s.D[a]).2[j]))) (λ_ _ ii _=>(s.D[a]).2.length-(intOf ii).toNat)
  case atStart=>exact⟨0,aJ _,rfl,rfl,jK.refl hP0 (Below.refl _ _),λj _ h=>absurd h (by omega)⟩
  case round=>
   obtain⟨k,hk,rfl,rfl,hgo,HN⟩:=hrel;by_cases hlt:k<(s.D[a]).2.length
   .have h1:((k:Nat):Int)<(((s.D[a]).2.length:Nat):Int):=by omega
    have hI:=(nN.go hSR (Off.lists hP0) hgo).out;obtain⟨aR',cR',e,-,hln,hcl⟩:=hI;rw[bJ]at hln;simp only[Value.slice.injEq,bJ,true_and]at e;obtain⟨rfl,rfl⟩:=e;obtain⟨bR,oR,rfl,hcell⟩:=hcl (by rw[bJ];omega);have hck:=hcell k (by rw[bJ];exact hlt);rw[gy hlt]at hck;have Ll:=haw.2 _ (ai hlt);have IH:=aQ (ih pp h s b (s.D[a]).2[k] wr hgo.pool hb (by omega) (by omega));have HSR:=aQ hSR;have HSL:=aQ tu;clear hcl hcell hSR tu ih;by_cases hge:Ge (vl s.D b) (vl s.D (s.D[a]).2[k])
    .have Et:=aQ hge
     go_upto_region 21 with(go_at_call 217;refine IH.out.mono ?_;rintro e wX ⟨g,rfl,hg,ib⟩
                            obtain rfl:g=true:=hg.2 Et.out;have DN:=hgo.trans ib;have Kl:=aQ (show(false=true↔Ge (vl s.D a) (vl s.D b)) by simpa using zu HW.out ha hlt Et.out);clear hg)
     have Kq:=DN.pool;have hkX:=DN.keep.block _ hnb Lm;have Wn:wX.cell? ⟨w.heap.size,0,none⟩=some (.int .i64 (a:Int)):=(World.cell?_of_block hkX).trans adh;have Wm:wX.cell? ⟨w.heap.size,1,none⟩=some (.int .i64 (b:Int)):=(World.cell?_of_block hkX).trans adg;obtain⟨fX,hMX,hfX⟩:=Kq.tN;have c4X:=Kq.c4;refine bV (λW=>W.cell? ⟨pp,4,none⟩=some (.map (some (h+1)))/\W.cell? ⟨w.heap.size,0,none⟩=some (.int .i64 (a:Int))/\W.cell? ⟨w.heap.size,1,none⟩=some (.int .i64 (b:Int))) [6] Ah (by kernel_rfl) ⟨by kernel_rfl,by kernel_rfl,by kernel_rfl⟩ ⟨c4X,Wn,Wm⟩ (λaz ah=>?_);(refine bT 0 az ah ?_;refine bT 1 az ah ?_;refine bT 2 az ah ?_;refine bT 3 az ah ?_;refine bT 4 az ah ?_;refine bT 5 az ah ?_);refine nU az [6] [_] ?_;clear az ah;go_wp2_with (at_mapUpdate;refine iK rfl _ _ _ 134 rfl 183 4 Aw underlying134 (h+1) 810000000000 fX rfl (hMX.keep rfl) (by unfold maxLen;omega) (.agg #[.int .i64 (a:Int),.int .i64 (b:Int)]) _ rfl rfl ⟨kl,hkl⟩ ?_;intro wZ hMZ hgZ)
     go_ret
     exact⟨_,rfl,by simpa using Kl.out,vS.trans (DN.trans ((jK.refl Kq (eU ⟨1,rfl⟩)).trans (dz.GN (Kq.ext (eU ⟨1,rfl⟩)) hfX hMZ hgZ ha hb (by simpa using Kl.out))))⟩
    .have Et:=aQ hge
     go_wp2_with (go_at_call 217;refine IH.out.mono ?_;rintro e wX ⟨g,rfl,hg,ib⟩
                  obtain rfl:g=false:=(by simpa using(λe=>Et.out (hg.1 e)));clear hg)
     go_roundw
     case rel=>exact⟨k+1,by omega,by go_num,rfl,hgo.trans ib,Ar hlt HN Et.out⟩
     case measure=>simp[intOf];omega
   .have h1:¬(((k:Nat):Int)<(((s.D[a]).2.length:Nat):Int)):=by omega
    have hkl:k=(s.D[a]).2.length:=(by omega);subst hkl;have hkn:=hgo.keep;obtain⟨wo,rfl⟩:∃wo:World,wo=wr:=⟨_,rfl⟩;have cpl:=hgo.pool.rG hb;obtain⟨gl',aoI,aL',cL',aoC,anw,anv,aso,Zg⟩:=cpl;have HSL:=aQ tu;clear tu hSR KP KQ zU xK;go_wp2
    go_loopw [10,14,58] (λis _ ii wr=>∃k:Nat,k<=(s.D[b]).1.length/\ii=.int .i64 ((k:Nat):Int)/\is=.bool true/\jK pp h s W0 s wr/\jK pp h s wo s wr/\Hid (∀j (h:j<(s.D[b]).1.length),j<k->¬Ge (vl s.D (s.D[b]).1[j]) (vl s.D a))) (λ_ _ ii _=>(s.D[b]).1.length-(intOf ii).toNat)
    case atStart=>exact⟨0,aJ _,rfl,rfl,hgo,jK.refl hgo.pool (Below.refl _ _),λj _ h=>absurd h (by omega)⟩
    case round=>
     clear hkn;have hPo:=hgo.pool;clear hgo;obtain⟨k,hk,rfl,rfl,hgo,afB,CO⟩:=hrel;by_cases hlt:k<(s.D[b]).1.length
     .have h1:((k:Nat):Int)<(((s.D[b]).1.length:Nat):Int):=by omega
      have hI:=(nN.go Zg (Off.lists hPo) afB).out;obtain⟨LF,LD,e,-,hln,hcl⟩:=hI;rw[bJ]at hln;simp only[Value.slice.injEq,bJ,true_and]at e;obtain⟨rfl,rfl⟩:=e;obtain⟨bR,oR,rfl,hcell⟩:=hcl (by rw[bJ];omega);have hck:=hcell k (by rw[bJ];exact hlt);rw[gy hlt]at hck;have Ll:=hbw.1 _ (ai hlt);have IH:=aQ (ih pp h s (s.D[b]).1[k] a wr hgo.pool (by omega) ha (by omega));have as8:=aQ Zg;clear hcl hcell Zg ih;by_cases hge:Ge (vl s.D (s.D[b]).1[k]) (vl s.D a)
      .have Et:=aQ hge
       go_upto_region 21 with(go_at_call 217;refine IH.out.mono ?_;rintro e wX ⟨g,rfl,hg,ib⟩
                              obtain rfl:g=true:=hg.2 Et.out;have DN:=hgo.trans ib;have Kl:=aQ (show(false=true↔Ge (vl s.D a) (vl s.D b)) by simpa using zy HW.out hb hlt Et.out);clear hg)
       have Kq:=DN.pool;have hkX:=DN.keep.block _ hnb Lm;have Wn:wX.cell? ⟨w.heap.size,0,none⟩=some (.int .i64 (a:Int)):=(World.cell?_of_block hkX).trans adh;have Wm:wX.cell? ⟨w.heap.size,1,none⟩=some (.int .i64 (b:Int)):=(World.cell?_of_block hkX).trans adg;obtain⟨fX,hMX,hfX⟩:=Kq.tN;have c4X:=Kq.c4;refine bV (λW=>W.cell? ⟨pp,4,none⟩=some (.map (some (h+1)))/\W.cell? ⟨w.heap.size,0,none⟩=some (.int .i64 (a:Int))/\W.cell? ⟨w.heap.size,1,none⟩=some (.int .i64 (b:Int))) [6] Ah (by kernel_rfl) ⟨by kernel_rfl,by kernel_rfl,by kernel_rfl⟩ ⟨c4X,Wn,Wm⟩ (λaz ah=>?_);(refine bT 0 az ah ?_;refine bT 1 az ah ?_;refine bT 2 az ah ?_;refine bT 3 az ah ?_;refine bT 4 az ah ?_;refine bT 5 az ah ?_);refine nU az [6] [_] ?_;clear az ah;go_wp2_with (at_mapUpdate;refine iK rfl _ _ _ 134 rfl 183 4 Aw underlying134 (h+1) 810000000000 fX rfl (hMX.keep rfl) (by unfold maxLen;omega) (.agg #[.int .i64 (a:Int),.int .i64 (b:Int)]) _ rfl rfl ⟨kl,hkl⟩ ?_;intro wZ hMZ hgZ)
       go_ret
       exact⟨_,rfl,by simpa using Kl.out,vS.trans (DN.trans ((jK.refl Kq (eU ⟨1,rfl⟩)).trans (dz.GN (Kq.ext (eU ⟨1,rfl⟩)) hfX hMZ hgZ ha hb (by simpa using Kl.out))))⟩
      .have Et:=aQ hge
       go_wp2_with (go_at_call 217;refine IH.out.mono ?_;rintro e wX ⟨g,rfl,hg,ib⟩
                    obtain rfl:g=false:=(by simpa using(λe=>Et.out (hg.1 e)));clear hg)
       go_roundw
       case rel=>exact⟨k+1,by omega,by go_num,rfl,hgo.trans ib,afB.trans ib,yz hlt CO Et.out⟩
       case measure=>simp[intOf];omega
     .have h1:¬(((k:Nat):Int)<(((s.D[b]).1.length:Nat):Int)):=by omega
      have Kl:=aQ (show(true=true↔Ge (vl s.D a) (vl s.D b)) by simpa using FQ HW.out ha hb (λj h=>HN.out j h h) (λj h=>CO.out j h (by omega)));obtain⟨wX,rfl⟩:∃wX:World,wX=wr:=⟨_,rfl⟩;have DN:=hgo;clear Zg ih;go_upto_region 21 with fail
      have Kq:=DN.pool;have hkX:=DN.keep.block _ hnb Lm;have Wn:wX.cell? ⟨w.heap.size,0,none⟩=some (.int .i64 (a:Int)):=(World.cell?_of_block hkX).trans adh;have Wm:wX.cell? ⟨w.heap.size,1,none⟩=some (.int .i64 (b:Int)):=(World.cell?_of_block hkX).trans adg;obtain⟨fX,hMX,hfX⟩:=Kq.tN;have c4X:=Kq.c4;refine bV (λW=>W.cell? ⟨pp,4,none⟩=some (.map (some (h+1)))/\W.cell? ⟨w.heap.size,0,none⟩=some (.int .i64 (a:Int))/\W.cell? ⟨w.heap.size,1,none⟩=some (.int .i64 (b:Int))) [6] Ah (by kernel_rfl) ⟨by kernel_rfl,by kernel_rfl,by kernel_rfl⟩ ⟨c4X,Wn,Wm⟩ (λaz ah=>?_);(refine bT 0 az ah ?_;refine bT 1 az ah ?_;refine bT 2 az ah ?_;refine bT 3 az ah ?_;refine bT 4 az ah ?_;refine bT 5 az ah ?_);refine nU az [6] [_] ?_;clear az ah;go_wp2_with (at_mapUpdate;refine iK rfl _ _ _ 134 rfl 183 4 Aw underlying134 (h+1) 810000000000 fX rfl (hMX.keep rfl) (by unfold maxLen;omega) (.agg #[.int .i64 (a:Int),.int .i64 (b:Int)]) _ rfl rfl ⟨kl,hkl⟩ ?_;intro wZ hMZ hgZ)
      go_ret
      exact⟨_,rfl,by simpa using Kl.out,vS.trans (DN.trans ((jK.refl Kq (eU ⟨1,rfl⟩)).trans (dz.GN (Kq.ext (eU ⟨1,rfl⟩)) hfX hMZ hgZ ha hb (by simpa using Kl.out))))⟩
theorem aez:∀m,WV m:=by
 intro m
 induction m with
 |zero=>intro pp h s a b w _ _ _ h;omega
 |succ m ih=>exact Zp ih
theorem Cr(pp h:Nat)(s:iH)(a b:Nat)(w:World)(hP:dz w pp h s)(ha:a<s.D.length)(hb:b<s.D.length):Calls prog 217 #[.pointer (some ⟨pp,0,none⟩),.int .i64 (a:Int),.int .i64 (b:Int)] w (Xv pp h s a b w):=
 aez (a+b+1) pp h s a b w hP ha hb (by omega)
end
end Go.Proofs.YteknjeohbcgpdaaGreatDoor