/-
  Contract of the program's ge: the order of two games of the pool. (2 texts.)
-/
import Derived.Test.YteknjeohbcgpdaaGreatDoorK26
set_option maxRecDepth 100000
namespace Go.Proofs.YteknjeohbcgpdaaGreatDoor
open Tryz
section
open Go.RowKit
open bz (dC Nd vl Same)
variable {c:Array Value} {w w1:World} {o:Option Nat} {pp n:Nat} {T:TypeId} {X:Obj} {v:Value} {D E:dC} {f:Value->Option Value}
theorem kP{a b c:World}{G:Nat->Prop}(h:Ext a b)(k:fe G b c)(hG:∀x,G x->a.heap.size<=x):Ext a c:=
 ⟨k.os.trans h.os,k.tape.trans h.tape,k.output.trans h.output,bU h.size k.size,λx hx=>(k.block x (aQ hx h.size) (λg=>by have:=hG x g;omega)).trans (h.block x hx)⟩
theorem fD{w':World}(g:w.grownBy w' o):fe (λb=>o=some b) w w':=⟨g.os,g.tape,g.output,g.size,λk hk hn=>g.block k hk (λe=>hn e.symm)⟩
theorem wC(h:w.heap[pp]?=some (.cells c T (0,0))):pp<w.heap.size/\(∀j v,c[j]?=some v->w.cell? ⟨pp,j,none⟩=some v)/\∀j,w.frozen? ⟨pp,j,none⟩=false:=by
 refine⟨bG h,λj v hj=>(cell_of_row w pp j _ _ _ h).trans hj,λj=>?_⟩;simp[World.frozen?,h]
theorem BN(h:w.heap[pp]?=some (.cells c T (0,0)))(hg:(w.alloc X).grownBy w1 o)(ho:o≠some pp):w1.heap[pp]?=some (.cells c T (0,0)):=by
 have hl:=bG h;rw[hg.block pp (by rw[fw];omega) (Ne.symm ho),Below.heap_alloc _ _ _ hl];exact h
theorem FQ{B e size:Nat}{xs:List Value}(h:w.ownsRow B e size v n xs)(hg:(w.alloc X).grownBy w1 o)(ho:∀b,v.ownBlock=some b->o≠some b):w1.ownsRow B e size v n xs:=
 bO (dn h (bK (Below.refl _ _) X)) (fD hg) ho
theorem rP{j:Nat}{v1:Value}{e:TypeId}{ys:List Value}
 (hb:w.heap[pp]?=some (.cells c T (0,0))) (hv:v.ownBlock≠some pp) (hg:(w.alloc X).grownBy w1 v.ownBlock) (ho:w1.ownsRow 0 e 1 v1 n ys) (hl:mM (w.alloc X) v v1):
 (w1.setCell ⟨pp,j,none⟩ v1).heap[pp]?=some (.cells (c.setIfInBounds j v1) T (0,0))/\(w1.setCell ⟨pp,j,none⟩ v1).ownsRow 0 e 1 v1 n ys/\fe (λb=>b=pp\/v.ownBlock=some b) w (w1.setCell ⟨pp,j,none⟩ v1)/\(v1.ownBlock=v.ownBlock\/∃g,v1.ownBlock=some g/\w.heap.size<=g)/\v1.ownBlock≠some pp:=by
 have hlt:=bG hb;have h1:=BN hb hg hv;have hL:v1.ownBlock=v.ownBlock\/∃g,v1.ownBlock=some g/\w.heap.size<=g:=by
  rcases hl with h|⟨g,h,k⟩
  .exact .inl h
  .rw[fw]at k;exact .inr ⟨g,h,by omega⟩
 have LJ:v1.ownBlock≠some pp:=by
  rcases hL with h|⟨g,h,k⟩
  .rw[h];exact hv
  .rw[h];intro e;injection e with e;omega
 refine⟨heap_setCell_same _ _ _ _ _ _ h1,ownsRow_setCell_other ho (a:=⟨pp,j,none⟩) LJ v1,⟨hg.os,hg.tape,hg.output,?_,λk hk hn=>?_⟩,hL,LJ⟩
 .rw[World.size_setCell];have:=hg.size;rw[fw]at this;omega
 .rw[heap_setCell_other _ _ _ _ (λe=>hn (.inl e)),hg.block k (by rw[fw];omega) (λe=>hn (.inr e.symm)),Below.heap_alloc _ _ _ hk]
theorem Ap.more{cn:Nat->Option Nat}(h:Ap D cn)(hD:bz.WF D)(hE:bz.WF (D++E)):Ap (D++E) cn:=by
 refine⟨λi j hi=>?_,λi j hi=>?_,h.self,λi j nd hi hn=>?_⟩
 .have:=h.lt i j hi;simp;omega
 .have hl:=h.lt i j hi
  rw[bz.ib hD hE i hl.1,bz.ib hD hE j hl.2];exact h.ok i j hi
 .have hl:=h.lt i j hi
  rw[dN hl.1]at hn;exact h.sub i j nd hi hn
theorem Ee(hD:bz.WF D)(hE:bz.WF (D++E))(l:List Nat)(hl:∀x,x∈l->x<D.length):fJ (D++E) l=fJ D l:=by
 have key:∀(k:List Nat) (m:Int),(∀x,x∈k->x<D.length)->k.foldl (λm x=>max m ((bz.born (vl (D++E) x):Int)+1)) m=k.foldl (λm x=>max m ((bz.born (vl D x):Int)+1)) m:=by
  intro k
  induction k with
  |nil=>intro m _;rfl
  |cons x k ih=>
   intro m hx;simp only[List.foldl_cons];rw[bz.ib hD hE x (hx x (by simp))];exact ih _ (λy hy=>hx y (by simp[hy]))
 exact key _ _ hl
def Ah(pp h:Nat)(s:iQ)(l r:List Nat)(w:World)(e:Ending)(w':World):Prop:=
 ∃s' i,e=.returned (.int .i64 ((i:Nat):Int))/\jK pp h s w s' w'/\jo s.D l r s'.D i/\s'.cn=s.cn
theorem vw{key val k:Value}(h:upd (λ_ _=>Classical.propDecidable _) f key val k=some v):(k=key/\v=val)\/f k=some v:=by
 by_cases c:k=key
 .subst c;rw[upd_same]at h;injection h with h;exact .inl ⟨rfl,h.symm⟩
 .rw[upd_ne c]at h;exact .inr h
theorem RI{wp w2 w3 w4:World}{h:Nat}{s:iQ}{l r:List Nat}{L R BF J7 Hr:Value}{xl xr:List Value}
 (hP:dm w pp h s) (hE:Ext w wp) (hroom:s.D.length+1<=900000) (hl:∀x,x∈l->x<s.D.length) (hr:∀x,x∈r->x<s.D.length)
 (hL:Ints wp L (dx (bE l))) (hR:Ints wp R (dx (bE r))) (fL:∀b,L.ownBlock=some b->w.heap.size<=b/\b<wp.heap.size) (fR:∀b,R.ownBlock=some b->w.heap.size<=b/\b<wp.heap.size)
 (hf1:∀i (hi:i<s.D.length),f (uk s.D[i])=some (.int .i64 (i:Int))) (hf2:∀k v,f k=some v->∃i,∃hi:i<s.D.length,k=uk s.D[i]/\v=.int .i64 (i:Int)) (hfn:f (uk (bE l,bE r))=none)
 (hM:gu prog 9 w1 h (s.D.length+1) (upd (λ_ _=>Classical.propDecidable _) f (uk (bE l,bE r)) (.int .i64 ((s.D.length:Nat):Int)))) (hg1:wp.grownBy w1 (some h))
 (hxl:wp.ownsRow 0 80 1 s.lv s.D.length xl) (hil:Items Dz s.S 1 xl (s.D.map (·.1)) wp) (J9:wp.ownsRow 0 80 1 s.rv s.D.length xr) (hir:Items Dz s.S 1 xr (s.D.map (·.2)) wp)
 (hg2:(w1.alloc (.cells #[L] 80)).grownBy w2 s.lv.ownBlock) (ho2:w2.ownsRow 0 80 1 BF (s.D.length+1) (xl++[L])) (hl2:mM (w1.alloc (.cells #[L] 80)) s.lv BF)
 (hg3:((w2.setCell ⟨pp,0,none⟩ BF).alloc (.cells #[R] 80)).grownBy w3 s.rv.ownBlock) (ho3:w3.ownsRow 0 80 1 J7 (s.D.length+1) (xr++[R])) (hl3:mM ((w2.setCell ⟨pp,0,none⟩ BF).alloc (.cells #[R] 80)) s.rv J7)
 (hg4:((w3.setCell ⟨pp,1,none⟩ J7).alloc (.cells #[.int .i64 (fJ s.D (bE l++bE r))] 3)).grownBy w4 s.bv.ownBlock) (He:w4.ownsRow 0 3 1 Hr (s.D.length+1) ((s.D.mapIdx λi _=>(bz.born (vl s.D i):Int)).map (Value.int .i64)++[.int .i64 (fJ s.D (bE l++bE r))])) (hl4:mM ((w3.setCell ⟨pp,1,none⟩ J7).alloc (.cells #[.int .i64 (fJ s.D (bE l++bE r))] 3)) s.bv Hr):
 Ah pp h s l r w (.returned (.int .i64 ((s.D.length:Nat):Int))) (w4.setCell ⟨pp,2,none⟩ Hr):=by
 have hPp:=hP.ext hE;have hg:=hP.good;have k1:=gJ hg1;have hb1:w1.heap[pp]?=_:=(k1.block pp (bG hPp.box) (λe=>by have:=hP.WZ;omega)).trans hPp.box;have l2:s.lv.ownBlock≠some pp:=λe=>(hP.Dr pp (.inl e)).1 rfl
 have r2:s.rv.ownBlock≠some pp:=λe=>(hP.Dr pp (.inr (.inl e))).1 rfl
 have b2:s.bv.ownBlock≠some pp:=λe=>(hP.Dr pp (.inr (.inr e))).1 rfl
 obtain⟨hb2,hw2,k2,z2,q2⟩:=rP (j:=0) hb1 l2 hg2 ho2 hl2;obtain⟨hb3,hw3,k3,z3,q3⟩:=rP (j:=1) hb2 r2 hg3 ho3 hl3;obtain⟨hb4,hw4,k4,z4,q4⟩:=rP (j:=2) hb3 b2 hg4 He hl4;have s0:=hE.size;have s1:=k1.size;have s2:w1.heap.size<=_:=k2.size;have s3:=k3.size;have s4:=k4.size;have hlv:=hxl.lt;have hrv:=J9.lt;have hbv:=hPp.born.lt;have hmap:∀{m},m<h+1+1+1+1+1->m<w.heap.size:=λhm=>hP.ny hm
 have oL:∀b,BF.ownBlock=some b->s.lv.ownBlock=some b\/wp.heap.size<=b:=λb hb=>by
  rcases z2 with e|⟨g,e,k⟩
  .exact .inl (e ▸ hb)
  .rw[e]at hb;injection hb with hb;exact .inr (by omega)
 have oR:∀b,J7.ownBlock=some b->s.rv.ownBlock=some b\/(w2.setCell ⟨pp,0,none⟩ BF).heap.size<=b:=λb hb=>by
  rcases z3 with e|⟨g,e,k⟩
  .exact .inl (e ▸ hb)
  .rw[e]at hb;injection hb with hb;exact .inr (by omega)
 have oB:∀b,Hr.ownBlock=some b->s.bv.ownBlock=some b\/(w3.setCell ⟨pp,1,none⟩ J7).heap.size<=b:=λb hb=>by
  rcases z4 with e|⟨g,e,k⟩
  .exact .inl (e ▸ hb)
  .rw[e]at hb;injection hb with hb;exact .inr (by omega)
 have lLt:∀b,BF.ownBlock=some b->b<(w2.setCell ⟨pp,0,none⟩ BF).heap.size:=λb hb=>(hw2.lt b hb).2
 have rLt:∀b,J7.ownBlock=some b->b<(w3.setCell ⟨pp,1,none⟩ J7).heap.size:=λb hb=>(hw3.lt b hb).2
 have K:fe (jP pp h s) wp (w4.setCell ⟨pp,2,none⟩ Hr):=by
  refine((fe.trans (F:=jP pp h s) ⟨k1.os,k1.tape,k1.output,k1.size,λk hk hn=>k1.block k hk (λe=>hn (.inr (.inl (by omega))))⟩ (⟨k2.os,k2.tape,k2.output,k2.size,k2.block⟩:fe (λb=>b=pp\/s.lv.ownBlock=some b) w1 _) ?_).trans k3 ?_).trans k4 ?_
  .rintro x _ (rfl|h);exact .inl rfl;exact .inr (.inr (.inl h))
  .rintro x _ (rfl|h);exact .inl rfl;exact .inr (.inr (.inr (.inl h)))
  .rintro x _ (rfl|h);exact .inl rfl;exact .inr (.inr (.inr (.inr h)))
 have aeK:(w4.setCell ⟨pp,2,none⟩ Hr).ownsRow 0 80 1 BF (s.D.length+1) (xl++[L]):=by
  refine bO (bO hw2 k3 ?_) k4 ?_
  .rintro b hb (rfl|hc)
   .exact q2 hb
   .rcases oL b hb with h1|h1
    .exact(hP.Yb b h1).1 hc
    .have:=(hrv b hc).2;omega
  .rintro b hb (rfl|hc)
   .exact q2 hb
   .rcases oL b hb with h1|h1
    .exact(hP.Yb b h1).2 hc
    .have:=(hbv b hc).2;omega
 have aeJ:(w4.setCell ⟨pp,2,none⟩ Hr).ownsRow 0 80 1 J7 (s.D.length+1) (xr++[R]):=by
  refine bO hw3 k4 ?_;rintro b hb (rfl|hc)
  .exact q3 hb
  .rcases oR b hb with h1|h1
   .exact hP.ap4 b h1 hc
   .have:=(hbv b hc).2;omega
 have hmk:∀m,h<=m->m<h+1+1+1+1+1->(w4.setCell ⟨pp,2,none⟩ Hr).heap[m]?=w1.heap[m]?:=λm m1 m2=>by
  have hm:=hmap m2;have LJ:=hP.WZ;have n1:m≠pp:=by omega
  have nn:∀b,s.lv.ownBlock=some b\/s.rv.ownBlock=some b\/s.bv.ownBlock=some b->b≠m:=λb hb=>by have:=(hP.Dr b hb).2;omega
  rw[k4.block m (by omega) (by rintro(e|e);exact n1 e;exact nn m (.inr (.inr e)) rfl),k3.block m (by omega) (by rintro(e|e);exact n1 e;exact nn m (.inr (.inl e)) rfl),k2.block m (by omega) (by rintro(e|e);exact n1 e;exact nn m (.inl e) rfl)]
 have abV:∀m,h<m->m<h+1+1+1+1+1->(w4.setCell ⟨pp,2,none⟩ Hr).heap[m]?=wp.heap[m]?:=λm m1 m2=>by
  rw[hmk m (by omega) m2];exact k1.block m (by have:=hmap m2;omega) (by omega)
 have hnd:(bE l,bE r) ∉ s.D:=λhm=>by
  obtain⟨i,hi,e⟩:=aO.1 hm;have:=hf1 i hi;rw[e,hfn]at this;cases this
 have hgn:bz.Good (s.D++[(bE l,bE r)]):=hg.snoc (λk hk=>hl k (bZ.1 hk)) (λk hk=>hr k (bZ.1 hk)) (jw l) (jw r) hnd;have hvl:∀x,x<s.D.length->vl (s.D++[(bE l,bE r)]) x=vl s.D x:=λx hx=>bz.ib hg.wf hgn.wf x hx
 have hlast:(s.D++[(bE l,bE r)])[s.D.length]?=some (bE l,bE r):=by simp
 have hlen:(s.D++[(bE l,bE r)]).length=s.D.length+1:=by simp
 have hmem:∀x,x∈bE l++bE r->x<s.D.length:=λx hx=>by
  rcases aK.1 hx with h|h
  .exact hl x (bZ.1 h)
  .exact hr x (bZ.1 h)
 have hb0:=l5 hg.wf _ hmem;have hbn:=Ee hg.wf hgn.wf _ hmem;have hlts:∀b,s.S b->b<wp.heap.size/\¬jP pp h s b:=λb hb=>⟨hPp.xM hb,hP.Z5 b hb⟩
 have hKw:∀b,w.heap.size<=b->¬jP pp h s b:=λb hb hc=>by have:=hP.IY hc;omega
 let S':Nat->Prop:=λb=>s.S b\/L.ownBlock=some b\/R.ownBlock=some b
 have hS':∀b,S' b->b<wp.heap.size/\¬jP pp h s b:=by
  rintro b (hb|hb|hb)
  .exact hlts b hb
  .exact⟨(fL b hb).2,hKw b (fL b hb).1⟩
  .exact⟨(fR b hb).2,hKw b (fR b hb).1⟩
 have XE:∀{v:Value} {k:List Nat},Ints wp v (dx k)->(∀b,v.ownBlock=some b->S' b)->oP S' (λW=>Dz W [v] k) wp:=λ{v k} hv hb=>by
  obtain⟨a,c,rfl,-⟩:=id hv;refine⟨λb hb=>(hS' b hb).1,λw2 h2=>⟨a,c,by rw[bu],?_⟩⟩;have:=(hv.sup (λb hb=>(hS' b hb).1) hb).2 w2 h2;rw[bu]at this;exact this
 have YH:Items Dz S' 1 (xl++[L]) (s.D.map (·.1)++[bE l]) wp:=(hil.mono (λb hb=>.inl hb) (λb hb=>(hS' b hb).1)).snoc rfl (XE hL λb hb=>.inr (.inl hb));have YG:Items Dz S' 1 (xr++[R]) (s.D.map (·.2)++[bE r]) wp:=(hir.mono (λb hb=>.inl hb) (λb hb=>(hS' b hb).1)).snoc rfl (XE hR λb hb=>.inr (.inr hb));have SV:∀b,S' b->¬jP pp h s b:=λb hb=>(hS' b hb).2
 have aeU:∀i (hi:i<s.D.length),uk s.D[i]≠uk (bE l,bE r):=λi hi e=>by
  have:=hf1 i hi;rw[e,hfn]at this;cases this
 have Rz:∀b,jP pp h ⟨BF,J7,Hr,s.D++[(bE l,bE r)],S',s.cn⟩ b->jP pp h s b\/wp.heap.size<=b:=by
  rintro b (rfl|hb|hb|hb|hb)
  .exact .inl (.inl rfl)
  .exact .inl (.inr (.inl hb))
  .rcases oL b hb with h1|h1
   .exact .inl (.inr (.inr (.inl h1)))
   .exact .inr h1
  .rcases oR b hb with h1|h1
   .exact .inl (.inr (.inr (.inr (.inl h1))))
   .exact .inr (by omega)
  .rcases oB b hb with h1|h1
   .exact .inl (.inr (.inr (.inr (.inr h1))))
   .exact .inr (by omega)
 have agM:∀b,BF.ownBlock=some b->b≠pp/\(b<h\/h+1+1+1+1+1<=b):=λb hb=>by
  rcases oL b hb with h1|h1
  .exact hP.Dr b (.inl h1)
  .exact⟨λe=>q2 (e ▸ hb),.inr (by have:=hP.ny (m:=h+1+1+1+1) (by omega);omega)⟩
 have agL:∀b,J7.ownBlock=some b->b≠pp/\(b<h\/h+1+1+1+1+1<=b):=λb hb=>by
  rcases oR b hb with h1|h1
  .exact hP.Dr b (.inr (.inl h1))
  .exact⟨λe=>q3 (e ▸ hb),.inr (by have:=hP.ny (m:=h+1+1+1+1) (by omega);omega)⟩
 have agN:∀b,Hr.ownBlock=some b->b≠pp/\(b<h\/h+1+1+1+1+1<=b):=λb hb=>by
  rcases oB b hb with h1|h1
  .exact hP.Dr b (.inr (.inr h1))
  .exact⟨λe=>q4 (e ▸ hb),.inr (by have:=hP.ny (m:=h+1+1+1+1) (by omega);omega)⟩
 obtain⟨n3,f3,o1,o2⟩:=hPp.orders;obtain⟨n4,f4,p1,p2,p3⟩:=hPp.Ac;refine⟨⟨BF,J7,Hr,s.D++[(bE l,bE r)],S',s.cn⟩,s.D.length,rfl,⟨?_,?_,?_,λb hb=>.inl hb,?_,⟨_,rfl⟩,λ_ _ h=>h⟩,⟨hlast,.inr rfl⟩,rfl⟩
 .refine⟨hgn,by rw[hlen];exact hroom,hP.uV.more hg.wf hgn.wf,hb4,⟨xl++[L],?_,?_⟩,⟨xr++[R],?_,?_⟩,?_,⟨upd (λ_ _=>Classical.propDecidable _) f (uk (bE l,bE r)) (.int .i64 ((s.D.length:Nat):Int)),?_,?_,?_⟩,⟨n3,f3,o1.keep (abV _ (by omega) (by omega)),?_⟩,⟨n4,f4,p1.keep (abV _ (by omega) (by omega)),p2,p3⟩,hP.WZ,?_,?_,?_,?_,?_,?_⟩
  .rw[hlen];exact aeK
  .rw[aU];exact YH.keep K SV
  .rw[hlen];exact aeJ
  .rw[aU];exact YG.keep K SV
  .have e:((s.D++[(bE l,bE r)]).mapIdx λi _=>(bz.born (vl (s.D++[(bE l,bE r)]) i):Int))=(s.D.mapIdx λi _=>(bz.born (vl s.D i):Int))++[fJ s.D (bE l++bE r)]:=by
    rw[List.mapIdx_append];congr 1
    .refine ui (by simp) λi h1 h2=>?_
     simp only[List.getElem_mapIdx];rw[hvl i (by simpa using h2)]
    .simp only[List.mapIdx_cons,List.mapIdx_nil,gK]
     rw[qJ hgn.wf hlast (l:=bE l) (r:=bE r) (λ_=>Iff.rfl) (λ_=>Iff.rfl) (by rw[hbn];exact hb0.1),hbn]
   show World.ownsRow _ 0 _ 1 Hr (s.D++[(bE l,bE r)]).length _;rw[e,aU,hlen];exact hw4
  .have:=hM.keep (w':=w4.setCell ⟨pp,2,none⟩ Hr) (hmk h (ai _) (by omega))
   rw[hlen];exact this
  .intro i hi
   have hi':i<s.D.length+1:=(by rw[<-hlen];exact hi);by_cases c:i<s.D.length
   .have e:(s.D++[(bE l,bE r)])[i]'hi=s.D[i]:=dM c
    rw[show(⟨BF,J7,Hr,s.D++[(bE l,bE r)],S',s.cn⟩:iQ).D[i]'hi=s.D[i] from e,upd_ne (aeU i c)];exact hf1 i c
   .have c':i=s.D.length:=by omega
    subst c';have e:(s.D++[(bE l,bE r)])[s.D.length]'hi=(bE l,bE r):=(by simp);rw[show(⟨BF,J7,Hr,s.D++[(bE l,bE r)],S',s.cn⟩:iQ).D[s.D.length]'hi=(bE l,bE r) from e];exact upd_same _ _ _
  .intro k v hk
   rcases vw hk with⟨rfl,rfl⟩|hk
   .refine⟨s.D.length,by rw[hlen];omega,?_,rfl⟩
    have e:(s.D++[(bE l,bE r)])[s.D.length]'(by rw[hlen];omega)=(bE l,bE r):=(by simp);exact congrArg uk e.symm
   .obtain⟨i,hi,e1,e2⟩:=hf2 k v hk
    exact⟨i,by rw[hlen];omega,by rw[e1];exact congrArg uk (dM hi).symm,e2⟩
  .intro k v hk
   obtain⟨a,b,g,e1,e2,h1,h2,h3⟩:=o2 k v hk;refine⟨a,b,g,e1,e2,by rw[hlen];omega,by rw[hlen];omega,?_⟩;rw[show vl (⟨BF,J7,Hr,s.D++[(bE l,bE r)],S',s.cn⟩:iQ).D a=vl s.D a from hvl a h1,show vl (⟨BF,J7,Hr,s.D++[(bE l,bE r)],S',s.cn⟩:iQ).D b=vl s.D b from hvl b h2];exact h3
  .rintro b (hb|hb|hb)
   .exact agM b hb
   .exact agL b hb
   .exact agN b hb
  .intro b hb
   have hz:=lLt b hb;refine⟨λhc=>?_,λhc=>?_⟩
   .rcases oR b hc with h1|h1
    .rcases oL b hb with h2|h2
     .exact(hP.Yb b h2).1 h1
     .have:=(hrv b h1).2;omega
    .omega
   .rcases oB b hc with h1|h1
    .rcases oL b hb with h2|h2
     .exact(hP.Yb b h2).2 h1
     .have:=(hbv b h1).2;omega
    .omega
  .intro b hb hc
   have hz:=rLt b hb;rcases oB b hc with h1|h1
   .rcases oR b hb with h2|h2
    .exact hP.ap4 b h2 h1
    .have:=(hbv b h1).2;omega
   .omega
  .intro b hb hc
   rcases Rz b hc with h1|h1
   .exact(hS' b hb).2 h1
   .have:=(hS' b hb).1;omega
  .have Gf:=hP.ny (m:=h+1+1+1+1) (by omega)
   rintro b (hb|hb|hb)
   .exact hP.ap6 b hb
   .have:=(fL b hb).1;omega
   .have:=(fR b hb).1;omega
  .intro m hm
   have:=hP.ny hm;omega
 .exact(fV hE).trans K (λ_ _ h=>h)
 .intro b hb
  rcases Rz b hb with h1|h1
  .exact .inl h1
  .exact .inr (by omega)
 .rintro b (hb|hb|hb)
  .exact .inl hb
  .exact .inr (fL b hb).1
  .exact .inr (fR b hb).1
end
section
open Go.RowKit
open bz (dC Nd vl Same Ge)
variable {w w':World} {pp h:Nat} {s:iQ}
theorem dm.maps(k:dm w pp h s){G:Nat->Prop}(hk:fe G w w')(hG:∀b,G b->h<=b/\b<h+1+1+1){Bo:Nat->Option Nat}(hc:Ap s.D Bo)
 (find:∃f,gu prog 9 w' h s.D.length f/\(∀i (hi:i<s.D.length),f (uk s.D[i])=some (.int .i64 (i:Int)))/\∀k v,f k=some v->∃i,∃hi:i<s.D.length,k=uk s.D[i]/\v=.int .i64 (i:Int))
 (orders:∃n f,gu prog 183 w' (h+1) n f/\∀k v,f k=some v->∃(a b:Nat) (g:Bool),k=.agg #[.int .i64 (a:Int),.int .i64 (b:Int)]/\v=.bool g/\a<s.D.length/\b<s.D.length/\(g=true↔bz.Ge (vl s.D a) (vl s.D b)))
 (Ac:∃n f,gu prog 3 w' (h+1+1) n f/\(∀i:Nat,f (.int .i64 (i:Int))=(Bo i).map λj=>.int .i64 (j:Int))/\∀k v,f k=some v->∃i:Nat,k=.int .i64 (i:Int)):
 dm w' pp h ⟨s.lv,s.rv,s.bv,s.D,s.S,Bo⟩/\fe (jP pp h s) w w':=by
 obtain⟨x1,a1,b1⟩:=k.left;obtain⟨x2,a2,b2⟩:=k.right;have hF:∀b,s.lv.ownBlock=some b\/s.rv.ownBlock=some b\/s.bv.ownBlock=some b->¬G b:=λb hb hg=>by have:=(k.Dr b hb).2;have:=hG b hg;omega
 have hS:∀b,s.S b->¬G b:=λb hb hg=>k.Z5 b hb (.inr (.inl (hG b hg)))
 exact⟨⟨k.good,k.small,hc,(hk.block _ (bG k.box) (λhg=>by have:=k.WZ;have:=hG pp hg;omega)).trans k.box,⟨x1,bO a1 hk (λb hb=>hF b (.inl hb)),b1.keep hk hS⟩,⟨x2,bO a2 hk (λb hb=>hF b (.inr (.inl hb))),b2.keep hk hS⟩,bO k.born hk (λb hb=>hF b (.inr (.inr hb))),
  find,orders,Ac,k.WZ,k.Dr,k.Yb,k.ap4,k.Z5,k.ap6,λhm=>aQ (k.ny hm) hk.size⟩,⟨hk.os,hk.tape,hk.output,hk.size,λb hb hn=>hk.block b hb (λhg=>hn (.inr (.inl (hG b hg))))⟩⟩
theorem dm.JG(k:dm w pp h s)(hb:w'.heap[h]?=w.heap[h]?):∃f,gu prog 9 w' h s.D.length f/\(∀i (hi:i<s.D.length),f (uk s.D[i])=some (.int .i64 (i:Int)))/\∀k v,f k=some v->∃i,∃hi:i<s.D.length,k=uk s.D[i]/\v=.int .i64 (i:Int):=by
 obtain⟨f,h1,h2⟩:=k.find;exact⟨f,h1.keep hb,h2⟩
theorem dm.KX(k:dm w pp h s)(hb:w'.heap[h+1]?=w.heap[h+1]?):∃n f,gu prog 183 w' (h+1) n f/\∀k v,f k=some v->∃(a b:Nat) (g:Bool),k=.agg #[.int .i64 (a:Int),.int .i64 (b:Int)]/\v=.bool g/\a<s.D.length/\b<s.D.length/\(g=true↔bz.Ge (vl s.D a) (vl s.D b)):=by
 obtain⟨n,f,h1,h2⟩:=k.orders;exact⟨n,f,h1.keep hb,h2⟩
theorem dm.Mr(k:dm w pp h s)(hb:w'.heap[h+1+1]?=w.heap[h+1+1]?):∃n f,gu prog 3 w' (h+1+1) n f/\(∀i:Nat,f (.int .i64 (i:Int))=(s.cn i).map λj=>.int .i64 (j:Int))/\∀k v,f k=some v->∃i:Nat,k=.int .i64 (i:Int):=by
 obtain⟨n,f,h1,h2⟩:=k.Ac;exact⟨n,f,h1.keep hb,h2⟩
theorem dm.sP(k:dm w pp h s):∃f,gu prog 183 w (h+1) 810000000000 f/\∀k v,f k=some v->∃(a b:Nat) (g:Bool),k=.agg #[.int .i64 (a:Int),.int .i64 (b:Int)]/\v=.bool g/\a<s.D.length/\b<s.D.length/\(g=true↔bz.Ge (vl s.D a) (vl s.D b)):=by
 obtain⟨n,f,h1,h2⟩:=k.orders;refine⟨f,(h1.room ((List.range s.D.length).flatMap λ(a:Nat)=>(List.range s.D.length).map λ(b:Nat)=>.agg #[.int .i64 (a:Int),.int .i64 (b:Int)]) λkey v hv=>?_).mono ?_,h2⟩
 .obtain⟨a,b,g,e,_,ha,hb,_⟩:=h2 key v hv
  exact lH.2 ⟨a,dA.2 ha,aI.2 ⟨b,dA.2 hb,e.symm⟩⟩
 .have e:∀l:List Nat,(l.flatMap λ(a:Nat)=>(List.range s.D.length).map λ(b:Nat)=>Value.agg #[.int .i64 (a:Int),.int .i64 (b:Int)]).length=l.length*s.D.length:=by
   intro l
   induction l with
   |nil=>simp
   |cons x l ih=>rw[gV,aj,ih,aJ,og,dO,nZ];omega
  rw[e,og];exact jR k.small k.small
theorem dm.FX{n:Nat}{f:Value->Option Value}{a b:Nat}{g:Bool}(k:dm w pp h s)(hf:∀k v,f k=some v->∃(a b:Nat) (g:Bool),k=.agg #[.int .i64 (a:Int),.int .i64 (b:Int)]/\v=.bool g/\a<s.D.length/\b<s.D.length/\(g=true↔bz.Ge (vl s.D a) (vl s.D b)))
 (hM:gu prog 183 w' (h+1) n (upd (λ_ _=>Classical.propDecidable _) f (.agg #[.int .i64 (a:Int),.int .i64 (b:Int)]) (.bool g))) (hg:w.grownBy w' (some (h+1))) (ha:a<s.D.length) (hb:b<s.D.length) (hge:g=true↔bz.Ge (vl s.D a) (vl s.D b)):jK pp h s w s w':=by
 have kk:=gJ hg;obtain⟨h1,h2⟩:=k.maps kk (λb hb=>by omega) k.uV (k.JG (kk.block _ (k.ny (by omega)) (by omega))) ⟨n,_,hM,λkey v hv=>by
  rcases vw hv with⟨rfl,rfl⟩|hv
  .exact⟨a,b,g,rfl,rfl,ha,hb,hge⟩
  .exact hf key v hv⟩ (k.Mr (kk.block _ (k.ny (by omega)) (by omega)))
 exact⟨h1,h2,λ_ h=>.inl h,λ_ h=>h,λ_ h=>.inl h,⟨[],by simp⟩,λ_ _ h=>h⟩
def U2(pp h:Nat)(s:iQ)(a b:Nat)(w:World)(e:Ending)(w':World):Prop:=∃g:Bool,e=.returned (.bool g)/\(g=true↔Ge (vl s.D a) (vl s.D b))/\jK pp h s w s w'
def UK(m:Nat):Prop:=∀(pp h:Nat) (s:iQ) (a b:Nat) (w:World),dm w pp h s->a<s.D.length->b<s.D.length->a+b<m->Calls prog 217 #[.pointer (some ⟨pp,0,none⟩),.int .i64 (a:Int),.int .i64 (b:Int)] w (U2 pp h s a b w)
theorem Xw(w:World):(zeroValue 4).run prog w=.ok (.bool false) w:=by kernel_rfl
def EC:List Row:=[⟨0,[],23,[0]⟩,⟨1,[0],24,[22]⟩,⟨2,[1],25,[23]⟩,⟨3,[2],26,[24]⟩,⟨4,[],27,[7]⟩,⟨5,[3,4],28,[25,26]⟩,⟨6,[5],22,[27]⟩,⟨7,[6],29,[21]⟩,⟨8,[6],30,[21]⟩,⟨9,[7,0,1,2,3,4,5,6,7],9,[28]⟩,⟨10,[8,9,0,1,2,3,4,5,6,7,8,9],10,[29]⟩]
def zF:List Row:=[⟨0,[],68,[0]⟩,⟨1,[0],69,[67]⟩,⟨2,[1],70,[68]⟩,⟨3,[2],71,[69]⟩,⟨4,[],72,[7]⟩,⟨5,[],73,[10]⟩,⟨6,[3,4,5,0,1,2,3,4,5],0,[70,71,72]⟩]
set_option maxHeartbeats 4000000 in
theorem WK{m:Nat}(ih:UK m):UK (m+1):=by
 intro pp h s a b w hP ha hb hm;have hds:=hP.small;go_enter Tryz.func217,Tryz.ntmps217
 by_cases hab:a=b
 .subst hab
  go_wp2_with fail
  go_ret
  exact⟨true,rfl,by simp[bz.nk],jK.refl hP (Below.refl _ _)⟩
 have hne:((a:Int)== (b:Int))=false:=by simp;omega
 have GV:=aH hab;clear hab;have hx1:Ext w (w.alloc (.cells #[.int .i64 (a:Int),.int .i64 (b:Int)] 183)):=by go_grown
 have hkb:(w.alloc (.cells #[.int .i64 (a:Int),.int .i64 (b:Int)] 183)).heap[w.heap.size]?=_:=heap_alloc_new w _;go_upto_region 4 with fail
 have hP1:=hP.ext hx1;generalize w.alloc (.cells #[.int .i64 (a:Int),.int .i64 (b:Int)] 183)=W1 at *;obtain⟨f,hM,hf⟩:=hP1.sP;obtain⟨kl,hkl⟩:=Lu a b (by omega) (by omega);have hlk:=λ(W:World) (hW:W.heap[h+1]?=W1.heap[h+1]?)=>(hM.keep hW).look zU underlying134 (Xw W) hkl true
 have Qn:=cell_of_row W1 w.heap.size 0 _ _ _ hkb;have ck1:=cell_of_row W1 w.heap.size 1 _ _ _ hkb;have XX:dm W1.drew pp h s:=hP1.ext (bS ⟨1,rfl⟩);have uP:jK pp h s w s W1.drew:=jK.refl hP (ay hx1 (bS ⟨1,rfl⟩));have hnb:w.heap.size<W1.drew.heap.size:=bG hkb;have Ka:¬jP pp h s w.heap.size:=λhc=>by have:=hP.IY hc;omega
 have c4:=hP1.c4;have hagg:Value.agg #[.int .i64 (a:Int),.int .i64 (b:Int)]=Value.agg #[.int .i64 (a:Int),.int .i64 (b:Int)]:=rfl;clear hagg hP1;cases LZ:f (.agg #[.int .i64 (a:Int),.int .i64 (b:Int)])with
 |some v=>
  obtain⟨a',b',g,e1,rfl,-,-,hg⟩:=hf _ _ LZ;simp only[Value.agg.injEq,Array.mk.injEq,jU,Value.int.injEq,true_and,and_true]at e1;obtain⟨e1,e2⟩:=e1;obtain rfl:a=a':=by omega
  obtain rfl:b=b':=by omega
  simp only[LZ,gz,Option.isSome_some,if_true]at hlk;refine bW (λW=>W.cell? ⟨pp,4,none⟩=some (.map (some (h+1)))/\W.cell? ⟨w.heap.size,0,none⟩=some (.int .i64 (a:Int))/\W.cell? ⟨w.heap.size,1,none⟩=some (.int .i64 (b:Int))/\(Instr.lookup 134 (.map (some (h+1))) (.agg #[.int .i64 (a:Int),.int .i64 (b:Int)]) true).run prog W=.ok (.tuple #[.bool g,.bool true]) W) [10] EC (by kernel_rfl) ⟨by kernel_rfl,by kernel_rfl,by kernel_rfl⟩ ⟨c4,Qn,ck1,hlk _ rfl⟩ (λax ae=>?_);(refine bT 0 ax ae ?_;refine bT 1 ax ae ?_;refine bT 2 ax ae ?_;refine bT 3 ax ae ?_;refine bT 4 ax ae ?_;refine bT 5 ax ae ?_;refine bT 6 ax ae ?_;refine bT 7 ax ae ?_;refine bT 8 ax ae ?_;refine bT 9 ax ae ?_);refine ow ax [10] [_] ?_;clear ax ae;go_wp2_with fail
  go_ret
  exact⟨g,rfl,hg,uP⟩
 |none=>
  simp only[LZ,Option.getD_none,Option.isSome_none,if_true]at hlk;refine bW (λW=>W.cell? ⟨pp,4,none⟩=some (.map (some (h+1)))/\W.cell? ⟨w.heap.size,0,none⟩=some (.int .i64 (a:Int))/\W.cell? ⟨w.heap.size,1,none⟩=some (.int .i64 (b:Int))/\(Instr.lookup 134 (.map (some (h+1))) (.agg #[.int .i64 (a:Int),.int .i64 (b:Int)]) true).run prog W=.ok (.tuple #[.bool false,.bool false]) W) [10] EC (by kernel_rfl) ⟨by kernel_rfl,by kernel_rfl,by kernel_rfl⟩ ⟨c4,Qn,ck1,hlk _ rfl⟩ (λax ae=>?_);(refine bT 0 ax ae ?_;refine bT 1 ax ae ?_;refine bT 2 ax ae ?_;refine bT 3 ax ae ?_;refine bT 4 ax ae ?_;refine bT 5 ax ae ?_;refine bT 6 ax ae ?_;refine bT 7 ax ae ?_;refine bT 8 ax ae ?_;refine bT 9 ax ae ?_);refine ow ax [10] [_] ?_;clear ax ae hlk hf LZ hM f c4;have ZZ:W1.drew.cell? ⟨w.heap.size,0,none⟩=some (.int .i64 (a:Int)):=Qn;have ZY:W1.drew.cell? ⟨w.heap.size,1,none⟩=some (.int .i64 (b:Int)):=ck1;clear Qn ck1 hkb hx1;generalize W1.drew=W0 at *;obtain⟨gr,Uo,aR,cR,wQ,Zc,pQ,JS,hSR⟩:=XX.pM ha;obtain⟨gl,Ur,aL,cL,ze,Zf,Ze,JU,sw⟩:=XX.qR hb;have haw:=XX.good.wf a _ (aa ha);have hbw:=XX.good.wf b _ (aa hb);have HW:=aH XX.good.wf;go_wp2
  go_loopw [10,12,40] (λis _ ii wr=>∃k:Nat,k<=(s.D[a]).2.length/\ii=.int .i64 ((k:Nat):Int)/\is=.bool true/\jK pp h s W0 s wr/\Hid (∀j (h:j<(s.D[a]).2.length),j<k->¬Ge (vl s.D b) (vl s.D (s.D[a]).2[j]))) (λ_ _ ii _=>(s.D[a]).2.length-(intOf ii).toNat)
  case atStart=>exact⟨0,az _,rfl,rfl,jK.refl XX (Below.refl _ _),λj _ h=>absurd h (by omega)⟩
  case round=>
   obtain⟨k,hk,rfl,rfl,hgo,HN⟩:=hrel;by_cases hlt:k<(s.D[a]).2.length
   .have h1:((k:Nat):Int)<(((s.D[a]).2.length:Nat):Int):=by omega
    have hI:=(oP.go hSR (Off.lists XX) hgo).out;obtain⟨aR',cR',e,-,hln,hcl⟩:=hI;rw[bu]at hln;simp only[Value.slice.injEq,bu,true_and]at e;obtain⟨rfl,rfl⟩:=e;obtain⟨bR,oR,rfl,hcell⟩:=hcl (by rw[bu];omega);have hck:=hcell k (by rw[bu];exact hlt);rw[fT hlt]at hck;have J9:=haw.2 _ (ah hlt);have IH:=aH (ih pp h s b (s.D[a]).2[k] wr hgo.pool hb (by omega) (by omega));have HSR:=aH hSR;have HSL:=aH sw;clear hcl hcell hSR sw ih;by_cases hge:Ge (vl s.D b) (vl s.D (s.D[a]).2[k])
    .have DF:=aH hge
     go_upto_region 21 with(go_at_call 217;refine IH.out.mono ?_;rintro e wX ⟨g,rfl,hg,gX⟩
                            obtain rfl:g=true:=hg.2 DF.out;have Da:=hgo.trans gX;have Jz:=aH (show(false=true↔Ge (vl s.D a) (vl s.D b)) by simpa using yJ HW.out ha hlt DF.out);clear hg)
     have NL:=Da.pool;have hkX:=Da.keep.block _ hnb Ka;have Um:wX.cell? ⟨w.heap.size,0,none⟩=some (.int .i64 (a:Int)):=(World.cell?_of_block hkX).trans ZZ;have Ul:wX.cell? ⟨w.heap.size,1,none⟩=some (.int .i64 (b:Int)):=(World.cell?_of_block hkX).trans ZY;obtain⟨fX,hMX,hfX⟩:=NL.sP;have c4X:=NL.c4;refine bW (λW=>W.cell? ⟨pp,4,none⟩=some (.map (some (h+1)))/\W.cell? ⟨w.heap.size,0,none⟩=some (.int .i64 (a:Int))/\W.cell? ⟨w.heap.size,1,none⟩=some (.int .i64 (b:Int))) [6] zF (by kernel_rfl) ⟨by kernel_rfl,by kernel_rfl,by kernel_rfl⟩ ⟨c4X,Um,Ul⟩ (λax ae=>?_);(refine bT 0 ax ae ?_;refine bT 1 ax ae ?_;refine bT 2 ax ae ?_;refine bT 3 ax ae ?_;refine bT 4 ax ae ?_;refine bT 5 ax ae ?_);refine ow ax [6] [_] ?_;clear ax ae;go_wp2_with (at_mapUpdate;refine iT rfl _ _ _ 134 rfl 183 4 zU underlying134 (h+1) 810000000000 fX rfl (hMX.keep rfl) (by unfold maxLen;omega) (.agg #[.int .i64 (a:Int),.int .i64 (b:Int)]) _ rfl rfl ⟨kl,hkl⟩ ?_;intro wZ hMZ hgZ)
     go_ret
     exact⟨_,rfl,by simpa using Jz.out,uP.trans (Da.trans ((jK.refl NL (bS ⟨1,rfl⟩)).trans (dm.FX (NL.ext (bS ⟨1,rfl⟩)) hfX hMZ hgZ ha hb (by simpa using Jz.out))))⟩
    .have DF:=aH hge
     go_wp2_with (go_at_call 217;refine IH.out.mono ?_;rintro e wX ⟨g,rfl,hg,gX⟩
                  obtain rfl:g=false:=(by simpa using(λe=>DF.out (hg.1 e)));clear hg)
     go_roundw
     case rel=>exact⟨k+1,by omega,by go_num,rfl,hgo.trans gX,zP hlt HN DF.out⟩
     case measure=>simp[intOf];omega
   .have h1:¬(((k:Nat):Int)<(((s.D[a]).2.length:Nat):Int)):=by omega
    have hkl:k=(s.D[a]).2.length:=(by omega);subst hkl;have hkn:=hgo.keep;obtain⟨wo,rfl⟩:∃wo:World,wo=wr:=⟨_,rfl⟩;have cpl:=hgo.pool.qR hb;obtain⟨gl',aj2,aL',cL',ajX,ai0,aiZ,anm,Wv⟩:=cpl;have HSL:=aH sw;clear sw hSR JS JU ze wQ;go_wp2
    go_loopw [10,14,58] (λis _ ii wr=>∃k:Nat,k<=(s.D[b]).1.length/\ii=.int .i64 ((k:Nat):Int)/\is=.bool true/\jK pp h s W0 s wr/\jK pp h s wo s wr/\Hid (∀j (h:j<(s.D[b]).1.length),j<k->¬Ge (vl s.D (s.D[b]).1[j]) (vl s.D a))) (λ_ _ ii _=>(s.D[b]).1.length-(intOf ii).toNat)
    case atStart=>exact⟨0,az _,rfl,rfl,hgo,jK.refl hgo.pool (Below.refl _ _),λj _ h=>absurd h (by omega)⟩
    case round=>
     clear hkn;have hPo:=hgo.pool;clear hgo;obtain⟨k,hk,rfl,rfl,hgo,acd,BQ⟩:=hrel;by_cases hlt:k<(s.D[b]).1.length
     .have h1:((k:Nat):Int)<(((s.D[b]).1.length:Nat):Int):=by omega
      have hI:=(oP.go Wv (Off.lists hPo) acd).out;obtain⟨Ko,Kn,e,-,hln,hcl⟩:=hI;rw[bu]at hln;simp only[Value.slice.injEq,bu,true_and]at e;obtain⟨rfl,rfl⟩:=e;obtain⟨bR,oR,rfl,hcell⟩:=hcl (by rw[bu];omega);have hck:=hcell k (by rw[bu];exact hlt);rw[fT hlt]at hck;have J9:=hbw.1 _ (ah hlt);have IH:=aH (ih pp h s (s.D[b]).1[k] a wr hgo.pool (by omega) ha (by omega));have an2:=aH Wv;clear hcl hcell Wv ih;by_cases hge:Ge (vl s.D (s.D[b]).1[k]) (vl s.D a)
      .have DF:=aH hge
       go_upto_region 21 with(go_at_call 217;refine IH.out.mono ?_;rintro e wX ⟨g,rfl,hg,gX⟩
                              obtain rfl:g=true:=hg.2 DF.out;have Da:=hgo.trans gX;have Jz:=aH (show(false=true↔Ge (vl s.D a) (vl s.D b)) by simpa using yK HW.out hb hlt DF.out);clear hg)
       have NL:=Da.pool;have hkX:=Da.keep.block _ hnb Ka;have Um:wX.cell? ⟨w.heap.size,0,none⟩=some (.int .i64 (a:Int)):=(World.cell?_of_block hkX).trans ZZ;have Ul:wX.cell? ⟨w.heap.size,1,none⟩=some (.int .i64 (b:Int)):=(World.cell?_of_block hkX).trans ZY;obtain⟨fX,hMX,hfX⟩:=NL.sP;have c4X:=NL.c4;refine bW (λW=>W.cell? ⟨pp,4,none⟩=some (.map (some (h+1)))/\W.cell? ⟨w.heap.size,0,none⟩=some (.int .i64 (a:Int))/\W.cell? ⟨w.heap.size,1,none⟩=some (.int .i64 (b:Int))) [6] zF (by kernel_rfl) ⟨by kernel_rfl,by kernel_rfl,by kernel_rfl⟩ ⟨c4X,Um,Ul⟩ (λax ae=>?_);(refine bT 0 ax ae ?_;refine bT 1 ax ae ?_;refine bT 2 ax ae ?_;refine bT 3 ax ae ?_;refine bT 4 ax ae ?_;refine bT 5 ax ae ?_);refine ow ax [6] [_] ?_;clear ax ae;go_wp2_with (at_mapUpdate;refine iT rfl _ _ _ 134 rfl 183 4 zU underlying134 (h+1) 810000000000 fX rfl (hMX.keep rfl) (by unfold maxLen;omega) (.agg #[.int .i64 (a:Int),.int .i64 (b:Int)]) _ rfl rfl ⟨kl,hkl⟩ ?_;intro wZ hMZ hgZ)
       go_ret
       exact⟨_,rfl,by simpa using Jz.out,uP.trans (Da.trans ((jK.refl NL (bS ⟨1,rfl⟩)).trans (dm.FX (NL.ext (bS ⟨1,rfl⟩)) hfX hMZ hgZ ha hb (by simpa using Jz.out))))⟩
      .have DF:=aH hge
       go_wp2_with (go_at_call 217;refine IH.out.mono ?_;rintro e wX ⟨g,rfl,hg,gX⟩
                    obtain rfl:g=false:=(by simpa using(λe=>DF.out (hg.1 e)));clear hg)
       go_roundw
       case rel=>exact⟨k+1,by omega,by go_num,rfl,hgo.trans gX,acd.trans gX,xL hlt BQ DF.out⟩
       case measure=>simp[intOf];omega
     .have h1:¬(((k:Nat):Int)<(((s.D[b]).1.length:Nat):Int)):=by omega
      have Jz:=aH (show(true=true↔Ge (vl s.D a) (vl s.D b)) by simpa using ES HW.out ha hb (λj h=>HN.out j h h) (λj h=>BQ.out j h (by omega)));obtain⟨wX,rfl⟩:∃wX:World,wX=wr:=⟨_,rfl⟩;have Da:=hgo;clear Wv ih;go_upto_region 21 with fail
      have NL:=Da.pool;have hkX:=Da.keep.block _ hnb Ka;have Um:wX.cell? ⟨w.heap.size,0,none⟩=some (.int .i64 (a:Int)):=(World.cell?_of_block hkX).trans ZZ;have Ul:wX.cell? ⟨w.heap.size,1,none⟩=some (.int .i64 (b:Int)):=(World.cell?_of_block hkX).trans ZY;obtain⟨fX,hMX,hfX⟩:=NL.sP;have c4X:=NL.c4;refine bW (λW=>W.cell? ⟨pp,4,none⟩=some (.map (some (h+1)))/\W.cell? ⟨w.heap.size,0,none⟩=some (.int .i64 (a:Int))/\W.cell? ⟨w.heap.size,1,none⟩=some (.int .i64 (b:Int))) [6] zF (by kernel_rfl) ⟨by kernel_rfl,by kernel_rfl,by kernel_rfl⟩ ⟨c4X,Um,Ul⟩ (λax ae=>?_);(refine bT 0 ax ae ?_;refine bT 1 ax ae ?_;refine bT 2 ax ae ?_;refine bT 3 ax ae ?_;refine bT 4 ax ae ?_;refine bT 5 ax ae ?_);refine ow ax [6] [_] ?_;clear ax ae;go_wp2_with (at_mapUpdate;refine iT rfl _ _ _ 134 rfl 183 4 zU underlying134 (h+1) 810000000000 fX rfl (hMX.keep rfl) (by unfold maxLen;omega) (.agg #[.int .i64 (a:Int),.int .i64 (b:Int)]) _ rfl rfl ⟨kl,hkl⟩ ?_;intro wZ hMZ hgZ)
      go_ret
      exact⟨_,rfl,by simpa using Jz.out,uP.trans (Da.trans ((jK.refl NL (bS ⟨1,rfl⟩)).trans (dm.FX (NL.ext (bS ⟨1,rfl⟩)) hfX hMZ hgZ ha hb (by simpa using Jz.out))))⟩
theorem abb:∀m,UK m:=by
 intro m
 induction m with
 |zero=>intro pp h s a b w _ _ _ h;omega
 |succ m ih=>exact WK ih
theorem Bz(pp h:Nat)(s:iQ)(a b:Nat)(w:World)(hP:dm w pp h s)(ha:a<s.D.length)(hb:b<s.D.length):Calls prog 217 #[.pointer (some ⟨pp,0,none⟩),.int .i64 (a:Int),.int .i64 (b:Int)] w (U2 pp h s a b w):=
 abb (a+b+1) pp h s a b w hP ha hb (by omega)
end
end Go.Proofs.YteknjeohbcgpdaaGreatDoor