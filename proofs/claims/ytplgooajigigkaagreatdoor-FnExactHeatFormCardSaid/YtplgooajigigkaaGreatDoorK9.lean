/- 9 -/
import Derived.Test.YtplgooajigigkaaGreatDoorK8
set_option maxRecDepth 100000
set_option maxHeartbeats 4000000
namespace Go.Proofs.YtplgooajigigkaaGreatDoor
open Tryz
section
open bE
variable {D:dh} {i x root:Nat} {g:Gm} {l:List Nat}
def yG(D:dh)(left:Bool)(B F:List Nat):Prop:=(∀x,x∈F->x∈B/\∀z,z∈B->nU D left z x->z=x)/\(∀x,x∈B->∃z,z∈F/\nU D left z x)
theorem Bh(hD:WF D)(h:x∈opt D true i):vl D x∈(vl D i).l:=by
 unfold opt at h;cases e:D[i]? with
 |none=>rw[e]at h;simp at h
 |some nd=>rw[e]at h;rw[lI hD e];exact az.2 ⟨x,by simpa using h,rfl⟩
theorem Bf(hD:WF D)(h:x∈opt D false i):vl D x∈(vl D i).r:=by
 unfold opt at h;cases e:D[i]? with
 |none=>rw[e]at h;simp at h
 |some nd=>rw[e]at h;rw[lH hD e];exact az.2 ⟨x,by simpa using h,rfl⟩
theorem QQ(hD:WF D)(h:g∈(vl D i).l):∃x,x∈opt D true i/\g=vl D x:=by
 cases e:D[i]? with
 |none=>rw[DR e]at h;simp[Gm.l]at h
 |some nd=>
  rw[lI hD e]at h;obtain⟨x,hx,rfl⟩:=az.1 h;exact⟨x,by simp[opt,e,hx],rfl⟩
theorem Qz(hD:WF D)(h:g∈(vl D i).r):∃x,x∈opt D false i/\g=vl D x:=by
 cases e:D[i]? with
 |none=>rw[DR e]at h;simp[Gm.r]at h
 |some nd=>
  rw[lH hD e]at h;obtain⟨x,hx,rfl⟩:=az.1 h;exact⟨x,by simp[opt,e,hx],rfl⟩
theorem om(hD:WF D){left:Bool}{line B:List Nat}(h:jd D root left l line B i)(hc:∀x,x∈l->Canon (vl D x)):∀x,x∈line->Canon (vl D x):=by
 refine h.xn (λx=>Canon (vl D x)) (λi side x hi hx=>?_) hc;cases side
 .exact hi.r (Bf hD hx)
 .exact hi.l (Bh hD hx)
theorem VV(hD:WF D){r x8 BL xZ BR FL FR:List Nat}(hroot:D[root]?=some (l,r))(cl:∀x,x∈l->Canon (vl D x))(cr:∀x,x∈r->Canon (vl D x))
 (iL:jd D root true l x8 BL x8.length) (iR:jd D root false r xZ BR xZ.length) (mL:yG D true BL FL) (mR:yG D false BR FR):
 jc (.mk (FL.map (vl D)) (FR.map (vl D))) (vl D root)/\Canon (.mk (FL.map (vl D)) (FR.map (vl D))):=by
 have hl:(vl D root).l=l.map (vl D):=lI hD hroot;have hr:(vl D root).r=r.map (vl D):=lH hD hroot;have sR:∀x,x∈FR->¬Ge (vl D root) (vl D x):=by
  intro x hx;rcases iR.sound x (iR.kept x (mR.1 x hx).1).1 with h|⟨k,_,hk,h⟩
  .exact lJ (by rw[hr];exact az.2 ⟨x,h,rfl⟩)
  .exact Qs (by simpa [nU]using hk) (Bf hD h)
 have sL:∀x,x∈FL->¬Ge (vl D x) (vl D root):=by
  intro x hx;rcases iL.sound x (iL.kept x (mL.1 x hx).1).1 with h|⟨k,_,hk,h⟩
  .exact kV (by rw[hl];exact az.2 ⟨x,h,rfl⟩)
  .exact Qt (by simpa [nU]using hk) (Bh hD h)
 have g1:Ge (.mk (FL.map (vl D)) (FR.map (vl D))) (vl D root):=by
  refine Ib (λg=>∃x,x∈x8/\g=vl D x) ?_ ?_ ?_
  .intro g hg
   rw[hl]at hg;obtain⟨x,hx,rfl⟩:=az.1 hg;exact⟨_,⟨x,iL.sub x hx,rfl⟩,pz _⟩
  .rintro _ ⟨x,hx,rfl⟩
   obtain⟨j,hj,rfl⟩:=aQ.1 hx;rcases iL.done j hj hj with h|⟨y,hy,hg,hz⟩
   .obtain⟨z,hz,hg⟩:=mL.2 _ h
    exact .inl ⟨vl D z,az.2 ⟨z,hz,rfl⟩,by simpa [nU]using hg⟩
   .refine .inr ⟨vl D y,Bf hD (by simpa using hy),by simpa [nU]using hg,λg hg'=>?_⟩
    obtain⟨z,hz',rfl⟩:=QQ hD hg';exact⟨z,hz z hz',rfl⟩
  .intro g hg
   obtain⟨x,hx,rfl⟩:=az.1 hg;exact sR x hx
 have g2:Ge (vl D root) (.mk (FL.map (vl D)) (FR.map (vl D))):=by
  refine Ia (λg=>∃x,x∈xZ/\g=vl D x) ?_ ?_ ?_
  .intro g hg
   rw[hr]at hg;obtain⟨x,hx,rfl⟩:=az.1 hg;exact⟨_,⟨x,iR.sub x hx,rfl⟩,pz _⟩
  .rintro _ ⟨x,hx,rfl⟩
   obtain⟨j,hj,rfl⟩:=aQ.1 hx;rcases iR.done j hj hj with h|⟨y,hy,hg,hz⟩
   .obtain⟨z,hz,hg⟩:=mR.2 _ h
    exact .inl ⟨vl D z,az.2 ⟨z,hz,rfl⟩,by simpa [nU]using hg⟩
   .refine .inr ⟨vl D y,Bh hD (by simpa using hy),by simpa [nU]using hg,λg hg'=>?_⟩
    obtain⟨z,hz',rfl⟩:=Qz hD hg';exact⟨z,hz z hz',rfl⟩
  .intro g hg
   obtain⟨x,hx,rfl⟩:=az.1 hg;exact sL x hx
 refine⟨⟨g1,g2⟩,Canon.mk _ ⟨?_,?_,?_,?_⟩ ?_ ?_⟩
 .intro x y hx hy h
  obtain⟨a,ha,rfl⟩:=az.1 hx;obtain⟨b,hb,rfl⟩:=az.1 hy;rw[(mL.1 b hb).2 a (mL.1 a ha).1 (by simpa [nU]using h)];exact gT _
 .intro x y hx hy h
  obtain⟨a,ha,rfl⟩:=az.1 hx;obtain⟨b,hb,rfl⟩:=az.1 hy;rw[(mR.1 a ha).2 b (mR.1 b hb).1 (by simpa [nU]using h)];exact gT _
 .intro x hx y hy h
  obtain⟨a,ha,rfl⟩:=az.1 hx;obtain⟨c,hc,rfl⟩:=Qz hD hy;have:=(iL.kept a (mL.1 a ha).1).2 c (by simpa using hc);simp[nU]at this;exact this (bH _ _ _ g2 h)
 .intro x hx y hy h
  obtain⟨a,ha,rfl⟩:=az.1 hx;obtain⟨c,hc,rfl⟩:=QQ hD hy;have:=(iR.kept a (mR.1 a ha).1).2 c (by simpa using hc);simp[nU]at this;exact this (bH _ _ _ h g1)
 .intro x hx
  obtain⟨a,ha,rfl⟩:=az.1 hx;exact om hD iL cl a (iL.kept a (mL.1 a ha).1).1
 .intro x hx
  obtain⟨a,ha,rfl⟩:=az.1 hx;exact om hD iR cr a (iR.kept a (mR.1 a ha).1).1
end
section
open bE
variable {l:List Nat} {z:List Int} {D:dh} {left:Bool}
def CZ(l:List Nat)(z:List Int):List Nat:=((List.range l.length).filter λ(i:Nat)=>!oV z (i:Int)).map λi=>l.getD i 0
theorem Az(l:List Nat)(z:List Int):tC (dB l) z=dB (CZ l z):=by
 unfold tC Kw CZ;rw[bG]
 conv=>rhs;rw[dB,jg]
 refine dC λi hi=>?_
 have h:=dz.1 (lh.1 hi).1;simp[iA h,h]
theorem DN{x:Nat}:x∈CZ l z↔∃i,∃h:i<l.length,x=l[i]/\(i:Int) ∉ z:=by
 unfold CZ;rw[az];constructor
 .rintro⟨i,hi,rfl⟩
  obtain⟨h1,h2⟩:=lh.1 hi;have h:=dz.1 h1;exact⟨i,h,by simp[h],by simpa [oV]using h2⟩
 .rintro⟨i,h,rfl,hn⟩
  exact⟨i,lh.2 ⟨dz.2 h,by simpa [oV]using hn⟩,by simp[h]⟩
theorem Cq(hn:l.Nodup){i j:Nat}(hi:i<l.length)(hj:j<l.length)(e:l[i]=l[j]):i=j:=by
 have h:=dx.1 hn;rcases nV i j with c|c|c
 .exact absurd e (h i j hi hj c)
 .exact c
 .exact absurd e.symm (h j i hj hi c)
theorem X4(D:dh)(left:Bool)(a:Nat):nU D left a a:=by cases left <;> simp[nU,pz]
theorem TK{a b c:Nat}(h:nU D left a b)(k:nU D left b c):nU D left a c:=by
 cases left <;> simp[nU]at h k ⊢
 .exact bH _ _ _ k h
 .exact bH _ _ _ h k
theorem DV(hG:bE.Good D)(hn:l.Nodup)(hl:∀x,x∈l->x<D.length)(hc:∀x,x∈l->Canon (vl D x))(hz:jh D left l z l.length 0):yG D left l (CZ l z):=by
 have abo:∀a b,a∈l->b∈l->nU D left a b->nU D left b a->a=b:=by
  intro a b ha hb h k;have e:jc (vl D a) (vl D b):=by
   cases left <;> simp[nU]at h k
   .exact⟨k,h⟩
   .exact⟨h,k⟩
  exact lX hG a b (hl a ha) (hl b hb) (fT (hc a ha) (hc b hb) e)
 have dom:∀i,i<l.length->((i:Int)∈z↔Y7 D left l i):=by
  intro i hi;rw[hz.mem];constructor
  .rintro(⟨_,h⟩|⟨rfl,_⟩)
   .exact h
   .omega
  .intro h;exact .inl ⟨hi,h⟩
 constructor
 .intro x hx
  obtain⟨i,hi,rfl,hz'⟩:=DN.1 hx;refine⟨ai hi,λy hy hg=>?_⟩;obtain⟨k,hk,rfl⟩:=aQ.1 hy;by_cases e:k=i
  .subst e;rfl
  .rw[dom i hi]at hz'
   by_cases g2:nU D left l[i] l[k]
   .exact abo _ _ (ai hk) (ai hi) hg g2
   .exact absurd ⟨k,hk,e,by simpa [hk,hi]using hg,.inl (by simpa [hk,hi]using g2)⟩ hz'
 .intro x hx
  obtain⟨b,hb,hbx,hm⟩:=stays (nU D left) (X4 D left) (λ_ _ _=>TK) l abo x hx;refine⟨b,?_,hbx⟩;obtain⟨i,hi,rfl⟩:=aQ.1 hb;refine DN.2 ⟨i,hi,rfl,λhz'=>?_⟩;obtain⟨k,hk,hne,hg,_⟩:=(dom i hi).1 hz';simp only[List.getD,af hk,af hi,kI]at hg;have e:=hm _ (ai hk) hg;exact hne (Cq hn hk hi e)
end
section
open bE
variable {D D':dh} {l r B F:List Nat} {i:Nat} {left:Bool}
theorem jN.ext(h:jN D l r D' i):∃E,D'=D++E/\E.length<=1:=by
 rcases h.2 with h|h
 .exact⟨[],by simp[h],by simp⟩
 .exact⟨_,h,by simp⟩
theorem jN.lt(h:jN D l r D' i):i<D'.length:=(df.1 h.1).1
theorem jN.node(h:jN D l r D' i):D'[i]'h.lt=(bO l,bO r):=by have k:=h.1;rw[af h.lt]at k;injection k
theorem jN.len(h:jN D l r D' i):D.length<=D'.length/\D'.length<=D.length+1:=by
 obtain⟨E,rfl,h⟩:=h.ext;simp;omega
theorem jN.vl{D D':dh}{l r:List Nat}{i:Nat}(h:jN D l r D' i)(hD:WF D)(hD':WF D'){x:Nat}(hx:x<D.length):bE.vl D' x=bE.vl D x:=by
 obtain⟨E,rfl,_⟩:=h.ext;exact jJ hD hD' x hx
theorem yL{a b c d:List Gm}(h1:∀x,x∈a↔x∈c)(h2:∀x,x∈b↔x∈d):Same (.mk a b) (.mk c d):=by
 rw[same_iff];exact⟨λx hx=>⟨x,(h1 x).1 hx,gT x⟩,λx hx=>⟨x,(h1 x).2 hx,gT x⟩,λx hx=>⟨x,(h2 x).1 hx,gT x⟩,λx hx=>⟨x,(h2 x).2 hx,gT x⟩⟩
theorem lW(h:Asc l):l.Nodup:=h.imp (λh=>jY h)
theorem He(h:yG D left (bO B) F):yG D left B (bO F):=
 ⟨λx hx=>by obtain⟨a,b⟩:=h.1 x (cz.1 hx);exact⟨cz.1 a,λz hz=>b z (cz.2 hz)⟩,
  λx hx=>by obtain⟨z,hz,hg⟩:=h.2 x (cz.2 hx);exact⟨z,cz.2 hz,hg⟩⟩
theorem Ew(hv:∀x,x<D.length->vl D' x=vl D x)(hB:∀x,x∈B->x<D.length)(h:yG D' left B F):yG D left B F:=by
 have e:∀x y,x∈B->y∈B->(nU D' left x y↔nU D left x y):=λx y hx hy=>by unfold nU;rw[hv x (hB x hx),hv y (hB y hy)]
 refine⟨λx hx=>?_,λx hx=>?_⟩
 .obtain⟨a,b⟩:=h.1 x hx
  exact⟨a,λz hz hg=>b z hz ((e z x hz a).2 hg)⟩
 .obtain⟨z,hz,hg⟩:=h.2 x hx
  exact⟨z,hz,(e z x (h.1 z hz).1 hx).1 hg⟩
def Within(D:dh)(l r:List Nat)(D':dh)(i:Nat):Prop:=∀P:Nat->Prop,(∀j side x,P j->x∈opt D side j->P x)->(∀x,x∈l->P x)->(∀x,x∈r->P x)->∀side x,x∈opt D' side i->P x
theorem qO{E:dh}{side:Bool}(h:i<D.length):opt (D++E) side i=opt D side i:=by simp[opt,dN h]
theorem Sr{D1 D2 D3:dh}{x8 BL xZ BR:List Nat}{zL zR:List Int}{i1 i2 i3:Nat}(g:bE.Good D)(g1:bE.Good D1)(g2:bE.Good D2)(g3:bE.Good D3)
 (p1:jN D l r D1 i1) (p2:jN D1 (bO BL) (bO BR) D2 i2) (p3:jN D2 (CZ (bO BL) zL) (CZ (bO BR) zR) D3 i3)
 (hl:∀x,x∈l->x<D.length) (hr:∀x,x∈r->x<D.length) (cl:∀x,x∈l->Canon (vl D x)) (cr:∀x,x∈r->Canon (vl D x))
 (iL:jd D1 i1 true (bO l) x8 BL x8.length) (iR:jd D1 i1 false (bO r) xZ BR xZ.length)
 (dL:jh D2 true (bO BL) zL (bO BL).length 0) (dR:jh D2 false (bO BR) zR (bO BR).length 0):
 (∃E,D3=D++E/\E.length<=3)/\i3<D3.length/\Canon (vl D3 i3)/\jc (vl D3 i3) (.mk (l.map (vl D)) (r.map (vl D)))/\Within D l r D3 i3:=by
 have e1:∀x,x<D.length->vl D1 x=vl D x:=λx hx=>p1.vl g.wf g1.wf hx
 have e2:∀x,x<D1.length->vl D2 x=vl D1 x:=λx hx=>p2.vl g1.wf g2.wf hx
 have e3:∀x,x<D2.length->vl D3 x=vl D2 x:=λx hx=>p3.vl g2.wf g3.wf hx
 have n1:=p1.len;have n2:=p2.len;have cl1:∀x,x∈bO l->Canon (vl D1 x):=λx hx=>by have hx:=cz.1 hx;rw[e1 x (hl x hx)];exact cl x hx
 have cr1:∀x,x∈bO r->Canon (vl D1 x):=λx hx=>by have hx:=cz.1 hx;rw[e1 x (hr x hx)];exact cr x hx
 have bL:∀x,x∈BL->x<D1.length/\Canon (vl D1 x):=λx hx=>⟨iL.lt x (iL.kept x hx).1,om g1.wf iL cl1 x (iL.kept x hx).1⟩
 have bR:∀x,x∈BR->x<D1.length/\Canon (vl D1 x):=λx hx=>⟨iR.lt x (iR.kept x hx).1,om g1.wf iR cr1 x (iR.kept x hx).1⟩
 have mL:yG D1 true BL (bO (CZ (bO BL) zL)):=by
  refine Ew e2 (λx hx=>(bL x hx).1) (He (DV g2 (lW (kC _)) ?_ ?_ dL))
  .intro x hx;have:=(bL x (cz.1 hx)).1;omega
  .intro x hx;have h:=bL x (cz.1 hx);rw[e2 x h.1];exact h.2
 have mR:yG D1 false BR (bO (CZ (bO BR) zR)):=by
  refine Ew e2 (λx hx=>(bR x hx).1) (He (DV g2 (lW (kC _)) ?_ ?_ dR))
  .intro x hx;have:=(bR x (cz.1 hx)).1;omega
  .intro x hx;have h:=bR x (cz.1 hx);rw[e2 x h.1];exact h.2
 obtain⟨hE,hC⟩:=VV g1.wf p1.1 cl1 cr1 iL iR mL mR;have v3:vl D3 i3=.mk ((bO (CZ (bO BL) zL)).map (vl D1)) ((bO (CZ (bO BR) zR)).map (vl D1)):=by
  rw[mJ g3.wf p3.1];congr 1
  .refine dC λx hx=>?_
   have h:=(bL x (mL.1 x hx).1).1;rw[e3 x (by omega),e2 x h]
  .refine dC λx hx=>?_
   have h:=(bR x (mR.1 x hx).1).1;rw[e3 x (by omega),e2 x h]
 have v1:jc (vl D1 i1) (.mk (l.map (vl D)) (r.map (vl D))):=by
  rw[mJ g1.wf p1.1];refine(yL (λy=>?_) (λy=>?_)).eqv
  .simp only[az,cz]
   exact⟨λ⟨x,hx,e⟩=>⟨x,hx,by rw[<-e,e1 x (hl x hx)]⟩,λ⟨x,hx,e⟩=>⟨x,hx,by rw[<-e,e1 x (hl x hx)]⟩⟩
  .simp only[az,cz]
   exact⟨λ⟨x,hx,e⟩=>⟨x,hx,by rw[<-e,e1 x (hr x hx)]⟩,λ⟨x,hx,e⟩=>⟨x,hx,by rw[<-e,e1 x (hr x hx)]⟩⟩
 refine⟨?_,p3.lt,by rw[v3];exact hC,by rw[v3];exact hE.trans v1,λP hP pl pr side x hx=>?_⟩
 rotate_left
 .have hP1:∀i side x,(P i/\i<D.length)->x∈opt D1 side i->P x/\x<D.length:=λi side x hi hx=>by
   obtain⟨E,rfl,_⟩:=p1.ext;rw[qO hi.2]at hx;exact⟨hP i side x hi.1 hx,by have:=lU g.wf hx;omega⟩
  have e:D3[i3]?=some (bO (CZ (bO BL) zL),bO (CZ (bO BR) zR)):=p3.1;unfold opt at hx;rw[e]at hx;cases side
  .have hx:x∈bO (CZ (bO BR) zR):=by simpa using hx
   exact(iR.xn (λx=>P x/\x<D.length) hP1 (λx hx=>⟨pr x (cz.1 hx),hr x (cz.1 hx)⟩) x (iR.kept x (mR.1 x hx).1).1).1
  .have hx:x∈bO (CZ (bO BL) zL):=by simpa using hx
   exact(iL.xn (λx=>P x/\x<D.length) hP1 (λx hx=>⟨pl x (cz.1 hx),hl x (cz.1 hx)⟩) x (iL.kept x (mL.1 x hx).1).1).1
 obtain⟨E1,rfl,h1⟩:=p1.ext;obtain⟨E2,rfl,h2⟩:=p2.ext;obtain⟨E3,rfl,h3⟩:=p3.ext;exact⟨E1++(E2++E3),by simp,by simp;omega⟩
end
section
open Go.RowKit
open bE (dh Nd vl WF)
variable {D:dh} {root i x k base e g n cap:Nat} {side:Bool} {bs:List Bool} {w:World} {l:List Nat}
theorem Td:(prog.info? 4).map (λi=>(i.zero,i.size,i.bytes))=some (some (.bool false),1,1):=by kernel_rfl
structure RInv(D:dh)(root:Nat)(bs:List Bool)(m:Nat):Prop where
 len:bs.length=root+1
 top:bs[root]?=some true
 sound:∀j:Nat,bs[j]?=some true->bE.Reach D root j
 done:∀i:Nat,m<=i->bs[i]?=some true->∀side x,x∈opt D side i->bs[x]?=some true
theorem yO(h:bE.Reach D root i)(hx:x∈opt D side i):bE.Reach D root x:=by
 unfold opt at hx;cases e:D[i]? with
 |none=>rw[e]at hx;simp at hx
 |some nd=>
  rw[e]at hx;cases side
  .exact h.right e (by simpa using hx)
  .exact h.left e (by simpa using hx)
theorem RInv.start(D:dh)(root:Nat):RInv D root ((List.replicate (root+1) false).set root true) (root+1):=by
 refine⟨by simp,by simp,λj h=>?_,λi hi h=>?_⟩
 .rw[l5]at h
  split at h
  .rename_i e;subst e;exact .here
  .rw[List.getElem?_replicate]at h
   split at h <;> simp at h
 .have h1:i<((List.replicate (root+1) false).set root true).length:=(df.1 h).1
  simp at h1;omega
theorem RInv.mark(hD:WF D)(h:RInv D root bs (k+1))(hk:bs[k]?=some true)(hx:x∈opt D side k):
 RInv D root (bs.set x true) (k+1)/\(bs.set x true)[k]?=some true/\∀j:Nat,bs[j]?=some true->(bs.set x true)[j]?=some true:=by
 have mono:∀j:Nat,bs[j]?=some true->(bs.set x true)[j]?=some true:=λj hj=>by
  rw[l5];split
  .rename_i e;subst e;simp[(df.1 hj).1]
  .exact hj
 have hxk:=lU hD hx;refine⟨⟨by simpa using h.len,mono _ h.top,λj hj=>?_,λi hi hm sd y hy=>?_⟩,mono k hk,mono⟩
 .rw[l5]at hj
  split at hj
  .rename_i e;subst e;exact yO (h.sound k hk) hx
  .exact h.sound j hj
 .rw[l5,if_neg (by omega)]at hm
  exact mono _ (h.done i hi hm sd y hy)
theorem RInv.down(h:RInv D root bs (k+1))(hk:bs[k]?=some true->∀side x,x∈opt D side k->bs[x]?=some true):RInv D root bs k:=
 ⟨h.len,h.top,h.sound,λi hi hm=>by
  by_cases e:i=k
  .subst e;exact hk hm
  .exact h.done i (by omega) hm⟩
theorem RInv.all(h:RInv D root bs 0)(j:Nat):bs[j]?=some true↔bE.Reach D root j:=by
 refine⟨h.sound j,λhr=>?_⟩
 induction hr with
 |here=>exact h.top
 |left _ hd hk ih=>exact h.done _ (aU _) ih true _ (by simp[opt,hd];exact hk)
 |right _ hd hk ih=>exact h.done _ (aU _) ih false _ (by simp[opt,hd];exact hk)
theorem fB.VX{pb:Nat}{vn vb:Value}(h:fB w pb vn vb D)(hi:i<D.length):
 ∃g cap aL cL aR cR,vn=.slice (some ⟨g,0,none⟩) D.length cap/\∀W,Ext w W->W.cell? ⟨pb,0,none⟩=some (.slice (some ⟨g,0,none⟩) D.length cap)/\W.cell? ⟨g,i*2,none⟩=some (.slice aL (D[i]).1.length cL)/\W.cell? ⟨g,i*2+1,none⟩=some (.slice aR (D[i]).2.length cR)/\
  Ints W (.slice aL (D[i]).1.length cL) (dB (D[i]).1)/\Ints W (.slice aR (D[i]).2.length cR) (dB (D[i]).2):=by
 obtain⟨g,cap,L,R,rfl,h2,h3,h4,h5,h6,h7⟩:=h.ve hi;obtain⟨aL,cL,rfl,-⟩:=id h6;obtain⟨aR,cR,rfl,-⟩:=id h7;rw[bG]at h4 h5 h6 h7;exact⟨g,cap,aL,cL,aR,cR,rfl,λW hW=>⟨(h.ext hW).cell0,fw hW h4,fw hW h5,h6.ext hW,h7.ext hW⟩⟩
theorem qU(h:i<D.length):opt D true i=(D[i]).1:=by simp[opt,h]
theorem pU(h:i<D.length):opt D false i=(D[i]).2:=by simp[opt,h]
theorem xV{W:World}{aL:Option Addr}{cL:Nat}(h:Ints W (.slice aL l.length cL) (dB l))(hi:i<l.length):∃b off,aL=some ⟨b,off,none⟩/\W.cell? ⟨b,off+i,none⟩=some (.int .i64 ((l[i]:Nat):Int)):=by
 obtain⟨a,c,he,_,_,hc⟩:=h;simp only[il]at he;obtain⟨rfl,-,rfl⟩:=he;rw[bG]at hc;obtain⟨b,off,rfl,hcell⟩:=hc (by omega);have:=hcell i hi;rw[iA hi]at this;exact⟨b,off,rfl,this⟩
theorem RInv.go(hD:WF D)(hl:opt D side k=l)(h:RInv D root bs (k+1))(hk:bs[k]?=some true)(hi:i<l.length)(hp:∀j (h:j<l.length),j<i->bs[l[j]]?=some true):
 RInv D root (bs.set l[i] true) (k+1)/\(bs.set l[i] true)[k]?=some true/\(∀j:Nat,bs[j]?=some true->(bs.set l[i] true)[j]?=some true)/\(∀j (h:j<l.length),j<i+1->(bs.set l[i] true)[l[j]]?=some true):=by
 have hx:l[i]∈opt D side k:=by rw[hl];exact ai hi
 obtain⟨h1,h2,h3⟩:=h.mark hD hk hx;refine⟨h1,h2,h3,λj hj hji=>?_⟩;by_cases e:j=i
 .subst e
  have hkl:k<bs.length:=(df.1 hk).1;have:=lU hD hx;rw[l5,if_pos rfl,if_pos (by omega)]
 .exact h3 _ (hp j hj (by omega))
theorem BP(h:w.ownsRow base e 1 (.slice (some ⟨g,0,none⟩) n cap) n (bs.map Value.bool)){b:Bool}(hk:k<n)(hb:bs[k]?=some b):w.cell? ⟨g,k,none⟩=some (.bool b):=by
 rw[h.cellAt k (by omega)];simp[hb]
theorem Rz(h:w.ownsRow base e 1 (.slice (some ⟨g,0,none⟩) n cap) n (bs.map Value.bool))(k:Nat)(b:Bool):
 (w.setCell ⟨g,k,none⟩ (.bool b)).ownsRow base e 1 (.slice (some ⟨g,0,none⟩) n cap) n ((bs.set k b).map Value.bool):=by
 have:=(h.stored k (.bool b)).1;rw[tq];exact this
theorem K5(pb:Nat)(vn vb:Value)(D:dh)(root:Nat)(w:World)(hB:fB w pb vn vb D)(hr:root<D.length):
 Calls prog 119 #[.pointer (some ⟨pb,0,none⟩),.int .i64 root] w λe w'=>∃v' bs,e=.returned v'/\RInv D root bs 0/\w'.ownsRow w.heap.size 4 1 v' (root+1) (bs.map Value.bool)/\Ext w w':=by
 have hds:=hB.small;have hD:=aW hB.good.wf;obtain⟨i0,hi,hz0,hz1,hz2⟩:=info_parts Td;obtain⟨w1,hmk,ho1,hg1⟩:=run_make_full (P:=prog) w w.heap.size 149 4 i0 (.bool false) 1 underlying149 hi hz0 hz1 .i64 .i64 (root+1) (by rw[hz2];omega) (by unfold maxLen;omega) (aJ _);rw[show(((root+1:Nat)):Int)=(root:Int)+1 by omega]at hmk;have ho1:w1.ownsRow w.heap.size 4 1 (.slice (some ⟨w.heap.size,0,none⟩) (root+1) (root+1)) (root+1) ((List.replicate (root+1) false).map Value.bool):=by
  rw[kT]at ho1;rw[List.map_replicate,<-toList_madeCells_one];exact ho1
 have c1:=ho1.cellAt root (by omega);have f1:=ho1.frozenAt root;rw[show((List.replicate (root+1) false).map Value.bool)[root]?=some (.bool false) by simp]at c1;have ho2:=ho1.stored root (.bool true);have hw:IntKind.i64.wrap ((root:Int)+1)=(root:Int)+1:=by rw[IntKind.wrap_i64];omega
 go_enter Tryz.func119,Tryz.ntmps119
 go_wp2
 have hB':=aW hB;have hE2:Ext w (w1.setCell ⟨w.heap.size,root,none⟩ (.bool true)):=(eU (gz _ _) hg1 (by simp)).grown ho2.2 hg1.size (λk hk=>by injection hk with hk;omega);rw[<-tq]at ho2;have hst:=RInv.start D root;obtain⟨ho3,-⟩:=ho2;generalize hW:w1.setCell ⟨w.heap.size,root,none⟩ (.bool true)=W at *;generalize (List.replicate (root+1) false).set root true=bs0 at *;clear hmk ho1 hg1 c1 f1 hW hB;go_loopw [6,7,8] (λkk _ _ wr=>∃m bs,m<=root+1/\kk=.int .i64 ((m:Int)-1)/\wr.ownsRow w.heap.size 4 1 (.slice (some ⟨w.heap.size,0,none⟩) (root+1) (root+1)) (root+1) (bs.map Value.bool)/\RInv D root bs m/\Ext w wr) (λkk _ _ _=>(intOf kk+1).toNat)
 case atStart=>exact⟨root+1,bs0,aJ _,by go_num,ho3,hst,hE2⟩
 case round=>
  obtain⟨m,bs,hm,rfl,hown,hinv,hE⟩:=hrel;cases m with
  |zero=>
   go_wp2
   go_ret
   exact⟨_,bs,rfl,hinv,hown,hE⟩
  |succ k=>
   have hk1:((k+1:Nat):Int)-1=(k:Int):=(by omega);rw[hk1];have hkr:k<root+1:=(by omega);obtain⟨bv,hbk⟩:∃b,bs[k]?=some b:=⟨_,af (by rw[hinv.len];omega)⟩;have hck:=BP hown hkr hbk;have HV:=aW hinv;have HE:=aW hE;have HO:=aW hown;have hkm:IntKind.i64.wrap ((k:Int)-1)=(k:Int)-1:=(by rw[IntKind.wrap_i64];omega);clear hinv hE hown hst ho3;cases bv with
   |false=>
    go_wp2
    go_roundw
    case rel=>exact⟨k,bs,by omega,by go_num,HO.out,HV.out.down (λh=>by rw[hbk]at h;cases h),HE.out⟩
    case measure=>simp[intOf]
   |true=>
    have UB:k<D.length:=(by omega);obtain⟨gn,cn,aL,cL,aR,cR,rfl,hN⟩:=hB'.out.VX UB
    have hX:Hid (∀W,Ext w W->W.cell? ⟨pb,0,none⟩=some (.slice (some ⟨gn,0,none⟩) D.length cn)/\W.cell? ⟨gn,k*2,none⟩=some (.slice aL (D[k]).1.length cL)/\W.cell? ⟨gn,k*2+1,none⟩=some (.slice aR (D[k]).2.length cR)/\
     Ints W (.slice aL (D[k]).1.length cL) (dB (D[k]).1)/\Ints W (.slice aR (D[k]).2.length cR) (dB (D[k]).2)):=hN
    clear hN;go_wp2
    have Ri:(D[k]).1.length<=1152921504606846976:=(by have:=(hX.out w (gz _ _)).2.2.2.1;obtain⟨_,_,_,_,h,_⟩:=this;rw[bG]at h;exact h);have hRl:(D[k]).2.length<=1152921504606846976:=(by have:=(hX.out w (gz _ _)).2.2.2.2;obtain⟨_,_,_,_,h,_⟩:=this;rw[bG]at h;exact h);go_loopw [7] (λii wr=>∃i bs,i<=(D[k]).1.length/\ii=.int .i64 (i:Int)/\wr.ownsRow w.heap.size 4 1 (.slice (some ⟨w.heap.size,0,none⟩) (root+1) (root+1)) (root+1) (bs.map Value.bool)/\RInv D root bs (k+1)/\bs[k]?=some true/\Hid (∀j (h:j<(D[k]).1.length),j<i->bs[(D[k]).1[j]]?=some true)/\Ext w wr) (λii _=>(D[k]).1.length-(intOf ii).toNat)
    case atStart=>exact⟨0,bs,aU _,rfl,HO.out,HV.out,hbk,λj _ h=>absurd h (by omega),HE.out⟩
    case round=>
     clear HO HV HE hck hbk;obtain⟨i,bs,hi,rfl,hown,hinv,hbk,HP,hE⟩:=hrel;obtain⟨x0,x1,x2,x3,x4⟩:=hX.out _ hE;have HV:=aW hinv;have HE:=aW hE;have HO:=aW hown;by_cases hlt:i<(D[k]).1.length
     .obtain⟨b,off,rfl,hci⟩:=xV x3 hlt
      obtain⟨v1,v2,v3,v4⟩:=RInv.go hD.out (qU UB) hinv hbk hlt HP.out;have hxl:(D[k]).1[i]<root+1:=(by have:=lU hD.out (show(D[k]).1[i]∈opt D true k by rw[qU UB];exact ai hlt);omega);obtain⟨bx,hbx⟩:∃b,bs[(D[k]).1[i]]?=some b:=⟨_,af (by rw[hinv.len];omega)⟩;have hcx:=BP hown hxl hbx;have hfx:=hown.frozenAt ((D[k]).1[i]);have V:=aW v1;have V3:=aW v3;have V4:=aW v4;clear hinv hE hown v1 v3 v4 x3 x4;generalize hx:(D[k]).1[i]=x at *;go_wp2
      go_roundw
      case rel=>exact⟨i+1,bs.set x true,by omega,by go_num,Rz HO.out _ _,V.out,v2,λj hj hji=>V4.out j hj hji,HE.out.grown (HO.out.stored x (.bool true)).2 HE.out.size (λk hk=>by injection hk with hk;omega)⟩
      case measure=>simp[intOf];omega
     .have hil:i=(D[k]).1.length:=by omega
      subst hil;clear hinv hE hown;go_wp2
      have HPL:Hid (∀x,x∈opt D true k->bs[x]?=some true):=λx hx=>by
       rw[qU UB]at hx;obtain⟨j,hj,rfl⟩:=aQ.1 hx;exact HP.out j hj hj
      go_loopw [8] (λii wr=>∃i bs,i<=(D[k]).2.length/\ii=.int .i64 (i:Int)/\wr.ownsRow w.heap.size 4 1 (.slice (some ⟨w.heap.size,0,none⟩) (root+1) (root+1)) (root+1) (bs.map Value.bool)/\RInv D root bs (k+1)/\bs[k]?=some true/\Hid (∀j (h:j<(D[k]).2.length),j<i->bs[(D[k]).2[j]]?=some true)/\Hid (∀x,x∈opt D true k->bs[x]?=some true)/\Ext w wr) (λii _=>(D[k]).2.length-(intOf ii).toNat)
      case atStart=>exact⟨0,bs,aU _,rfl,HO.out,HV.out,hbk,λj _ h=>absurd h (by omega),HPL,HE.out⟩
      case round=>
       clear HO HV HE hbk HP HPL x0 x1 x2 x3 x4;obtain⟨i,bs,hi,rfl,hown,hinv,hbk,HP,HPL,hE⟩:=hrel;obtain⟨x0,x1,x2,x3,x4⟩:=hX.out _ hE;have HV:=aW hinv;have HE:=aW hE;have HO:=aW hown;by_cases hlt:i<(D[k]).2.length
       .obtain⟨b,off,rfl,hci⟩:=xV x4 hlt
        obtain⟨v1,v2,v3,v4⟩:=RInv.go hD.out (pU UB) hinv hbk hlt HP.out;have hxl:(D[k]).2[i]<root+1:=(by have:=lU hD.out (show(D[k]).2[i]∈opt D false k by rw[pU UB];exact ai hlt);omega);obtain⟨bx,hbx⟩:∃b,bs[(D[k]).2[i]]?=some b:=⟨_,af (by rw[hinv.len];omega)⟩;have hcx:=BP hown hxl hbx;have hfx:=hown.frozenAt ((D[k]).2[i]);have V:=aW v1;have V3:=aW v3;have V4:=aW v4;clear hinv hE hown v1 v3 v4 x3 x4;generalize hx:(D[k]).2[i]=x at *;go_wp2
        go_roundw
        case rel=>exact⟨i+1,bs.set x true,by omega,by go_num,Rz HO.out _ _,V.out,v2,λj hj hji=>V4.out j hj hji,λy hy=>V3.out y (HPL.out y hy),HE.out.grown (HO.out.stored x (.bool true)).2 HE.out.size (λk hk=>by injection hk with hk;omega)⟩
        case measure=>simp[intOf];omega
       .have hil:i=(D[k]).2.length:=by omega
        subst hil;clear hinv hE hown;go_wp2
        go_roundw
        case rel=>exact⟨k,bs,by omega,by go_num,HO.out,HV.out.down (λ_ side x hx=>by
         cases side
         .rw[pU UB]at hx
          obtain⟨j,hj,rfl⟩:=aQ.1 hx;exact HP.out j hj hj
         .exact HPL.out x hx),HE.out⟩
        case measure=>simp[intOf]
end
