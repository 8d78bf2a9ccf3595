/-
  Plain law: the form of a game; no condition. (6 texts.)
-/
import Derived.Test.YteknjeohbcgpdaaGreatDoorK0
namespace Go.Proofs.YteknjeohbcgpdaaGreatDoor.bO
inductive Gm where
 |mk (l r:List Gm)
def Gm.l:Gm->List Gm | .mk l _=>l
def Gm.r:Gm->List Gm | .mk _ r=>r
theorem Gm.jT{g x:Gm}(h:x∈g.l):sizeOf x<sizeOf g:=by
 cases g with
 |mk l r=>have:=List.sizeOf_lt_of_mem h;simp[Gm.l]at this ⊢;omega
theorem Gm.jR{g x:Gm}(h:x∈g.r):sizeOf x<sizeOf g:=by
 cases g with
 |mk l r=>have:=List.sizeOf_lt_of_mem h;simp[Gm.r]at this ⊢;omega
def Ge(a b:Gm):Prop:=
 (∀r,(h:r∈a.r)->¬Ge b r)/\(∀l,(h:l∈b.l)->¬Ge l a)
termination_by sizeOf a+sizeOf b
decreasing_by
 .have:=Gm.jR h;omega
 .have:=Gm.jT h;omega
theorem iD(a b:Gm):Ge a b↔(∀r,r∈a.r->¬Ge b r)/\(∀l,l∈b.l->¬Ge l a):=by
 rw[Ge]
theorem mW(a:Gm):Ge a a:=by
 rw[iD];refine⟨λr h g=>?_,λl h g=>?_⟩
 .exact((iD a r).1 g).1 r h (mW r)
 .exact((iD l a).1 g).2 l h (mW l)
termination_by sizeOf a
decreasing_by
 .exact Gm.jR h
 .exact Gm.jT h
theorem dQ(a b c:Gm)(h:Ge a b)(k:Ge b c):Ge a c:=by
 rw[iD];refine⟨λr hr g=>?_,λl hl g=>?_⟩
 .exact((iD a b).1 h).1 r hr (dQ b c r k g)
 .exact((iD b c).1 k).2 l hl (dQ l a b g h)
termination_by sizeOf a+sizeOf b+sizeOf c
decreasing_by
 .have:=Gm.jR hr;omega
 .have:=Gm.jT hl;omega
def iO(a b:Gm):Prop:=Ge a b/\Ge b a
theorem iO.refl(a:Gm):iO a a:=⟨mW a,mW a⟩
theorem iO.symm{a b:Gm}(h:iO a b):iO b a:=⟨h.2,h.1⟩
theorem iO.trans{a b c:Gm}(h:iO a b)(k:iO b c):iO a c:=⟨dQ _ _ _ h.1 k.1,dQ _ _ _ k.2 h.2⟩
theorem iO.CF{a b c:Gm}(h:iO a b):Ge a c↔Ge b c:=⟨dQ _ _ _ h.2,dQ _ _ _ h.1⟩
theorem iO.zN{a b c:Gm}(h:iO a b):Ge c a↔Ge c b:=⟨λg=>dQ _ _ _ g h.1,λg=>dQ _ _ _ g h.2⟩
theorem nY{a l:Gm}(h:l∈a.l):¬Ge l a:=((iD a a).1 (mW a)).2 l h
theorem nX{a r:Gm}(h:r∈a.r):¬Ge a r:=((iD a a).1 (mW a)).1 r h
def Same(a b:Gm):Prop:=
 (∀x,(h:x∈a.l)->∃y,∃(_:y∈b.l),Same x y)/\(∀y,(h:y∈b.l)->∃x,∃(_:x∈a.l),Same x y)/\
 (∀x,(h:x∈a.r)->∃y,∃(_:y∈b.r),Same x y)/\(∀y,(h:y∈b.r)->∃x,∃(_:x∈a.r),Same x y)
termination_by sizeOf a+sizeOf b
decreasing_by
 all_goals first
  |(rename_i h2;have:=Gm.jT h;have:=Gm.jT h2;omega)
  |(rename_i h2;have:=Gm.jR h;have:=Gm.jR h2;omega)
theorem same_iff(a b:Gm):Same a b↔
 (∀x,x∈a.l->∃y,y∈b.l/\Same x y)/\(∀y,y∈b.l->∃x,x∈a.l/\Same x y)/\
 (∀x,x∈a.r->∃y,y∈b.r/\Same x y)/\(∀y,y∈b.r->∃x,x∈a.r/\Same x y):=by
 rw[Same];simp only[exists_prop]
theorem iP(a:Gm):Same a a:=by
 rw[same_iff];exact⟨λx h=>⟨x,h,iP x⟩,λx h=>⟨x,h,iP x⟩,λx h=>⟨x,h,iP x⟩,λx h=>⟨x,h,iP x⟩⟩
termination_by sizeOf a
decreasing_by
 .exact Gm.jT h
 .exact Gm.jT h
 .exact Gm.jR h
 .exact Gm.jR h
theorem jH{a b:Gm}(h:Same a b):Same b a:=by
 rw[same_iff]at h ⊢;obtain⟨h1,h2,h3,h4⟩:=h;refine⟨λy hy=>?_,λx hx=>?_,λy hy=>?_,λx hx=>?_⟩
 .obtain⟨x,hx,s⟩:=h2 y hy;exact⟨x,hx,jH s⟩
 .obtain⟨y,hy,s⟩:=h1 x hx;exact⟨y,hy,jH s⟩
 .obtain⟨x,hx,s⟩:=h4 y hy;exact⟨x,hx,jH s⟩
 .obtain⟨y,hy,s⟩:=h3 x hx;exact⟨y,hy,jH s⟩
termination_by sizeOf a+sizeOf b
decreasing_by
 .have:=Gm.jT hx;have:=Gm.jT hy;omega
 .have:=Gm.jT hx;have:=Gm.jT hy;omega
 .have:=Gm.jR hx;have:=Gm.jR hy;omega
 .have:=Gm.jR hx;have:=Gm.jR hy;omega
theorem gU{a b c:Gm}(h:Same a b)(k:Same b c):Same a c:=by
 rw[same_iff]at h k ⊢;obtain⟨h1,h2,h3,h4⟩:=h;obtain⟨k1,k2,k3,k4⟩:=k;refine⟨λx hx=>?_,λz hz=>?_,λx hx=>?_,λz hz=>?_⟩
 .obtain⟨y,hy,s⟩:=h1 x hx;obtain⟨z,hz,t⟩:=k1 y hy;exact⟨z,hz,gU s t⟩
 .obtain⟨y,hy,t⟩:=k2 z hz;obtain⟨x,hx,s⟩:=h2 y hy;exact⟨x,hx,gU s t⟩
 .obtain⟨y,hy,s⟩:=h3 x hx;obtain⟨z,hz,t⟩:=k3 y hy;exact⟨z,hz,gU s t⟩
 .obtain⟨y,hy,t⟩:=k4 z hz;obtain⟨x,hx,s⟩:=h4 y hy;exact⟨x,hx,gU s t⟩
termination_by sizeOf a+sizeOf b+sizeOf c
decreasing_by
 .have:=Gm.jT hx;have:=Gm.jT hy;have:=Gm.jT hz;omega
 .have:=Gm.jT hx;have:=Gm.jT hy;have:=Gm.jT hz;omega
 .have:=Gm.jR hx;have:=Gm.jR hy;have:=Gm.jR hz;omega
 .have:=Gm.jR hx;have:=Gm.jR hy;have:=Gm.jR hz;omega
theorem BN{a b:Gm}(hr:∀r,r∈a.r->(∃r',r'∈b.r/\Ge r r')\/(∃l,l∈r.l/\Ge l b))
 (hl:∀l,l∈b.l->(∃l',l'∈a.l/\Ge l' l)\/(∃r,r∈l.r/\Ge a r)):Ge a b:=by
 rw[iD];refine⟨λr h g=>?_,λl h g=>?_⟩
 .rcases hr r h with⟨r',h',k⟩|⟨l,h',k⟩
  .exact nX h' (dQ _ _ _ g k)
  .exact((iD b r).1 g).2 l h' k
 .rcases hl l h with⟨l',h',k⟩|⟨r,h',k⟩
  .exact nY h' (dQ _ _ _ k g)
  .exact((iD l a).1 g).1 r h' k
theorem Same.eqv{a b:Gm}(h:Same a b):iO a b:=by
 rw[same_iff]at h;obtain⟨h1,h2,h3,h4⟩:=h;constructor
 .refine BN (λr hr=>?_) (λl hl=>?_)
  .obtain⟨y,hy,s⟩:=h3 r hr;exact .inl ⟨y,hy,(Same.eqv s).1⟩
  .obtain⟨x,hx,s⟩:=h2 l hl;exact .inl ⟨x,hx,(Same.eqv s).1⟩
 .refine BN (λr hr=>?_) (λl hl=>?_)
  .obtain⟨x,hx,s⟩:=h4 r hr;exact .inl ⟨x,hx,(Same.eqv s).2⟩
  .obtain⟨y,hy,s⟩:=h1 l hl;exact .inl ⟨y,hy,(Same.eqv s).2⟩
termination_by sizeOf a+sizeOf b
decreasing_by
 .have:=Gm.jR hr;have:=Gm.jR hy;omega
 .have:=Gm.jT hl;have:=Gm.jT hx;omega
 .have:=Gm.jR hr;have:=Gm.jR hx;omega
 .have:=Gm.jT hl;have:=Gm.jT hy;omega
def BU(a:Gm):Prop:=
 (∀x y,x∈a.l->y∈a.l->Ge x y->Same x y)/\(∀x y,x∈a.r->y∈a.r->Ge x y->Same x y)/\
 (∀x,x∈a.l->∀y,y∈x.r->¬Ge a y)/\(∀x,x∈a.r->∀y,y∈x.l->¬Ge y a)
inductive Canon:Gm->Prop
 |mk (a:Gm) (ht:BU a) (hl:∀x,x∈a.l->Canon x) (hr:∀x,x∈a.r->Canon x):Canon a
theorem Canon.tight{a:Gm}(h:Canon a):BU a:=by cases h;assumption
theorem Canon.l{a x:Gm}(h:Canon a)(hx:x∈a.l):Canon x:=by cases h with|mk _ _ hl _=>exact hl x hx
theorem Canon.r{a x:Gm}(h:Canon a)(hx:x∈a.r):Canon x:=by cases h with|mk _ _ _ hr=>exact hr x hx
theorem rE{a b:Gm}(h:¬Ge a b):(∃r,r∈a.r/\Ge b r)\/(∃l,l∈b.l/\Ge l a):=by
 rw[iD]at h;by_cases h1:∃r,r∈a.r/\Ge b r
 .exact .inl h1
 .refine .inr (uN λh2=>h ⟨λr hr g=>h1 ⟨r,hr,g⟩,λl hl g=>h2 ⟨l,hl,g⟩⟩)
theorem kL{a b:Gm}(ha:Canon a)(hb:Canon b)(h:iO a b):Same a b:=by
 have L:∀{a b:Gm},BU a->BU b->iO a b->∀x,x∈a.l->∃y,y∈b.l/\iO x y:=by
  intro a b ta tb h x hx;have n1:¬Ge x b:=λg=>nY hx (dQ _ _ _ g h.2)
  rcases rE n1 with⟨r,hr,g⟩|⟨y,hy,g⟩
  .exact absurd (dQ _ _ _ h.1 g) (ta.2.2.1 x hx r hr)
  .have n2:¬Ge y a:=λk=>nY hy (dQ _ _ _ k h.1)
   rcases rE n2 with⟨r,hr,g2⟩|⟨z,hz,g2⟩
   .exact absurd (dQ _ _ _ h.2 g2) (tb.2.2.1 y hy r hr)
   .have s:=ta.1 z x hz hx (dQ _ _ _ g2 g)
    exact⟨y,hy,dQ _ _ _ s.eqv.2 g2,g⟩
 have R:∀{a b:Gm},BU a->BU b->iO a b->∀x,x∈a.r->∃y,y∈b.r/\iO x y:=by
  intro a b ta tb h x hx;have n1:¬Ge b x:=λg=>nX hx (dQ _ _ _ h.1 g)
  rcases rE n1 with⟨y,hy,g⟩|⟨r,hr,g⟩
  .have n2:¬Ge a y:=λk=>nX hy (dQ _ _ _ h.2 k)
   rcases rE n2 with⟨z,hz,g2⟩|⟨r,hr,g2⟩
   .have s:=ta.2.1 x z hx hz (dQ _ _ _ g g2)
    exact⟨y,hy,g,dQ _ _ _ g2 s.eqv.2⟩
   .exact absurd (dQ _ _ _ g2 h.1) (tb.2.2.2 y hy r hr)
  .exact absurd (dQ _ _ _ g h.2) (ta.2.2.2 x hx r hr)
 rw[same_iff];refine⟨λx hx=>?_,λy hy=>?_,λx hx=>?_,λy hy=>?_⟩
 .obtain⟨y,hy,e⟩:=L ha.tight hb.tight h x hx;exact⟨y,hy,kL (ha.l hx) (hb.l hy) e⟩
 .obtain⟨x,hx,e⟩:=L hb.tight ha.tight h.symm y hy;exact⟨x,hx,kL (ha.l hx) (hb.l hy) e.symm⟩
 .obtain⟨y,hy,e⟩:=R ha.tight hb.tight h x hx;exact⟨y,hy,kL (ha.r hx) (hb.r hy) e⟩
 .obtain⟨x,hx,e⟩:=R hb.tight ha.tight h.symm y hy;exact⟨x,hx,kL (ha.r hx) (hb.r hy) e.symm⟩
termination_by sizeOf a+sizeOf b
decreasing_by
 .have:=Gm.jT hx;have:=Gm.jT hy;omega
 .have:=Gm.jT hx;have:=Gm.jT hy;omega
 .have:=Gm.jR hx;have:=Gm.jR hy;omega
 .have:=Gm.jR hx;have:=Gm.jR hy;omega
end Go.Proofs.YteknjeohbcgpdaaGreatDoor.bO
namespace Go.Proofs.YteknjeohbcgpdaaGreatDoor.bO
variable {i:Nat}
abbrev Nd:=List Nat × List Nat
abbrev dH:=List Nd
def WF(D:dH):Prop:=∀(i:Nat) (nd:Nd),D[i]?=some nd->(∀k,k∈nd.1->k<i)/\(∀k,k∈nd.2->k<i)
def Asc(l:List Nat):Prop:=l.Pairwise (· < ·)
structure Good(D:dH):Prop where
 wf:WF D
 Cf:∀nd,nd∈D->Asc nd.1/\Asc nd.2
 nodup:D.Nodup
def vf(D:dH):Nat->Nat->Gm
 | 0,_=>.mk [] []
 |f+1,i=>match D[i]? with
  |some nd=>.mk (nd.1.map (vf D f)) (nd.2.map (vf D f))
  |none=>.mk [] []
def vl(D:dH)(i:Nat):Gm:=vf D (i+1) i
theorem EY{D:dH}(h:WF D):∀f i,i<f->vf D f i=vl D i:=by
 intro f
 induction f using Nat.strongRecOn with
 |_ f ih=>
  intro i hi;cases f with
  |zero=>omega
  |succ f=>
   unfold vl;simp only[vf];cases hd:D[i]? with
   |none=>rfl
   |some nd=>
    obtain⟨h1,h2⟩:=h i nd hd;simp only;congr 1
    .refine df λk hk=>?_
     have hk':=h1 k hk;by_cases e:f=i
     .rw[e]
     .rw[ih f (by omega) k (by omega),ih i (by omega) k hk']
    .refine df λk hk=>?_
     have hk':=h2 k hk;by_cases e:f=i
     .rw[e]
     .rw[ih f (by omega) k (by omega),ih i (by omega) k hk']
theorem nT{D:dH}(h:WF D){nd:Nd}(hd:D[i]?=some nd):vl D i=.mk (nd.1.map (vl D)) (nd.2.map (vl D)):=by
 obtain⟨h1,h2⟩:=h i nd hd;unfold vl;rw[vf,hd];simp only;congr 1
 .exact df λk hk=>EY h i k (h1 k hk)
 .exact df λk hk=>EY h i k (h2 k hk)
theorem ow{D:dH}(h:WF D){nd:Nd}(hd:D[i]?=some nd):(vl D i).l=nd.1.map (vl D):=by rw[nT h hd];rfl
theorem ou{D:dH}(h:WF D){nd:Nd}(hd:D[i]?=some nd):(vl D i).r=nd.2.map (vl D):=by rw[nT h hd];rfl
theorem Gv{D:dH}(hd:D[i]?=none):vl D i=.mk [] []:=by unfold vl;rw[vf,hd]
theorem getElem?_append_some{α:Type}{D E:List α}{x:α}(h:D[i]?=some x):(D++E)[i]?=some x:=by
 have:=(cK.1 h).1;rw[dN this];exact h
theorem ik{D E:dH}(h:WF D)(h':WF (D++E)):∀i,i<D.length->vl (D++E) i=vl D i:=by
 intro i
 induction i using Nat.strongRecOn with
 |_ i ih=>
  intro hi;have hd:D[i]?=some D[i]:=aa hi;obtain⟨h1,h2⟩:=h i _ hd;rw[nT h hd,nT h' (getElem?_append_some hd)];congr 1
  .exact df λk hk=>ih k (h1 k hk) (by have:=h1 k hk;omega)
  .exact df λk hk=>ih k (h2 k hk) (by have:=h2 k hk;omega)
theorem WF.nil:WF []:=by intro i nd h;simp at h
theorem WF.snoc{D:dH}(h:WF D){nd:Nd}(h1:∀k,k∈nd.1->k<D.length)(h2:∀k,k∈nd.2->k<D.length):WF (D++[nd]):=by
 intro i x hx;by_cases hi:i<D.length
 .rw[dN hi]at hx;exact h i x hx
 .rw[dW (by omega)]at hx
  have:i-D.length=0:=by
   have:=(cK.1 hx).1;simp at this;omega
  rw[this]at hx;simp at hx;subst hx;have e:i=D.length:=by omega
  subst e;exact⟨h1,h2⟩
theorem Good.nil:Good []:=⟨WF.nil,by simp,List.nodup_nil⟩
theorem Good.snoc{D:dH}(h:Good D){nd:Nd}(h1:∀k,k∈nd.1->k<D.length)(h2:∀k,k∈nd.2->k<D.length)(a1:Asc nd.1)(a2:Asc nd.2)(hn:nd ∉ D):Good (D++[nd]):=by
 refine⟨h.wf.snoc h1 h2,?_,?_⟩
 .intro x hx
  simp at hx;rcases hx with hx|rfl
  .exact h.Cf x hx
  .exact⟨a1,a2⟩
 .rw[l5]
  exact⟨h.nodup,by simp,by intro a ha b hb;simp at hb;subst hb;intro e;subst e;exact hn ha⟩
theorem ru{a b:List Nat}(ha:Asc a)(hb:Asc b)(h:∀x,x∈a↔x∈b):a=b:=by
 induction a generalizing b with
 |nil=>cases b with
  |nil=>rfl
  |cons y b=>exact absurd ((h y).2 (by simp)) (by simp)
 |cons x a ih=>
  cases b with
  |nil=>exact absurd ((h x).1 (by simp)) (by simp)
  |cons y b=>
   unfold Asc at ha hb;rw[ql]at ha hb;have e:x=y:=by
    have p:=(h x).1 (by simp);have q:=(h y).2 (by simp);simp at p q;rcases p with p|p
    .exact p
    .rcases q with q|q
     .exact q.symm
     .have:=ha.1 y q;have:=hb.1 x p;omega
   subst e;congr 1;refine ih ha.2 hb.2 λz=>⟨λhz=>?_,λhz=>?_⟩
   .have:=(h z).1 (by simp[hz])
    simp at this;rcases this with rfl|t
    .exact absurd (ha.1 z hz) (by omega)
    .exact t
   .have:=(h z).2 (by simp[hz])
    simp at this;rcases this with rfl|t
    .exact absurd (hb.1 z hz) (by omega)
    .exact t
theorem mO{D:dH}(h:Good D):∀i j,i<D.length->j<D.length->Same (vl D i) (vl D j)->i=j:=by
 have main:∀n i j,i<n->i<D.length->j<D.length->Same (vl D i) (vl D j)->i=j:=by
  intro n
  induction n with
  |zero=>intro i j h0;omega
  |succ n ih=>
   intro i j hn hi hj s;have di:D[i]?=some D[i]:=aa hi;have dj:D[j]?=some D[j]:=aa hj;obtain⟨wi1,wi2⟩:=h.wf i _ di;obtain⟨wj1,wj2⟩:=h.wf j _ dj;rw[same_iff,ow h.wf di,ow h.wf dj,ou h.wf di,ou h.wf dj]at s;obtain⟨s1,s2,s3,s4⟩:=s;have e:D[i]=D[j]:=by
    have e1:(D[i]).1=(D[j]).1:=by
     refine ru (h.Cf _ (ai hi)).1 (h.Cf _ (ai hj)).1 λx=>⟨λhx=>?_,λhx=>?_⟩
     .obtain⟨y,hy,t⟩:=s1 _ (bE hx)
      obtain⟨k,hk,rfl⟩:=aH.1 hy;have:=wi1 x hx;have:=wj1 k hk;rw[ih x k (by omega) (by omega) (by omega) t];exact hk
     .obtain⟨y,hy,t⟩:=s2 _ (bE hx)
      obtain⟨k,hk,rfl⟩:=aH.1 hy;have:=wi1 k hk;have:=wj1 x hx;rw[<-ih k x (by omega) (by omega) (by omega) t];exact hk
    have e2:(D[i]).2=(D[j]).2:=by
     refine ru (h.Cf _ (ai hi)).2 (h.Cf _ (ai hj)).2 λx=>⟨λhx=>?_,λhx=>?_⟩
     .obtain⟨y,hy,t⟩:=s3 _ (bE hx)
      obtain⟨k,hk,rfl⟩:=aH.1 hy;have:=wi2 x hx;have:=wj2 k hk;rw[ih x k (by omega) (by omega) (by omega) t];exact hk
     .obtain⟨y,hy,t⟩:=s4 _ (bE hx)
      obtain⟨k,hk,rfl⟩:=aH.1 hy;have:=wi2 k hk;have:=wj2 x hx;rw[<-ih k x (by omega) (by omega) (by omega) t];exact hk
    exact Prod.ext e1 e2
   exact(List.getElem_inj h.nodup).1 e
 intro i j hi hj s;exact main (i+1) i j (by omega) hi hj s
end Go.Proofs.YteknjeohbcgpdaaGreatDoor.bO
namespace Go.Proofs.YteknjeohbcgpdaaGreatDoor.bO
variable {g x:Gm} {a b:List Nat} {D E F:dH} {i j k:Nat}
def born(g:Gm):Nat:=
 max (g.l.attach.foldr (λx m=>max (born x.1+1) m) 0) (g.r.attach.foldr (λx m=>max (born x.1+1) m) 0)
termination_by sizeOf g
decreasing_by
 .exact Gm.jT x.2
 .exact Gm.jR x.2
theorem zQ{α:Type}(f:α->Nat)(l:List α)(n:Nat):l.foldr (λx m=>max (f x+1) m) 0<=n↔∀x,x∈l->f x<n:=by
 induction l with
 |nil=>simp
 |cons a l ih=>simp only[List.foldr_cons,Nat.max_le,eT,ih];constructor
               .rintro⟨h1,h2⟩ x (rfl|h)
                .omega
                .exact h2 x h
               .intro h;exact⟨h a (.inl rfl),λx hx=>h x (.inr hx)⟩
theorem q9(g:Gm)(n:Nat):born g<=n↔(∀x,x∈g.l->born x<n)/\(∀x,x∈g.r->born x<n):=by
 rw[born,Nat.max_le,zQ (λx:{x // x∈g.l}=>born x.1),zQ (λx:{x // x∈g.r}=>born x.1)];constructor
 .rintro⟨h1,h2⟩;exact⟨λx hx=>h1 ⟨x,hx⟩ (by simp),λx hx=>h2 ⟨x,hx⟩ (by simp)⟩
 .rintro⟨h1,h2⟩;exact⟨λx _=>h1 x.1 x.2,λx _=>h2 x.1 x.2⟩
theorem Ij(h:x∈g.l):born x<born g:=((q9 g _).1 (ay _)).1 x h
theorem Ii(h:x∈g.r):born x<born g:=((q9 g _).1 (ay _)).2 x h
theorem lQ{a b:Gm}(h:Same a b):born a=born b:=by
 have h':=h;rw[same_iff]at h';obtain⟨h1,h2,h3,h4⟩:=h';apply Nat.le_antisymm
 .rw[q9]
  refine⟨λx hx=>?_,λx hx=>?_⟩
  .obtain⟨y,hy,s⟩:=h1 x hx;rw[lQ s];exact Ij hy
  .obtain⟨y,hy,s⟩:=h3 x hx;rw[lQ s];exact Ii hy
 .rw[q9]
  refine⟨λy hy=>?_,λy hy=>?_⟩
  .obtain⟨x,hx,s⟩:=h2 y hy;rw[<-lQ s];exact Ij hx
  .obtain⟨x,hx,s⟩:=h4 y hy;rw[<-lQ s];exact Ii hx
termination_by sizeOf a+sizeOf b
decreasing_by
 .have:=Gm.jT hx;have:=Gm.jT hy;omega
 .have:=Gm.jR hx;have:=Gm.jR hy;omega
 .have:=Gm.jT hx;have:=Gm.jT hy;omega
 .have:=Gm.jR hx;have:=Gm.jR hy;omega
def cl:List Nat->List Nat->Int
 |[],[]=>0
 |[],_ :: _=>-1
 |_ :: _,[]=>1
 |a :: l,b :: m=>if a<b then -1 else if b<a then 1 else cl l m
theorem Zz(a:List Nat):cl a a=0:=by induction a with
 |nil=>rfl
 |cons x a ih=>simp[cl,ih]
theorem Wh(a b:List Nat):cl b a=- cl a b:=by
 induction a generalizing b with
 |nil=>cases b <;> simp[cl]
 |cons x a ih=>
  cases b with
  |nil=>simp[cl]
  |cons y b=>
   simp only[cl];by_cases h1:x<y
   .rw[if_neg (by omega),if_pos h1,if_pos h1];rfl
   .by_cases h2:y<x
    .rw[if_pos h2,if_neg h1,if_pos h2]
    .rw[if_neg h2,if_neg h1,if_neg h1,if_neg h2];exact ih b
theorem CJ(h:cl a b=0):a=b:=by
 induction a generalizing b with
 |nil=>cases b with
  |nil=>rfl
  |cons y b=>simp[cl]at h
 |cons x a ih=>
  cases b with
  |nil=>simp[cl]at h
  |cons y b=>
   simp only[cl]at h;split at h
   .omega
   .split at h
    .omega
    .rw[ih h,show x=y by omega]
theorem KM{c:List Nat}(h:cl a b<0)(k:cl b c<0):cl a c<0:=by
 induction a generalizing b c with
 |nil=>
  cases b with
  |nil=>simp[cl]at h
  |cons y b=>
   cases c with
   |nil=>simp[cl]at k
   |cons z c=>simp[cl]
 |cons x a ih=>
  cases b with
  |nil=>simp[cl]at h
  |cons y b=>
   cases c with
   |nil=>simp[cl]at k
   |cons z c=>
    simp only[cl]at h k ⊢;split at h <;> split at k <;> try(split at h <;> try omega)<;> try(split at k <;> try omega)
    all_goals first
     |(rw[if_pos (by omega)];omega)
     |(rename_i h1 h2;rw[if_neg (by omega),if_neg (by omega)];exact ih h k)
     |(split at k <;> first|omega|(rw[if_pos (by omega)];omega)|(rw[if_neg (by omega),if_neg (by omega)];exact ih h k))
def nc(a b:Nd):Int:=if cl a.1 b.1≠0 then cl a.1 b.1 else cl a.2 b.2
theorem GV(a:Nd):nc a a=0:=by simp[nc,Zz]
theorem zl{a b:Nd}(h:nc a b=0):a=b:=by
 unfold nc at h;split at h
 .contradiction
 .rename_i h1;exact Prod.ext (CJ (by simpa using h1)) (CJ h)
theorem Aq(a b:Nd):nc b a=- nc a b:=by
 unfold nc;rw[Wh a.1 b.1,Wh a.2 b.2];by_cases h:cl a.1 b.1=0
 .simp[h]
 .rw[if_pos (by omega),if_pos h]
theorem ve{a b c:Nd}(h:nc a b<0)(k:nc b c<0):nc a c<0:=by
 unfold nc at *;by_cases h1:cl a.1 b.1=0
 .have e:=CJ h1
  rw[if_neg (by simpa using h1)]at h;rw[e];by_cases h2:cl b.1 c.1=0
  .rw[if_neg (by simpa using h2)]at k ⊢;exact KM h k
  .rw[if_pos h2]at k ⊢;exact k
 .rw[if_pos h1]at h
  by_cases h2:cl b.1 c.1=0
  .have e:=CJ h2
   rw[<-e,if_pos h1];exact h
  .rw[if_pos h2]at k
   have:=KM h k;rw[if_pos (by omega)];exact this
def Ahead(D:dH)(i j:Nat):Prop:=
 born (vl D i)<born (vl D j)\/born (vl D i)=born (vl D j)/\nc (D.getD i ([],[])) (D.getD j ([],[]))<0
inductive Reach(D:dH)(i:Nat):Nat->Prop
 |here:Reach D i i
 |left {j k:Nat} {nd:Nd} (h:Reach D i j) (hd:D[j]?=some nd) (hk:k∈nd.1):Reach D i k
 |right {j k:Nat} {nd:Nd} (h:Reach D i j) (hd:D[j]?=some nd) (hk:k∈nd.2):Reach D i k
theorem ny(h:WF D):∀i,born (vl D i)<=i:=by
 intro i
 induction i using Nat.strongRecOn with
 |_ i ih=>
  cases hd:D[i]? with
  |none=>rw[Gv hd,q9];simp[Gm.l,Gm.r]
  |some nd=>
   obtain⟨h1,h2⟩:=h i nd hd;rw[q9,ow h hd,ou h hd];refine⟨λx hx=>?_,λx hx=>?_⟩
   .obtain⟨k,hk,rfl⟩:=aH.1 hx;have:=ih k (h1 k hk);have:=h1 k hk;omega
   .obtain⟨k,hk,rfl⟩:=aH.1 hx;have:=ih k (h2 k hk);have:=h2 k hk;omega
structure fC(F:dH):Prop where
 good:Good F
 ne:F≠[]
 sorted:∀i j,i<j->j<F.length->Ahead F i j
 reach:∀i,i<F.length->Reach F (F.length-1) i
def dZ(F:dH):Gm:=vl F (F.length-1)
theorem mP(h:WF D)(hr:Reach D i j):j<=i:=by
 induction hr with
 |here=>omega
 |left _ hd hk ih=>have:=(h _ _ hd).1 _ hk;omega
 |right _ hd hk ih=>have:=(h _ _ hd).2 _ hk;omega
theorem tK(hD:Good D)(hE:Good E){a:Nat}(ha:a<E.length)(s:Same (vl D i) (vl E a))(hr:Reach D i j):
 ∃b,b<E.length/\Reach E a b/\Same (vl D j) (vl E b):=by
 induction hr with
 |here=>exact⟨a,ha,.here,s⟩
 |left hr hd hk ih=>
  obtain⟨b,hb,rb,sb⟩:=ih;have db:E[b]?=some E[b]:=aa hb;rw[same_iff,ow hD.wf hd,ow hE.wf db]at sb;obtain⟨y,hy,t⟩:=sb.1 _ (bE hk);obtain⟨m,hm,rfl⟩:=aH.1 hy;exact⟨m,by have:=(hE.wf b _ db).1 m hm;omega,.left rb db hm,t⟩
 |right hr hd hk ih=>
  obtain⟨b,hb,rb,sb⟩:=ih;have db:E[b]?=some E[b]:=aa hb;rw[same_iff,ou hD.wf hd,ou hE.wf db]at sb;obtain⟨y,hy,t⟩:=sb.2.2.1 _ (bE hk);obtain⟨m,hm,rfl⟩:=aH.1 hy;exact⟨m,by have:=(hE.wf b _ db).2 m hm;omega,.right rb db hm,t⟩
theorem Gu(hD:WF D)(hE:WF E)(h:D.take k=E.take k):∀i,i<k->i<D.length->vl D i=vl E i:=by
 intro i
 induction i using Nat.strongRecOn with
 |_ i ih=>
  intro hik hi;have hd:D[i]?=some D[i]:=aa hi;have he:E[i]?=some D[i]:=by
   have:=congrArg (λl=>l[i]?) h;simp only[il,if_pos hik]at this;rw[<-this];exact hd
  obtain⟨h1,h2⟩:=hD i _ hd;rw[nT hD hd,nT hE he];congr 1
  .exact df λm hm=>ih m (h1 m hm) (by have:=h1 m hm;omega) (by have:=h1 m hm;omega)
  .exact df λm hm=>ih m (h2 m hm) (by have:=h2 m hm;omega) (by have:=h2 m hm;omega)
theorem NN(hF:fC F)(h:i<=j)(hj:j<F.length):born (vl F i)<=born (vl F j):=by
 rcases fI i j with h1|h1
 .rcases hF.sorted i j h1 hj with h2|h2 <;> omega
 .rw[show i=j by omega];exact ay _
theorem qX(h:i<D.length):D.getD i ([],[])=D[i]:=by simp[List.getD,h]
theorem Cv(hF:fC F)(hE:fC E)(hs:Same (dZ F) (dZ E))(hk:F.take k=E.take k)(hn:k<F.length):
 ∃j,∃hj:j<E.length,k<=j/\Same (vl F k) (vl E j)/\E[j]=F[k]:=by
 have nF:0<F.length:=by omega
 have nE:0<E.length:=kQ.2 hE.ne;obtain⟨j,hj,_,sj⟩:=tK hF.good hE.good (by omega:E.length-1<E.length) hs (hF.reach k hn);have hkj:k<=j:=by
  rcases fI j k with h|h
  .have e:=Gu hF.good.wf hE.good.wf hk j h (by omega)
   rw[<-e]at sj;have:=mO hF.good k j hn (by omega) sj;omega
  .exact h
 refine⟨j,hj,hkj,sj,?_⟩;have dF:F[k]?=some F[k]:=aa hn;have dE:E[j]?=some E[j]:=aa hj;have bj:=lQ sj;have low:∀o,o<E.length->born (vl E o)<born (vl E j)->o<k:=by
  intro o ho hb;obtain⟨m,hm,_,sm⟩:=tK hE.good hF.good (by omega:F.length-1<F.length) (jH hs) (hE.reach o ho);have bm:=lQ sm;have hmk:m<k:=by
   rcases fI m k with h|h
   .exact h
   .have:=NN hF h hm;omega
  have e:=Gu hF.good.wf hE.good.wf hk m hmk hm;rw[e]at sm;have hmE:m<E.length:=by
   have:=congrArg List.length hk;simp at this;omega
  have:=mO hE.good o m ho hmE sm;omega
 have wF:=hF.good.wf k _ dF;have wE:=hE.good.wf j _ dE;have s':=sj;rw[same_iff,ow hF.good.wf dF,ow hE.good.wf dE,ou hF.good.wf dF,ou hE.good.wf dE]at s';obtain⟨s1,s2,s3,s4⟩:=s';have key:∀x y,x<k->x<F.length->y<E.length->born (vl E y)<born (vl E j)->Same (vl F x) (vl E y)->x=y:=by
  intro x y hx hxF hy hb t;have hyk:=low y hy hb;have hyF:y<F.length:=by omega
  rw[<-Gu hF.good.wf hE.good.wf hk y hyk hyF]at t;exact mO hF.good x y hxF hyF t
 have bl:∀y,y∈(E[j]).1->born (vl E y)<born (vl E j):=λy hy=>Ij (by rw[ow hE.good.wf dE];exact bE hy)
 have br:∀y,y∈(E[j]).2->born (vl E y)<born (vl E j):=λy hy=>Ii (by rw[ou hE.good.wf dE];exact bE hy)
 refine Prod.ext ?_ ?_
 .refine ru (hE.good.Cf _ (ai hj)).1 (hF.good.Cf _ (ai hn)).1 λy=>⟨λhy=>?_,λhx=>?_⟩
  .obtain⟨x,hx,t⟩:=s2 _ (bE hy)
   obtain⟨x,hx2,rfl⟩:=aH.1 hx;have:=wF.1 x hx2;have:=wE.1 y hy;rw[<-key x y (by omega) (by omega) (by omega) (bl y hy) t];exact hx2
  .obtain⟨z,hz,t⟩:=s1 _ (bE hx)
   obtain⟨z,hz2,rfl⟩:=aH.1 hz;have:=wF.1 y hx;have:=wE.1 z hz2;rw[key y z (by omega) (by omega) (by omega) (bl z hz2) t];exact hz2
 .refine ru (hE.good.Cf _ (ai hj)).2 (hF.good.Cf _ (ai hn)).2 λy=>⟨λhy=>?_,λhx=>?_⟩
  .obtain⟨x,hx,t⟩:=s4 _ (bE hy)
   obtain⟨x,hx2,rfl⟩:=aH.1 hx;have:=wF.2 x hx2;have:=wE.2 y hy;rw[<-key x y (by omega) (by omega) (by omega) (br y hy) t];exact hx2
  .obtain⟨z,hz,t⟩:=s3 _ (bE hx)
   obtain⟨z,hz2,rfl⟩:=aH.1 hz;have:=wF.2 y hx;have:=wE.2 z hz2;rw[key y z (by omega) (by omega) (by omega) (br z hz2) t];exact hz2
theorem step_eq(hF:fC F)(hE:fC E)(hs:Same (dZ F) (dZ E))(hk:F.take k=E.take k)(hn:k<F.length)(hm:k<E.length):F[k]=E[k]:=by
 obtain⟨j,hj,hkj,sj,ej⟩:=Cv hF hE hs hk hn;obtain⟨i,hi,hki,si,ei⟩:=Cv hE hF (jH hs) hk.symm hm;rcases Nat.eq_or_lt_of_le hkj with h|h
 .subst h;exact ej.symm
 .rcases Nat.eq_or_lt_of_le hki with h'|h'
  .subst h';exact ei
  .have b1:=lQ sj
   have b2:=lQ si;have a1:=hE.sorted k j h hj;have a2:=hF.sorted k i h' hi;unfold Ahead at a1 a2;rw[qX hm,qX hj,ej]at a1;rw[qX hn,qX hi,ei]at a2;rcases a1 with a1|⟨a1,c1⟩
   .rcases a2 with a2|⟨a2,c2⟩ <;> omega
   .rcases a2 with a2|⟨a2,c2⟩
    .omega
    .have:=Aq F[k] E[k]
     omega
theorem BO(hF:fC F)(hE:fC E)(hs:Same (dZ F) (dZ E)):F=E:=by
 have main:∀k,k<=F.length->k<=E.length/\F.take k=E.take k:=by
  intro k
  induction k with
  |zero=>intro _;exact⟨aJ _,by simp⟩
  |succ k ih=>
   intro hk;obtain⟨h1,h2⟩:=ih (by omega);obtain⟨j,hj,hkj,_,_⟩:=Cv hF hE hs h2 (by omega);refine⟨by omega,?_⟩;rw[bg (by omega),bg (by omega),h2,step_eq hF hE hs h2 (by omega) (by omega)]
 obtain⟨h1,h2⟩:=main F.length (ay _);rcases Nat.eq_or_lt_of_le h1 with h|h
 .rw[dB,h,dB]at h2;exact h2
 .obtain⟨j,hj,hkj,_,_⟩:=Cv hE hF (jH hs) h2.symm h
  omega
end Go.Proofs.YteknjeohbcgpdaaGreatDoor.bO
namespace Go.Proofs.YteknjeohbcgpdaaGreatDoor.bO
variable {g h k x:Gm}
theorem Fy(SL:Gm->Prop)
 (cover:∀l,l∈g.l->∃i,SL i/\Ge i l)
 (step:∀i,SL i->(∃x,x∈h.l/\Ge x i)\/(∃k,k∈i.r/\Ge g k/\∀x,x∈k.l->SL x))
 (Ta:∀r,r∈h.r->¬Ge g r):Ge h g:=by
 have main:∀n i,sizeOf i<n->SL i->¬Ge i h:=by
  intro n
  induction n with
  |zero=>intro i h0;omega
  |succ n ih=>
   intro i hn hi hg;rcases step i hi with⟨x,hx,k⟩|⟨k,hk,hgk,hc⟩
   .exact nY hx (dQ _ _ _ k hg)
   .refine((iD i h).1 hg).1 k hk ?_
    rw[iD];refine⟨λr hr c=>Ta r hr (dQ _ _ _ hgk c),λx hx c=>?_⟩;have h1:=Gm.jR hk;have h2:=Gm.jT hx;exact ih x (by omega) (hc x hx) c
 rw[iD];refine⟨Ta,λl hl c=>?_⟩;obtain⟨i,hi,k⟩:=cover l hl;exact main _ i (lu _) hi (dQ _ _ _ k c)
theorem Fx(SR:Gm->Prop)
 (cover:∀r,r∈g.r->∃i,SR i/\Ge r i)
 (step:∀i,SR i->(∃x,x∈h.r/\Ge i x)\/(∃k,k∈i.l/\Ge k g/\∀x,x∈k.r->SR x))
 (Tc:∀l,l∈h.l->¬Ge l g):Ge g h:=by
 have main:∀n i,sizeOf i<n->SR i->¬Ge h i:=by
  intro n
  induction n with
  |zero=>intro i h0;omega
  |succ n ih=>
   intro i hn hi hg;rcases step i hi with⟨x,hx,k⟩|⟨k,hk,hgk,hc⟩
   .exact nX hx (dQ _ _ _ hg k)
   .refine((iD h i).1 hg).2 k hk ?_
    rw[iD];refine⟨λx hx c=>?_,λl hl c=>Tc l hl (dQ _ _ _ c hgk)⟩;have h1:=Gm.jT hk;have h2:=Gm.jR hx;exact ih x (by omega) (hc x hx) c
 rw[iD];refine⟨λr hr c=>?_,Tc⟩;obtain⟨i,hi,k⟩:=cover r hr;exact main _ i (lu _) hi (dQ _ _ _ c k)
theorem Oo(hk:Ge g k)(hx:x∈k.l):¬Ge x g:=λc=>nY hx (dQ _ _ _ c hk)
theorem Om(hk:Ge k g)(hx:x∈k.r):¬Ge g x:=λc=>nX hx (dQ _ _ _ hk c)
theorem stays{α:Type}(ge:α->α->Prop)(refl:∀a,ge a a)(trans:∀a b c,ge a b->ge b c->ge a c)
 (l:List α) (ZN:∀a b,a∈l->b∈l->ge a b->ge b a->a=b):
 ∀a,a∈l->∃b,b∈l/\ge b a/\∀c,c∈l->ge c b->c=b:=by
 classical
 have main:∀n a,a∈l->(l.filter (λc=>decide (ge c a))).length<=n->∃b,b∈l/\ge b a/\∀c,c∈l->ge c b->c=b:=by
  intro n
  induction n with
  |zero=>
   intro a ha hn;have:a∈l.filter (λc=>decide (ge c a)):=(by simp[ha,refl]);have:=List.length_pos_of_mem this;omega
  |succ n ih=>
   intro a ha hn;by_cases h:∃c,c∈l/\ge c a/\c≠a
   .obtain⟨c,hc,XP,hne⟩:=h
    have hlt:(l.filter (λd=>decide (ge d c))).length<(l.filter (λd=>decide (ge d a))).length:=by
     have e:l.filter (λd=>decide (ge d c))=(l.filter (λd=>decide (ge d a))).filter (λd=>decide (ge d c)):=by
      rw[List.filter_filter];refine List.filter_congr λd _=>?_
      by_cases h1:ge d c
      .simp[h1,trans _ _ _ h1 XP]
      .simp[h1]
     rw[e];have hm:a∈l.filter (λd=>decide (ge d a)):=(by simp[ha,refl]);have hna:¬ge a c:=λk=>hne (ZN c a hc ha XP k)
     refine Nat.lt_of_le_of_ne (rz _ _) λe2=>?_
     have:=(List.filter_eq_self.1 (List.filter_sublist.eq_of_length e2)) a hm;simp[hna]at this
    obtain⟨b,hb,hbc,hmax⟩:=ih c hc (by omega);exact⟨b,hb,trans _ _ _ hbc XP,hmax⟩
   .exact⟨a,ha,refl a,λc hc XP=>uN λhne=>h ⟨c,hc,XP,hne⟩⟩
 intro a ha;exact main _ a ha (ay _)
end Go.Proofs.YteknjeohbcgpdaaGreatDoor.bO
namespace Go.Proofs.YteknjeohbcgpdaaGreatDoor.bO
variable {a b x:Gm}
def plus:Gm->Gm->Gm
 |a,b=>.mk ((a.l.attach.map λx=>plus x.1 b)++b.l.attach.map λy=>plus a y.1) ((a.r.attach.map λx=>plus x.1 b)++b.r.attach.map λy=>plus a y.1)
termination_by a b=>sizeOf a+sizeOf b
decreasing_by
 .have:=Gm.jT x.2;omega
 .have:=Gm.jT y.2;omega
 .have:=Gm.jR x.2;omega
 .have:=Gm.jR y.2;omega
theorem GJ(a b:Gm):plus a b=.mk ((a.l.map λx=>plus x b)++b.l.map λy=>plus a y) ((a.r.map λx=>plus x b)++b.r.map λy=>plus a y):=by
 rw[plus];simp
theorem kr:x∈(plus a b).l↔(∃y,y∈a.l/\plus y b=x)\/(∃y,y∈b.l/\plus a y=x):=by
 rw[GJ];simp[Gm.l]
theorem ko:x∈(plus a b).r↔(∃y,y∈a.r/\plus y b=x)\/(∃y,y∈b.r/\plus a y=x):=by
 rw[GJ];simp[Gm.r]
theorem mq{a a' b b':Gm}(h:Same a a')(k:Same b b'):Same (plus a b) (plus a' b'):=by
 rw[same_iff];obtain⟨h1,h2,h3,h4⟩:=(same_iff _ _).1 h;obtain⟨k1,k2,k3,k4⟩:=(same_iff _ _).1 k;refine⟨λx hx=>?_,λy hy=>?_,λx hx=>?_,λy hy=>?_⟩
 .rcases kr.1 hx with⟨z,hz,rfl⟩|⟨z,hz,rfl⟩
  .obtain⟨u,hu,s⟩:=h1 z hz;exact⟨_,kr.2 (.inl ⟨u,hu,rfl⟩),mq s k⟩
  .obtain⟨u,hu,s⟩:=k1 z hz;exact⟨_,kr.2 (.inr ⟨u,hu,rfl⟩),mq h s⟩
 .rcases kr.1 hy with⟨z,hz,rfl⟩|⟨z,hz,rfl⟩
  .obtain⟨u,hu,s⟩:=h2 z hz;exact⟨_,kr.2 (.inl ⟨u,hu,rfl⟩),mq s k⟩
  .obtain⟨u,hu,s⟩:=k2 z hz;exact⟨_,kr.2 (.inr ⟨u,hu,rfl⟩),mq h s⟩
 .rcases ko.1 hx with⟨z,hz,rfl⟩|⟨z,hz,rfl⟩
  .obtain⟨u,hu,s⟩:=h3 z hz;exact⟨_,ko.2 (.inl ⟨u,hu,rfl⟩),mq s k⟩
  .obtain⟨u,hu,s⟩:=k3 z hz;exact⟨_,ko.2 (.inr ⟨u,hu,rfl⟩),mq h s⟩
 .rcases ko.1 hy with⟨z,hz,rfl⟩|⟨z,hz,rfl⟩
  .obtain⟨u,hu,s⟩:=h4 z hz;exact⟨_,ko.2 (.inl ⟨u,hu,rfl⟩),mq s k⟩
  .obtain⟨u,hu,s⟩:=k4 z hz;exact⟨_,ko.2 (.inr ⟨u,hu,rfl⟩),mq h s⟩
termination_by sizeOf a+sizeOf b
decreasing_by
 all_goals first
  |(have:=Gm.jT hz;omega)
  |(have:=Gm.jT hu;omega)
  |(have:=Gm.jR hz;omega)
  |(have:=Gm.jR hu;omega)
theorem lS(a b:Gm):Same (plus a b) (plus b a):=by
 rw[same_iff];refine⟨λx hx=>?_,λy hy=>?_,λx hx=>?_,λy hy=>?_⟩
 .rcases kr.1 hx with⟨z,hz,rfl⟩|⟨z,hz,rfl⟩
  .exact⟨_,kr.2 (.inr ⟨z,hz,rfl⟩),lS _ _⟩
  .exact⟨_,kr.2 (.inl ⟨z,hz,rfl⟩),lS _ _⟩
 .rcases kr.1 hy with⟨z,hz,rfl⟩|⟨z,hz,rfl⟩
  .exact⟨_,kr.2 (.inr ⟨z,hz,rfl⟩),lS _ _⟩
  .exact⟨_,kr.2 (.inl ⟨z,hz,rfl⟩),lS _ _⟩
 .rcases ko.1 hx with⟨z,hz,rfl⟩|⟨z,hz,rfl⟩
  .exact⟨_,ko.2 (.inr ⟨z,hz,rfl⟩),lS _ _⟩
  .exact⟨_,ko.2 (.inl ⟨z,hz,rfl⟩),lS _ _⟩
 .rcases ko.1 hy with⟨z,hz,rfl⟩|⟨z,hz,rfl⟩
  .exact⟨_,ko.2 (.inr ⟨z,hz,rfl⟩),lS _ _⟩
  .exact⟨_,ko.2 (.inl ⟨z,hz,rfl⟩),lS _ _⟩
termination_by sizeOf a+sizeOf b
decreasing_by
 all_goals first
  |(have:=Gm.jT hz;omega)
  |(have:=Gm.jR hz;omega)
theorem qU(x y b:Gm):Ge (plus x b) (plus y b)↔Ge x y:=by
 constructor
 .intro h
  obtain⟨h1,h2⟩:=(iD _ _).1 h;rw[iD];exact⟨λr hr g=>h1 _ (ko.2 (.inl ⟨r,hr,rfl⟩)) ((qU y r b).2 g),λl hl g=>h2 _ (kr.2 (.inl ⟨l,hl,rfl⟩)) ((qU l x b).2 g)⟩
 .intro h
  obtain⟨h1,h2⟩:=(iD _ _).1 h;rw[iD];refine⟨λr hr g=>?_,λl hl g=>?_⟩
  .rcases ko.1 hr with⟨z,hz,rfl⟩|⟨z,hz,rfl⟩
   .exact h1 z hz ((qU y z b).1 g)
   .exact((iD _ _).1 g).1 _ (ko.2 (.inr ⟨z,hz,rfl⟩)) ((qU x y z).2 h)
  .rcases kr.1 hl with⟨z,hz,rfl⟩|⟨z,hz,rfl⟩
   .exact h2 z hz ((qU z x b).1 g)
   .exact((iD _ _).1 g).2 _ (kr.2 (.inr ⟨z,hz,rfl⟩)) ((qU x y z).2 h)
termination_by sizeOf x+sizeOf y+sizeOf b
decreasing_by
 all_goals first
  |(have:=Gm.jR hr;omega)
  |(have:=Gm.jT hl;omega)
  |(have:=Gm.jR hz;omega)
  |(have:=Gm.jT hz;omega)
theorem Di{a' b':Gm}(h:iO a a')(k:iO b b'):iO (plus a b) (plus a' b'):=by
 have p:∀{u v:Gm} (c:Gm),iO u v->iO (plus u c) (plus v c):=λc e=>⟨(qU _ _ c).2 e.1,(qU _ _ c).2 e.2⟩
 exact(p b h).trans ((lS a' b).eqv.trans ((p a' k).trans (lS b' a').eqv))
def I7:Gm:=.mk [] []
end Go.Proofs.YteknjeohbcgpdaaGreatDoor.bO
namespace Go.Proofs.YteknjeohbcgpdaaGreatDoor
open bO (dH Gm Canon iO fC dZ Same plus)
variable {F G:dH} {g:Gm}
def fO(F:dH)(g:Gm):Prop:=fC F/\∃c,Same (dZ F) c/\Canon c/\iO c g
theorem fO.eqv{F:dH}{g:Gm}(h:fO F g):iO (dZ F) g:=by
 obtain⟨_,c,h1,_,h2⟩:=h;exact h1.eqv.trans h2
theorem fO.to{g':Gm}(h:fO F g)(e:iO g g'):fO F g':=by
 obtain⟨i,c,h1,h2,h3⟩:=h;exact⟨i,c,h1,h2,h3.trans e⟩
theorem fO.unique(h:fO F g)(k:fO G g):F=G:=by
 obtain⟨i1,g1,s1,c1,e1⟩:=h;obtain⟨i2,g2,s2,c2,e2⟩:=k;exact bO.BO i1 i2 (bO.gU s1 (bO.gU (bO.kL c1 c2 (e1.trans e2.symm)) (bO.jH s2)))
theorem fO.sum{H F':dH}{a b:Gm}(hF:fO F a)(hG:fO G b)(hH:Same (dZ H) (plus (dZ F) (dZ G)))(i:fC F')(s:Same (dZ F') g)(c:Canon g)(e:iO g (dZ H)):fO F' (plus a b):=
 ⟨i,g,s,c,e.trans (hH.eqv.trans (bO.Di hF.eqv hG.eqv))⟩
end Go.Proofs.YteknjeohbcgpdaaGreatDoor