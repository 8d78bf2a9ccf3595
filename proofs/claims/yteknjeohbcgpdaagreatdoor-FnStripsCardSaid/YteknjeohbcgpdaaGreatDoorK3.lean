/-
  Plain law: what an option of a canonical game stands for; no condition. (4 texts.)
-/
import Derived.Test.YteknjeohbcgpdaaGreatDoorK0
namespace Go.Proofs.YteknjeohbcgpdaaGreatDoor.bz
inductive Gm where
 |mk (l r:List Gm)
def Gm.l:Gm->List Gm | .mk l _=>l
def Gm.r:Gm->List Gm | .mk _ r=>r
theorem Gm.kM{g x:Gm}(h:x∈g.l):sizeOf x<sizeOf g:=by
 cases g with
 |mk l r=>have:=List.sizeOf_lt_of_mem h;simp[Gm.l]at this ⊢;omega
theorem Gm.kL{g x:Gm}(h:x∈g.r):sizeOf x<sizeOf g:=by
 cases g with
 |mk l r=>have:=List.sizeOf_lt_of_mem h;simp[Gm.r]at this ⊢;omega
def Ge(a b:Gm):Prop:=
 (∀r,(h:r∈a.r)->¬Ge b r)/\(∀l,(h:l∈b.l)->¬Ge l a)
termination_by sizeOf a+sizeOf b
decreasing_by
 .have:=Gm.kL h;omega
 .have:=Gm.kM h;omega
theorem iU(a b:Gm):Ge a b↔(∀r,r∈a.r->¬Ge b r)/\(∀l,l∈b.l->¬Ge l a):=by
 rw[Ge]
theorem nk(a:Gm):Ge a a:=by
 rw[iU];refine⟨λr h g=>?_,λl h g=>?_⟩
 .exact((iU a r).1 g).1 r h (nk r)
 .exact((iU l a).1 g).2 l h (nk l)
termination_by sizeOf a
decreasing_by
 .exact Gm.kL h
 .exact Gm.kM h
theorem dW(a b c:Gm)(h:Ge a b)(k:Ge b c):Ge a c:=by
 rw[iU];refine⟨λr hr g=>?_,λl hl g=>?_⟩
 .exact((iU a b).1 h).1 r hr (dW b c r k g)
 .exact((iU b c).1 k).2 l hl (dW l a b g h)
termination_by sizeOf a+sizeOf b+sizeOf c
decreasing_by
 .have:=Gm.kL hr;omega
 .have:=Gm.kM hl;omega
def iK(a b:Gm):Prop:=Ge a b/\Ge b a
theorem iK.refl(a:Gm):iK a a:=⟨nk a,nk a⟩
theorem iK.symm{a b:Gm}(h:iK a b):iK b a:=⟨h.2,h.1⟩
theorem iK.trans{a b c:Gm}(h:iK a b)(k:iK b c):iK a c:=⟨dW _ _ _ h.1 k.1,dW _ _ _ k.2 h.2⟩
theorem iK.BH{a b c:Gm}(h:iK a b):Ge a c↔Ge b c:=⟨dW _ _ _ h.2,dW _ _ _ h.1⟩
theorem iK.yZ{a b c:Gm}(h:iK a b):Ge c a↔Ge c b:=⟨λg=>dW _ _ _ g h.1,λg=>dW _ _ _ g h.2⟩
theorem nV{a l:Gm}(h:l∈a.l):¬Ge l a:=((iU a a).1 (nk a)).2 l h
theorem nU{a r:Gm}(h:r∈a.r):¬Ge a r:=((iU a a).1 (nk a)).1 r h
def Same(a b:Gm):Prop:=
 (∀x,(h:x∈a.l)->∃y,∃(_:y∈b.l),Same x y)/\(∀y,(h:y∈b.l)->∃x,∃(_:x∈a.l),Same x y)/\
 (∀x,(h:x∈a.r)->∃y,∃(_:y∈b.r),Same x y)/\(∀y,(h:y∈b.r)->∃x,∃(_:x∈a.r),Same x y)
termination_by sizeOf a+sizeOf b
decreasing_by
 all_goals first
  |(rename_i h2;have:=Gm.kM h;have:=Gm.kM h2;omega)
  |(rename_i h2;have:=Gm.kL h;have:=Gm.kL h2;omega)
theorem same_iff(a b:Gm):Same a b↔
 (∀x,x∈a.l->∃y,y∈b.l/\Same x y)/\(∀y,y∈b.l->∃x,x∈a.l/\Same x y)/\
 (∀x,x∈a.r->∃y,y∈b.r/\Same x y)/\(∀y,y∈b.r->∃x,x∈a.r/\Same x y):=by
 rw[Same];simp only[exists_prop]
theorem jV(a:Gm):Same a a:=by
 rw[same_iff];exact⟨λx h=>⟨x,h,jV x⟩,λx h=>⟨x,h,jV x⟩,λx h=>⟨x,h,jV x⟩,λx h=>⟨x,h,jV x⟩⟩
termination_by sizeOf a
decreasing_by
 .exact Gm.kM h
 .exact Gm.kM h
 .exact Gm.kL h
 .exact Gm.kL h
theorem kJ{a b:Gm}(h:Same a b):Same b a:=by
 rw[same_iff]at h ⊢;obtain⟨h1,h2,h3,h4⟩:=h;refine⟨λy hy=>?_,λx hx=>?_,λy hy=>?_,λx hx=>?_⟩
 .obtain⟨x,hx,s⟩:=h2 y hy;exact⟨x,hx,kJ s⟩
 .obtain⟨y,hy,s⟩:=h1 x hx;exact⟨y,hy,kJ s⟩
 .obtain⟨x,hx,s⟩:=h4 y hy;exact⟨x,hx,kJ s⟩
 .obtain⟨y,hy,s⟩:=h3 x hx;exact⟨y,hy,kJ s⟩
termination_by sizeOf a+sizeOf b
decreasing_by
 .have:=Gm.kM hx;have:=Gm.kM hy;omega
 .have:=Gm.kM hx;have:=Gm.kM hy;omega
 .have:=Gm.kL hx;have:=Gm.kL hy;omega
 .have:=Gm.kL hx;have:=Gm.kL hy;omega
theorem ik{a b c:Gm}(h:Same a b)(k:Same b c):Same a c:=by
 rw[same_iff]at h k ⊢;obtain⟨h1,h2,h3,h4⟩:=h;obtain⟨k1,k2,k3,k4⟩:=k;refine⟨λx hx=>?_,λz hz=>?_,λx hx=>?_,λz hz=>?_⟩
 .obtain⟨y,hy,s⟩:=h1 x hx;obtain⟨z,hz,t⟩:=k1 y hy;exact⟨z,hz,ik s t⟩
 .obtain⟨y,hy,t⟩:=k2 z hz;obtain⟨x,hx,s⟩:=h2 y hy;exact⟨x,hx,ik s t⟩
 .obtain⟨y,hy,s⟩:=h3 x hx;obtain⟨z,hz,t⟩:=k3 y hy;exact⟨z,hz,ik s t⟩
 .obtain⟨y,hy,t⟩:=k4 z hz;obtain⟨x,hx,s⟩:=h4 y hy;exact⟨x,hx,ik s t⟩
termination_by sizeOf a+sizeOf b+sizeOf c
decreasing_by
 .have:=Gm.kM hx;have:=Gm.kM hy;have:=Gm.kM hz;omega
 .have:=Gm.kM hx;have:=Gm.kM hy;have:=Gm.kM hz;omega
 .have:=Gm.kL hx;have:=Gm.kL hy;have:=Gm.kL hz;omega
 .have:=Gm.kL hx;have:=Gm.kL hy;have:=Gm.kL hz;omega
theorem A8{a b:Gm}(hr:∀r,r∈a.r->(∃r',r'∈b.r/\Ge r r')\/(∃l,l∈r.l/\Ge l b))
 (hl:∀l,l∈b.l->(∃l',l'∈a.l/\Ge l' l)\/(∃r,r∈l.r/\Ge a r)):Ge a b:=by
 rw[iU];refine⟨λr h g=>?_,λl h g=>?_⟩
 .rcases hr r h with⟨r',h',k⟩|⟨l,h',k⟩
  .exact nU h' (dW _ _ _ g k)
  .exact((iU b r).1 g).2 l h' k
 .rcases hl l h with⟨l',h',k⟩|⟨r,h',k⟩
  .exact nV h' (dW _ _ _ k g)
  .exact((iU l a).1 g).1 r h' k
theorem Same.eqv{a b:Gm}(h:Same a b):iK a b:=by
 rw[same_iff]at h;obtain⟨h1,h2,h3,h4⟩:=h;constructor
 .refine A8 (λr hr=>?_) (λl hl=>?_)
  .obtain⟨y,hy,s⟩:=h3 r hr;exact .inl ⟨y,hy,(Same.eqv s).1⟩
  .obtain⟨x,hx,s⟩:=h2 l hl;exact .inl ⟨x,hx,(Same.eqv s).1⟩
 .refine A8 (λr hr=>?_) (λl hl=>?_)
  .obtain⟨x,hx,s⟩:=h4 r hr;exact .inl ⟨x,hx,(Same.eqv s).2⟩
  .obtain⟨y,hy,s⟩:=h1 l hl;exact .inl ⟨y,hy,(Same.eqv s).2⟩
termination_by sizeOf a+sizeOf b
decreasing_by
 .have:=Gm.kL hr;have:=Gm.kL hy;omega
 .have:=Gm.kM hl;have:=Gm.kM hx;omega
 .have:=Gm.kL hr;have:=Gm.kL hx;omega
 .have:=Gm.kM hl;have:=Gm.kM hy;omega
def Fh(a:Gm):Prop:=
 (∀x y,x∈a.l->y∈a.l->Ge x y->Same x y)/\(∀x y,x∈a.r->y∈a.r->Ge x y->Same x y)/\
 (∀x,x∈a.l->∀y,y∈x.r->¬Ge a y)/\(∀x,x∈a.r->∀y,y∈x.l->¬Ge y a)
inductive Canon:Gm->Prop
 |mk (a:Gm) (ht:Fh a) (hl:∀x,x∈a.l->Canon x) (hr:∀x,x∈a.r->Canon x):Canon a
theorem Canon.tight{a:Gm}(h:Canon a):Fh a:=by cases h;assumption
theorem Canon.l{a x:Gm}(h:Canon a)(hx:x∈a.l):Canon x:=by cases h with|mk _ _ hl _=>exact hl x hx
theorem Canon.r{a x:Gm}(h:Canon a)(hx:x∈a.r):Canon x:=by cases h with|mk _ _ _ hr=>exact hr x hx
theorem qP{a b:Gm}(h:¬Ge a b):(∃r,r∈a.r/\Ge b r)\/(∃l,l∈b.l/\Ge l a):=by
 rw[iU]at h;by_cases h1:∃r,r∈a.r/\Ge b r
 .exact .inl h1
 .refine .inr (Classical.byContradiction λh2=>h ⟨λr hr g=>h1 ⟨r,hr,g⟩,λl hl g=>h2 ⟨l,hl,g⟩⟩)
theorem kQ{a b:Gm}(ha:Canon a)(hb:Canon b)(h:iK a b):Same a b:=by
 have L:∀{a b:Gm},Fh a->Fh b->iK a b->∀x,x∈a.l->∃y,y∈b.l/\iK x y:=by
  intro a b ta tb h x hx;have n1:¬Ge x b:=λg=>nV hx (dW _ _ _ g h.2)
  rcases qP n1 with⟨r,hr,g⟩|⟨y,hy,g⟩
  .exact absurd (dW _ _ _ h.1 g) (ta.2.2.1 x hx r hr)
  .have n2:¬Ge y a:=λk=>nV hy (dW _ _ _ k h.1)
   rcases qP n2 with⟨r,hr,g2⟩|⟨z,hz,g2⟩
   .exact absurd (dW _ _ _ h.2 g2) (tb.2.2.1 y hy r hr)
   .have s:=ta.1 z x hz hx (dW _ _ _ g2 g)
    exact⟨y,hy,dW _ _ _ s.eqv.2 g2,g⟩
 have R:∀{a b:Gm},Fh a->Fh b->iK a b->∀x,x∈a.r->∃y,y∈b.r/\iK x y:=by
  intro a b ta tb h x hx;have n1:¬Ge b x:=λg=>nU hx (dW _ _ _ h.1 g)
  rcases qP n1 with⟨y,hy,g⟩|⟨r,hr,g⟩
  .have n2:¬Ge a y:=λk=>nU hy (dW _ _ _ h.2 k)
   rcases qP n2 with⟨z,hz,g2⟩|⟨r,hr,g2⟩
   .have s:=ta.2.1 x z hx hz (dW _ _ _ g g2)
    exact⟨y,hy,g,dW _ _ _ g2 s.eqv.2⟩
   .exact absurd (dW _ _ _ g2 h.1) (tb.2.2.2 y hy r hr)
  .exact absurd (dW _ _ _ g h.2) (ta.2.2.2 x hx r hr)
 rw[same_iff];refine⟨λx hx=>?_,λy hy=>?_,λx hx=>?_,λy hy=>?_⟩
 .obtain⟨y,hy,e⟩:=L ha.tight hb.tight h x hx;exact⟨y,hy,kQ (ha.l hx) (hb.l hy) e⟩
 .obtain⟨x,hx,e⟩:=L hb.tight ha.tight h.symm y hy;exact⟨x,hx,kQ (ha.l hx) (hb.l hy) e.symm⟩
 .obtain⟨y,hy,e⟩:=R ha.tight hb.tight h x hx;exact⟨y,hy,kQ (ha.r hx) (hb.r hy) e⟩
 .obtain⟨x,hx,e⟩:=R hb.tight ha.tight h.symm y hy;exact⟨x,hx,kQ (ha.r hx) (hb.r hy) e.symm⟩
termination_by sizeOf a+sizeOf b
decreasing_by
 .have:=Gm.kM hx;have:=Gm.kM hy;omega
 .have:=Gm.kM hx;have:=Gm.kM hy;omega
 .have:=Gm.kL hx;have:=Gm.kL hy;omega
 .have:=Gm.kL hx;have:=Gm.kL hy;omega
end Go.Proofs.YteknjeohbcgpdaaGreatDoor.bz
namespace Go.Proofs.YteknjeohbcgpdaaGreatDoor.bz
variable {i:Nat}
abbrev Nd:=List Nat × List Nat
abbrev dC:=List Nd
def WF(D:dC):Prop:=∀(i:Nat) (nd:Nd),D[i]?=some nd->(∀k,k∈nd.1->k<i)/\(∀k,k∈nd.2->k<i)
def Asc(l:List Nat):Prop:=l.Pairwise (· < ·)
structure Good(D:dC):Prop where
 wf:WF D
 BP:∀nd,nd∈D->Asc nd.1/\Asc nd.2
 nodup:D.Nodup
def vf(D:dC):Nat->Nat->Gm
 | 0,_=>.mk [] []
 |f+1,i=>match D[i]? with
  |some nd=>.mk (nd.1.map (vf D f)) (nd.2.map (vf D f))
  |none=>.mk [] []
def vl(D:dC)(i:Nat):Gm:=vf D (i+1) i
theorem Em{D:dC}(h:WF D):∀f i,i<f->vf D f i=vl D i:=by
 intro f
 induction f using Nat.strongRecOn with
 |_ f ih=>
  intro i hi;cases f with
  |zero=>omega
  |succ f=>
   unfold vl;simp only[vf];cases hd:D[i]? with
   |none=>rfl
   |some nd=>
    obtain⟨h1,h2⟩:=h i nd hd;simp only;congr 1
    .refine dP λk hk=>?_
     have hk':=h1 k hk;by_cases e:f=i
     .rw[e]
     .rw[ih f (by omega) k (by omega),ih i (by omega) k hk']
    .refine dP λk hk=>?_
     have hk':=h2 k hk;by_cases e:f=i
     .rw[e]
     .rw[ih f (by omega) k (by omega),ih i (by omega) k hk']
theorem nO{D:dC}(h:WF D){nd:Nd}(hd:D[i]?=some nd):vl D i=.mk (nd.1.map (vl D)) (nd.2.map (vl D)):=by
 obtain⟨h1,h2⟩:=h i nd hd;unfold vl;rw[vf,hd];simp only;congr 1
 .exact dP λk hk=>Em h i k (h1 k hk)
 .exact dP λk hk=>Em h i k (h2 k hk)
theorem om{D:dC}(h:WF D){nd:Nd}(hd:D[i]?=some nd):(vl D i).l=nd.1.map (vl D):=by rw[nO h hd];rfl
theorem oh{D:dC}(h:WF D){nd:Nd}(hd:D[i]?=some nd):(vl D i).r=nd.2.map (vl D):=by rw[nO h hd];rfl
theorem FB{D:dC}(hd:D[i]?=none):vl D i=.mk [] []:=by unfold vl;rw[vf,hd]
theorem getElem?_append_some{α:Type}{D E:List α}{x:α}(h:D[i]?=some x):(D++E)[i]?=some x:=by
 have:=(dI.1 h).1;rw[dN this];exact h
theorem ib{D E:dC}(h:WF D)(h':WF (D++E)):∀i,i<D.length->vl (D++E) i=vl D i:=by
 intro i
 induction i using Nat.strongRecOn with
 |_ i ih=>
  intro hi;have hd:D[i]?=some D[i]:=aa hi;obtain⟨h1,h2⟩:=h i _ hd;rw[nO h hd,nO h' (getElem?_append_some hd)];congr 1
  .exact dP λk hk=>ih k (h1 k hk) (by have:=h1 k hk;omega)
  .exact dP λk hk=>ih k (h2 k hk) (by have:=h2 k hk;omega)
theorem WF.nil:WF []:=by intro i nd h;simp at h
theorem WF.snoc{D:dC}(h:WF D){nd:Nd}(h1:∀k,k∈nd.1->k<D.length)(h2:∀k,k∈nd.2->k<D.length):WF (D++[nd]):=by
 intro i x hx;by_cases hi:i<D.length
 .rw[dN hi]at hx;exact h i x hx
 .rw[dV (by omega)]at hx
  have:i-D.length=0:=by
   have:=(dI.1 hx).1;simp at this;omega
  rw[this]at hx;simp at hx;subst hx;have e:i=D.length:=by omega
  subst e;exact⟨h1,h2⟩
theorem Good.nil:Good []:=⟨WF.nil,by simp,List.nodup_nil⟩
theorem Good.snoc{D:dC}(h:Good D){nd:Nd}(h1:∀k,k∈nd.1->k<D.length)(h2:∀k,k∈nd.2->k<D.length)(a1:Asc nd.1)(a2:Asc nd.2)(hn:nd ∉ D):Good (D++[nd]):=by
 refine⟨h.wf.snoc h1 h2,?_,?_⟩
 .intro x hx
  simp at hx;rcases hx with hx|rfl
  .exact h.BP x hx
  .exact⟨a1,a2⟩
 .rw[kT]
  exact⟨h.nodup,by simp,by intro a ha b hb;simp at hb;subst hb;intro e;subst e;exact hn ha⟩
theorem tQ{a b:List Nat}(ha:Asc a)(hb:Asc b)(h:∀x,x∈a↔x∈b):a=b:=by
 induction a generalizing b with
 |nil=>cases b with
  |nil=>rfl
  |cons y b=>exact absurd ((h y).2 (by simp)) (by simp)
 |cons x a ih=>
  cases b with
  |nil=>exact absurd ((h x).1 (by simp)) (by simp)
  |cons y b=>
   unfold Asc at ha hb;rw[p8]at ha hb;have e:x=y:=by
    have p:=(h x).1 (by simp);have q:=(h y).2 (by simp);simp at p q;rcases p with p|p
    .exact p
    .rcases q with q|q
     .exact q.symm
     .have:=ha.1 y q;have:=hb.1 x p;omega
   subst e;congr 1;refine ih ha.2 hb.2 λz=>⟨λhz=>?_,λhz=>?_⟩
   .have:=(h z).1 (by simp[hz])
    simp at this;rcases this with rfl|t
    .exact absurd (ha.1 z hz) (by omega)
    .exact t
   .have:=(h z).2 (by simp[hz])
    simp at this;rcases this with rfl|t
    .exact absurd (hb.1 z hz) (by omega)
    .exact t
theorem mW{D:dC}(h:Good D):∀i j,i<D.length->j<D.length->Same (vl D i) (vl D j)->i=j:=by
 have main:∀n i j,i<n->i<D.length->j<D.length->Same (vl D i) (vl D j)->i=j:=by
  intro n
  induction n with
  |zero=>intro i j h0;omega
  |succ n ih=>
   intro i j hn hi hj s;have di:D[i]?=some D[i]:=aa hi;have dj:D[j]?=some D[j]:=aa hj;obtain⟨wi1,wi2⟩:=h.wf i _ di;obtain⟨wj1,wj2⟩:=h.wf j _ dj;rw[same_iff,om h.wf di,om h.wf dj,oh h.wf di,oh h.wf dj]at s;obtain⟨s1,s2,s3,s4⟩:=s;have e:D[i]=D[j]:=by
    have e1:(D[i]).1=(D[j]).1:=by
     refine tQ (h.BP _ (ah hi)).1 (h.BP _ (ah hj)).1 λx=>⟨λhx=>?_,λhx=>?_⟩
     .obtain⟨y,hy,t⟩:=s1 _ (aW hx)
      obtain⟨k,hk,rfl⟩:=aI.1 hy;have:=wi1 x hx;have:=wj1 k hk;rw[ih x k (by omega) (by omega) (by omega) t];exact hk
     .obtain⟨y,hy,t⟩:=s2 _ (aW hx)
      obtain⟨k,hk,rfl⟩:=aI.1 hy;have:=wi1 k hk;have:=wj1 x hx;rw[<-ih k x (by omega) (by omega) (by omega) t];exact hk
    have e2:(D[i]).2=(D[j]).2:=by
     refine tQ (h.BP _ (ah hi)).2 (h.BP _ (ah hj)).2 λx=>⟨λhx=>?_,λhx=>?_⟩
     .obtain⟨y,hy,t⟩:=s3 _ (aW hx)
      obtain⟨k,hk,rfl⟩:=aI.1 hy;have:=wi2 x hx;have:=wj2 k hk;rw[ih x k (by omega) (by omega) (by omega) t];exact hk
     .obtain⟨y,hy,t⟩:=s4 _ (aW hx)
      obtain⟨k,hk,rfl⟩:=aI.1 hy;have:=wi2 k hk;have:=wj2 x hx;rw[<-ih k x (by omega) (by omega) (by omega) t];exact hk
    exact Prod.ext e1 e2
   exact(List.getElem_inj h.nodup).1 e
 intro i j hi hj s;exact main (i+1) i j (by omega) hi hj s
end Go.Proofs.YteknjeohbcgpdaaGreatDoor.bz
namespace Go.Proofs.YteknjeohbcgpdaaGreatDoor.bz
variable {g x:Gm} {a b:List Nat} {D E F:dC} {i j k:Nat}
def born(g:Gm):Nat:=
 max (g.l.attach.foldr (λx m=>max (born x.1+1) m) 0) (g.r.attach.foldr (λx m=>max (born x.1+1) m) 0)
termination_by sizeOf g
decreasing_by
 .exact Gm.kM x.2
 .exact Gm.kL x.2
theorem y8{α:Type}(f:α->Nat)(l:List α)(n:Nat):l.foldr (λx m=>max (f x+1) m) 0<=n↔∀x,x∈l->f x<n:=by
 induction l with
 |nil=>simp
 |cons a l ih=>simp only[List.foldr_cons,Nat.max_le,dD,ih];constructor
               .rintro⟨h1,h2⟩ x (rfl|h)
                .omega
                .exact h2 x h
               .intro h;exact⟨h a (.inl rfl),λx hx=>h x (.inr hx)⟩
theorem qI(g:Gm)(n:Nat):born g<=n↔(∀x,x∈g.l->born x<n)/\(∀x,x∈g.r->born x<n):=by
 rw[born,Nat.max_le,y8 (λx:{x // x∈g.l}=>born x.1),y8 (λx:{x // x∈g.r}=>born x.1)];constructor
 .rintro⟨h1,h2⟩;exact⟨λx hx=>h1 ⟨x,hx⟩ (by simp),λx hx=>h2 ⟨x,hx⟩ (by simp)⟩
 .rintro⟨h1,h2⟩;exact⟨λx _=>h1 x.1 x.2,λx _=>h2 x.1 x.2⟩
theorem Gy(h:x∈g.l):born x<born g:=((qI g _).1 (ai _)).1 x h
theorem Gx(h:x∈g.r):born x<born g:=((qI g _).1 (ai _)).2 x h
theorem lX{a b:Gm}(h:Same a b):born a=born b:=by
 have h':=h;rw[same_iff]at h';obtain⟨h1,h2,h3,h4⟩:=h';apply Nat.le_antisymm
 .rw[qI]
  refine⟨λx hx=>?_,λx hx=>?_⟩
  .obtain⟨y,hy,s⟩:=h1 x hx;rw[lX s];exact Gy hy
  .obtain⟨y,hy,s⟩:=h3 x hx;rw[lX s];exact Gx hy
 .rw[qI]
  refine⟨λy hy=>?_,λy hy=>?_⟩
  .obtain⟨x,hx,s⟩:=h2 y hy;rw[<-lX s];exact Gy hx
  .obtain⟨x,hx,s⟩:=h4 y hy;rw[<-lX s];exact Gx hx
termination_by sizeOf a+sizeOf b
decreasing_by
 .have:=Gm.kM hx;have:=Gm.kM hy;omega
 .have:=Gm.kL hx;have:=Gm.kL hy;omega
 .have:=Gm.kM hx;have:=Gm.kM hy;omega
 .have:=Gm.kL hx;have:=Gm.kL hy;omega
def cl:List Nat->List Nat->Int
 |[],[]=>0
 |[],_ :: _=>-1
 |_ :: _,[]=>1
 |a :: l,b :: m=>if a<b then -1 else if b<a then 1 else cl l m
theorem WQ(a:List Nat):cl a a=0:=by induction a with
 |nil=>rfl
 |cons x a ih=>simp[cl,ih]
theorem Uh(a b:List Nat):cl b a=- cl a b:=by
 induction a generalizing b with
 |nil=>cases b <;> simp[cl]
 |cons x a ih=>
  cases b with
  |nil=>simp[cl]
  |cons y b=>
   simp only[cl];by_cases h1:x<y
   .rw[if_neg (by omega),if_pos h1,if_pos h1];rfl
   .by_cases h2:y<x
    .rw[if_pos h2,if_neg h1,if_pos h2]
    .rw[if_neg h2,if_neg h1,if_neg h1,if_neg h2];exact ih b
theorem BJ(h:cl a b=0):a=b:=by
 induction a generalizing b with
 |nil=>cases b with
  |nil=>rfl
  |cons y b=>simp[cl]at h
 |cons x a ih=>
  cases b with
  |nil=>simp[cl]at h
  |cons y b=>
   simp only[cl]at h;split at h
   .omega
   .split at h
    .omega
    .rw[ih h,show x=y by omega]
theorem JO{c:List Nat}(h:cl a b<0)(k:cl b c<0):cl a c<0:=by
 induction a generalizing b c with
 |nil=>
  cases b with
  |nil=>simp[cl]at h
  |cons y b=>
   cases c with
   |nil=>simp[cl]at k
   |cons z c=>simp[cl]
 |cons x a ih=>
  cases b with
  |nil=>simp[cl]at h
  |cons y b=>
   cases c with
   |nil=>simp[cl]at k
   |cons z c=>
    simp only[cl]at h k ⊢;split at h <;> split at k <;> try(split at h <;> try omega)<;> try(split at k <;> try omega)
    all_goals first
     |(rw[if_pos (by omega)];omega)
     |(rename_i h1 h2;rw[if_neg (by omega),if_neg (by omega)];exact ih h k)
     |(split at k <;> first|omega|(rw[if_pos (by omega)];omega)|(rw[if_neg (by omega),if_neg (by omega)];exact ih h k))
def nc(a b:Nd):Int:=if cl a.1 b.1≠0 then cl a.1 b.1 else cl a.2 b.2
theorem F5(a:Nd):nc a a=0:=by simp[nc,WQ]
theorem yG{a b:Nd}(h:nc a b=0):a=b:=by
 unfold nc at h;split at h
 .contradiction
 .rename_i h1;exact Prod.ext (BJ (by simpa using h1)) (BJ h)
theorem zN(a b:Nd):nc b a=- nc a b:=by
 unfold nc;rw[Uh a.1 b.1,Uh a.2 b.2];by_cases h:cl a.1 b.1=0
 .simp[h]
 .rw[if_pos (by omega),if_pos h]
theorem uE{a b c:Nd}(h:nc a b<0)(k:nc b c<0):nc a c<0:=by
 unfold nc at *;by_cases h1:cl a.1 b.1=0
 .have e:=BJ h1
  rw[if_neg (by simpa using h1)]at h;rw[e];by_cases h2:cl b.1 c.1=0
  .rw[if_neg (by simpa using h2)]at k ⊢;exact JO h k
  .rw[if_pos h2]at k ⊢;exact k
 .rw[if_pos h1]at h
  by_cases h2:cl b.1 c.1=0
  .have e:=BJ h2
   rw[<-e,if_pos h1];exact h
  .rw[if_pos h2]at k
   have:=JO h k;rw[if_pos (by omega)];exact this
def Ahead(D:dC)(i j:Nat):Prop:=
 born (vl D i)<born (vl D j)\/born (vl D i)=born (vl D j)/\nc (D.getD i ([],[])) (D.getD j ([],[]))<0
inductive Reach(D:dC)(i:Nat):Nat->Prop
 |here:Reach D i i
 |left {j k:Nat} {nd:Nd} (h:Reach D i j) (hd:D[j]?=some nd) (hk:k∈nd.1):Reach D i k
 |right {j k:Nat} {nd:Nd} (h:Reach D i j) (hd:D[j]?=some nd) (hk:k∈nd.2):Reach D i k
theorem nH(h:WF D):∀i,born (vl D i)<=i:=by
 intro i
 induction i using Nat.strongRecOn with
 |_ i ih=>
  cases hd:D[i]? with
  |none=>rw[FB hd,qI];simp[Gm.l,Gm.r]
  |some nd=>
   obtain⟨h1,h2⟩:=h i nd hd;rw[qI,om h hd,oh h hd];refine⟨λx hx=>?_,λx hx=>?_⟩
   .obtain⟨k,hk,rfl⟩:=aI.1 hx;have:=ih k (h1 k hk);have:=h1 k hk;omega
   .obtain⟨k,hk,rfl⟩:=aI.1 hx;have:=ih k (h2 k hk);have:=h2 k hk;omega
structure fq(F:dC):Prop where
 good:Good F
 ne:F≠[]
 sorted:∀i j,i<j->j<F.length->Ahead F i j
 reach:∀i,i<F.length->Reach F (F.length-1) i
def eu(F:dC):Gm:=vl F (F.length-1)
theorem mX(h:WF D)(hr:Reach D i j):j<=i:=by
 induction hr with
 |here=>omega
 |left _ hd hk ih=>have:=(h _ _ hd).1 _ hk;omega
 |right _ hd hk ih=>have:=(h _ _ hd).2 _ hk;omega
theorem sO(hD:Good D)(hE:Good E){a:Nat}(ha:a<E.length)(s:Same (vl D i) (vl E a))(hr:Reach D i j):
 ∃b,b<E.length/\Reach E a b/\Same (vl D j) (vl E b):=by
 induction hr with
 |here=>exact⟨a,ha,.here,s⟩
 |left hr hd hk ih=>
  obtain⟨b,hb,rb,sb⟩:=ih;have db:E[b]?=some E[b]:=aa hb;rw[same_iff,om hD.wf hd,om hE.wf db]at sb;obtain⟨y,hy,t⟩:=sb.1 _ (aW hk);obtain⟨m,hm,rfl⟩:=aI.1 hy;exact⟨m,by have:=(hE.wf b _ db).1 m hm;omega,.left rb db hm,t⟩
 |right hr hd hk ih=>
  obtain⟨b,hb,rb,sb⟩:=ih;have db:E[b]?=some E[b]:=aa hb;rw[same_iff,oh hD.wf hd,oh hE.wf db]at sb;obtain⟨y,hy,t⟩:=sb.2.2.1 _ (aW hk);obtain⟨m,hm,rfl⟩:=aI.1 hy;exact⟨m,by have:=(hE.wf b _ db).2 m hm;omega,.right rb db hm,t⟩
theorem Fz(hD:WF D)(hE:WF E)(h:D.take k=E.take k):∀i,i<k->i<D.length->vl D i=vl E i:=by
 intro i
 induction i using Nat.strongRecOn with
 |_ i ih=>
  intro hik hi;have hd:D[i]?=some D[i]:=aa hi;have he:E[i]?=some D[i]:=by
   have:=congrArg (λl=>l[i]?) h;simp only[lI,if_pos hik]at this;rw[<-this];exact hd
  obtain⟨h1,h2⟩:=hD i _ hd;rw[nO hD hd,nO hE he];congr 1
  .exact dP λm hm=>ih m (h1 m hm) (by have:=h1 m hm;omega) (by have:=h1 m hm;omega)
  .exact dP λm hm=>ih m (h2 m hm) (by have:=h2 m hm;omega) (by have:=h2 m hm;omega)
theorem ME(hF:fq F)(h:i<=j)(hj:j<F.length):born (vl F i)<=born (vl F j):=by
 rcases dX i j with h1|h1
 .rcases hF.sorted i j h1 hj with h2|h2 <;> omega
 .rw[show i=j by omega];exact ai _
theorem qF(h:i<D.length):D.getD i ([],[])=D[i]:=by simp[List.getD,h]
theorem BD(hF:fq F)(hE:fq E)(hs:Same (eu F) (eu E))(hk:F.take k=E.take k)(hn:k<F.length):
 ∃j,∃hj:j<E.length,k<=j/\Same (vl F k) (vl E j)/\E[j]=F[k]:=by
 have nF:0<F.length:=by omega
 have nE:0<E.length:=iY.2 hE.ne;obtain⟨j,hj,_,sj⟩:=sO hF.good hE.good (by omega:E.length-1<E.length) hs (hF.reach k hn);have hkj:k<=j:=by
  rcases dX j k with h|h
  .have e:=Fz hF.good.wf hE.good.wf hk j h (by omega)
   rw[<-e]at sj;have:=mW hF.good k j hn (by omega) sj;omega
  .exact h
 refine⟨j,hj,hkj,sj,?_⟩;have dF:F[k]?=some F[k]:=aa hn;have dE:E[j]?=some E[j]:=aa hj;have bj:=lX sj;have low:∀o,o<E.length->born (vl E o)<born (vl E j)->o<k:=by
  intro o ho hb;obtain⟨m,hm,_,sm⟩:=sO hE.good hF.good (by omega:F.length-1<F.length) (kJ hs) (hE.reach o ho);have bm:=lX sm;have hmk:m<k:=by
   rcases dX m k with h|h
   .exact h
   .have:=ME hF h hm;omega
  have e:=Fz hF.good.wf hE.good.wf hk m hmk hm;rw[e]at sm;have hmE:m<E.length:=by
   have:=congrArg List.length hk;simp at this;omega
  have:=mW hE.good o m ho hmE sm;omega
 have wF:=hF.good.wf k _ dF;have wE:=hE.good.wf j _ dE;have s':=sj;rw[same_iff,om hF.good.wf dF,om hE.good.wf dE,oh hF.good.wf dF,oh hE.good.wf dE]at s';obtain⟨s1,s2,s3,s4⟩:=s';have key:∀x y,x<k->x<F.length->y<E.length->born (vl E y)<born (vl E j)->Same (vl F x) (vl E y)->x=y:=by
  intro x y hx hxF hy hb t;have hyk:=low y hy hb;have hyF:y<F.length:=by omega
  rw[<-Fz hF.good.wf hE.good.wf hk y hyk hyF]at t;exact mW hF.good x y hxF hyF t
 have bl:∀y,y∈(E[j]).1->born (vl E y)<born (vl E j):=λy hy=>Gy (by rw[om hE.good.wf dE];exact aW hy)
 have br:∀y,y∈(E[j]).2->born (vl E y)<born (vl E j):=λy hy=>Gx (by rw[oh hE.good.wf dE];exact aW hy)
 refine Prod.ext ?_ ?_
 .refine tQ (hE.good.BP _ (ah hj)).1 (hF.good.BP _ (ah hn)).1 λy=>⟨λhy=>?_,λhx=>?_⟩
  .obtain⟨x,hx,t⟩:=s2 _ (aW hy)
   obtain⟨x,hx2,rfl⟩:=aI.1 hx;have:=wF.1 x hx2;have:=wE.1 y hy;rw[<-key x y (by omega) (by omega) (by omega) (bl y hy) t];exact hx2
  .obtain⟨z,hz,t⟩:=s1 _ (aW hx)
   obtain⟨z,hz2,rfl⟩:=aI.1 hz;have:=wF.1 y hx;have:=wE.1 z hz2;rw[key y z (by omega) (by omega) (by omega) (bl z hz2) t];exact hz2
 .refine tQ (hE.good.BP _ (ah hj)).2 (hF.good.BP _ (ah hn)).2 λy=>⟨λhy=>?_,λhx=>?_⟩
  .obtain⟨x,hx,t⟩:=s4 _ (aW hy)
   obtain⟨x,hx2,rfl⟩:=aI.1 hx;have:=wF.2 x hx2;have:=wE.2 y hy;rw[<-key x y (by omega) (by omega) (by omega) (br y hy) t];exact hx2
  .obtain⟨z,hz,t⟩:=s3 _ (aW hx)
   obtain⟨z,hz2,rfl⟩:=aI.1 hz;have:=wF.2 y hx;have:=wE.2 z hz2;rw[key y z (by omega) (by omega) (by omega) (br z hz2) t];exact hz2
theorem step_eq(hF:fq F)(hE:fq E)(hs:Same (eu F) (eu E))(hk:F.take k=E.take k)(hn:k<F.length)(hm:k<E.length):F[k]=E[k]:=by
 obtain⟨j,hj,hkj,sj,ej⟩:=BD hF hE hs hk hn;obtain⟨i,hi,hki,si,ei⟩:=BD hE hF (kJ hs) hk.symm hm;rcases Nat.eq_or_lt_of_le hkj with h|h
 .subst h;exact ej.symm
 .rcases Nat.eq_or_lt_of_le hki with h'|h'
  .subst h';exact ei
  .have b1:=lX sj
   have b2:=lX si;have a1:=hE.sorted k j h hj;have a2:=hF.sorted k i h' hi;unfold Ahead at a1 a2;rw[qF hm,qF hj,ej]at a1;rw[qF hn,qF hi,ei]at a2;rcases a1 with a1|⟨a1,c1⟩
   .rcases a2 with a2|⟨a2,c2⟩ <;> omega
   .rcases a2 with a2|⟨a2,c2⟩
    .omega
    .have:=zN F[k] E[k]
     omega
theorem A9(hF:fq F)(hE:fq E)(hs:Same (eu F) (eu E)):F=E:=by
 have main:∀k,k<=F.length->k<=E.length/\F.take k=E.take k:=by
  intro k
  induction k with
  |zero=>intro _;exact⟨az _,by simp⟩
  |succ k ih=>
   intro hk;obtain⟨h1,h2⟩:=ih (by omega);obtain⟨j,hj,hkj,_,_⟩:=BD hF hE hs h2 (by omega);refine⟨by omega,?_⟩;rw[bg (by omega),bg (by omega),h2,step_eq hF hE hs h2 (by omega) (by omega)]
 obtain⟨h1,h2⟩:=main F.length (ai _);rcases Nat.eq_or_lt_of_le h1 with h|h
 .rw[dz,h,dz]at h2;exact h2
 .obtain⟨j,hj,hkj,_,_⟩:=BD hE hF (kJ hs) h2.symm h
  omega
end Go.Proofs.YteknjeohbcgpdaaGreatDoor.bz
namespace Go.Proofs.YteknjeohbcgpdaaGreatDoor.bz
variable {c g x:Gm} {Q:Gm->Prop}
theorem QO(g:Gm):0<SizeOf.sizeOf g:=by cases g;simp;omega
theorem AO(hc:Canon c)(h:iK c g)(h1:∀a,a∈g.l->∀b,b∈a.r->∀d,d∈b.l->Q d)(h2:∀d,Q d->∀e,e∈d.r->∀f,f∈e.l->Q f)(hx:x∈c.l):∃y,(y∈g.l\/Q y)/\iK x y:=by
 have key:∀n y,SizeOf.sizeOf y<=n->(y∈g.l\/Q y)->Ge y x->¬Ge y c->∃y,(y∈g.l\/Q y)/\iK x y:=by
  intro n
  induction n with
  |zero=>intro y hn;have:=QO y;omega
  |succ n ih=>
   intro y hn hy g1 n1;rcases qP n1 with⟨r,hr,g2⟩|⟨z,hz,g2⟩
   .rcases qP (((iU y x).1 g1).1 r hr)with⟨s,hs,g3⟩|⟨l,hl,g3⟩
    .exact absurd (dW _ _ _ g2 g3) (hc.tight.2.2.1 x hx s hs)
    .refine ih l (by have:=Gm.kL hr;have:=Gm.kM hl;omega) (.inr ?_) g3 (((iU c r).1 g2).2 l hl)
     rcases hy with hy|hy
     .exact h1 y hy r hr l hl
     .exact h2 y hy r hr l hl
   .exact⟨y,hy,dW _ _ _ (hc.tight.1 z x hz hx (dW _ _ _ g2 g1)).eqv.2 g2,g1⟩
 rcases qP (λk=>nV hx (dW _ _ _ k h.2):¬Ge x g)with⟨r,hr,g1⟩|⟨y,hy,g1⟩
 .exact absurd (dW _ _ _ h.1 g1) (hc.tight.2.2.1 x hx r hr)
 .exact key _ y (ai _) (.inl hy) g1 (λk=>nV hy (dW _ _ _ k h.1))
theorem AL(hc:Canon c)(h:iK c g)(h1:∀a,a∈g.r->∀b,b∈a.l->∀d,d∈b.r->Q d)(h2:∀d,Q d->∀e,e∈d.l->∀f,f∈e.r->Q f)(hx:x∈c.r):∃y,(y∈g.r\/Q y)/\iK x y:=by
 have key:∀n y,SizeOf.sizeOf y<=n->(y∈g.r\/Q y)->Ge x y->¬Ge c y->∃y,(y∈g.r\/Q y)/\iK x y:=by
  intro n
  induction n with
  |zero=>intro y hn;have:=QO y;omega
  |succ n ih=>
   intro y hn hy g1 n1;rcases qP n1 with⟨z,hz,g2⟩|⟨l,hl,g2⟩
   .exact⟨y,hy,g1,dW _ _ _ g2 (hc.tight.2.1 x z hx hz (dW _ _ _ g1 g2)).eqv.2⟩
   .rcases qP (((iU x y).1 g1).2 l hl)with⟨r,hr,g3⟩|⟨s,hs,g3⟩
    .refine ih r (by have:=Gm.kM hl;have:=Gm.kL hr;omega) (.inr ?_) g3 (((iU l c).1 g2).1 r hr)
     rcases hy with hy|hy
     .exact h1 y hy l hl r hr
     .exact h2 y hy l hl r hr
    .exact absurd (dW _ _ _ g3 g2) (hc.tight.2.2.2 x hx s hs)
 rcases qP (λk=>nU hx (dW _ _ _ h.1 k):¬Ge g x)with⟨y,hy,g1⟩|⟨l,hl,g1⟩
 .exact key _ y (ai _) (.inl hy) g1 (λk=>nU hy (dW _ _ _ h.2 k))
 .exact absurd (dW _ _ _ g1 h.2) (hc.tight.2.2.2 x hx l hl)
end Go.Proofs.YteknjeohbcgpdaaGreatDoor.bz