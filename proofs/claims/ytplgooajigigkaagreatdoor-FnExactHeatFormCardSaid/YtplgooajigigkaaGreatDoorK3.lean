/- 3 -/
import Derived.Test.YtplgooajigigkaaGreatDoorK0
namespace Go.Proofs.YtplgooajigigkaaGreatDoor.bE
inductive Gm where
 |mk (l r:List Gm)
def Gm.l:Gm->List Gm | .mk l _=>l
def Gm.r:Gm->List Gm | .mk _ r=>r
theorem Gm.jI{g x:Gm}(h:x∈g.l):sizeOf x<sizeOf g:=by
 cases g with
 |mk l r=>have:=List.sizeOf_lt_of_mem h;simp[Gm.l]at this ⊢;omega
theorem Gm.jH{g x:Gm}(h:x∈g.r):sizeOf x<sizeOf g:=by
 cases g with
 |mk l r=>have:=List.sizeOf_lt_of_mem h;simp[Gm.r]at this ⊢;omega
def Ge(a b:Gm):Prop:=
 (∀r,(h:r∈a.r)->¬Ge b r)/\(∀l,(h:l∈b.l)->¬Ge l a)
termination_by sizeOf a+sizeOf b
decreasing_by
 .have:=Gm.jH h;omega
 .have:=Gm.jI h;omega
theorem gu(a b:Gm):Ge a b↔(∀r,r∈a.r->¬Ge b r)/\(∀l,l∈b.l->¬Ge l a):=by
 rw[Ge]
theorem pz(a:Gm):Ge a a:=by
 rw[gu];refine⟨λr h g=>?_,λl h g=>?_⟩
 .exact((gu a r).1 g).1 r h (pz r)
 .exact((gu l a).1 g).2 l h (pz l)
termination_by sizeOf a
decreasing_by
 .exact Gm.jH h
 .exact Gm.jI h
theorem bH(a b c:Gm)(h:Ge a b)(k:Ge b c):Ge a c:=by
 rw[gu];refine⟨λr hr g=>?_,λl hl g=>?_⟩
 .exact((gu a b).1 h).1 r hr (bH b c r k g)
 .exact((gu b c).1 k).2 l hl (bH l a b g h)
termination_by sizeOf a+sizeOf b+sizeOf c
decreasing_by
 .have:=Gm.jH hr;omega
 .have:=Gm.jI hl;omega
def jc(a b:Gm):Prop:=Ge a b/\Ge b a
theorem jc.refl(a:Gm):jc a a:=⟨pz a,pz a⟩
theorem jc.symm{a b:Gm}(h:jc a b):jc b a:=⟨h.2,h.1⟩
theorem jc.trans{a b c:Gm}(h:jc a b)(k:jc b c):jc a c:=⟨bH _ _ _ h.1 k.1,bH _ _ _ k.2 h.2⟩
theorem jc.qo{a b c:Gm}(h:jc a b):Ge a c↔Ge b c:=⟨bH _ _ _ h.2,bH _ _ _ h.1⟩
theorem jc.ow{a b c:Gm}(h:jc a b):Ge c a↔Ge c b:=⟨λg=>bH _ _ _ g h.1,λg=>bH _ _ _ g h.2⟩
theorem kV{a l:Gm}(h:l∈a.l):¬Ge l a:=((gu a a).1 (pz a)).2 l h
theorem lJ{a r:Gm}(h:r∈a.r):¬Ge a r:=((gu a a).1 (pz a)).1 r h
def Same(a b:Gm):Prop:=
 (∀x,(h:x∈a.l)->∃y,∃(_:y∈b.l),Same x y)/\(∀y,(h:y∈b.l)->∃x,∃(_:x∈a.l),Same x y)/\
 (∀x,(h:x∈a.r)->∃y,∃(_:y∈b.r),Same x y)/\(∀y,(h:y∈b.r)->∃x,∃(_:x∈a.r),Same x y)
termination_by sizeOf a+sizeOf b
decreasing_by
 all_goals first
  |(rename_i h2;have:=Gm.jI h;have:=Gm.jI h2;omega)
  |(rename_i h2;have:=Gm.jH h;have:=Gm.jH h2;omega)
theorem same_iff(a b:Gm):Same a b↔
 (∀x,x∈a.l->∃y,y∈b.l/\Same x y)/\(∀y,y∈b.l->∃x,x∈a.l/\Same x y)/\
 (∀x,x∈a.r->∃y,y∈b.r/\Same x y)/\(∀y,y∈b.r->∃x,x∈a.r/\Same x y):=by
 rw[Same];simp only[exists_prop]
theorem gT(a:Gm):Same a a:=by
 rw[same_iff];exact⟨λx h=>⟨x,h,gT x⟩,λx h=>⟨x,h,gT x⟩,λx h=>⟨x,h,gT x⟩,λx h=>⟨x,h,gT x⟩⟩
termination_by sizeOf a
decreasing_by
 .exact Gm.jI h
 .exact Gm.jI h
 .exact Gm.jH h
 .exact Gm.jH h
theorem dU{a b:Gm}(h:Same a b):Same b a:=by
 rw[same_iff]at h ⊢;obtain⟨h1,h2,h3,h4⟩:=h;refine⟨λy hy=>?_,λx hx=>?_,λy hy=>?_,λx hx=>?_⟩
 .obtain⟨x,hx,s⟩:=h2 y hy;exact⟨x,hx,dU s⟩
 .obtain⟨y,hy,s⟩:=h1 x hx;exact⟨y,hy,dU s⟩
 .obtain⟨x,hx,s⟩:=h4 y hy;exact⟨x,hx,dU s⟩
 .obtain⟨y,hy,s⟩:=h3 x hx;exact⟨y,hy,dU s⟩
termination_by sizeOf a+sizeOf b
decreasing_by
 .have:=Gm.jI hx;have:=Gm.jI hy;omega
 .have:=Gm.jI hx;have:=Gm.jI hy;omega
 .have:=Gm.jH hx;have:=Gm.jH hy;omega
 .have:=Gm.jH hx;have:=Gm.jH hy;omega
theorem dn{a b c:Gm}(h:Same a b)(k:Same b c):Same a c:=by
 rw[same_iff]at h k ⊢;obtain⟨h1,h2,h3,h4⟩:=h;obtain⟨k1,k2,k3,k4⟩:=k;refine⟨λx hx=>?_,λz hz=>?_,λx hx=>?_,λz hz=>?_⟩
 .obtain⟨y,hy,s⟩:=h1 x hx;obtain⟨z,hz,t⟩:=k1 y hy;exact⟨z,hz,dn s t⟩
 .obtain⟨y,hy,t⟩:=k2 z hz;obtain⟨x,hx,s⟩:=h2 y hy;exact⟨x,hx,dn s t⟩
 .obtain⟨y,hy,s⟩:=h3 x hx;obtain⟨z,hz,t⟩:=k3 y hy;exact⟨z,hz,dn s t⟩
 .obtain⟨y,hy,t⟩:=k4 z hz;obtain⟨x,hx,s⟩:=h4 y hy;exact⟨x,hx,dn s t⟩
termination_by sizeOf a+sizeOf b+sizeOf c
decreasing_by
 .have:=Gm.jI hx;have:=Gm.jI hy;have:=Gm.jI hz;omega
 .have:=Gm.jI hx;have:=Gm.jI hy;have:=Gm.jI hz;omega
 .have:=Gm.jH hx;have:=Gm.jH hy;have:=Gm.jH hz;omega
 .have:=Gm.jH hx;have:=Gm.jH hy;have:=Gm.jH hz;omega
theorem Dl{a b:Gm}(hr:∀r,r∈a.r->(∃r',r'∈b.r/\Ge r r')\/(∃l,l∈r.l/\Ge l b))
 (hl:∀l,l∈b.l->(∃l',l'∈a.l/\Ge l' l)\/(∃r,r∈l.r/\Ge a r)):Ge a b:=by
 rw[gu];refine⟨λr h g=>?_,λl h g=>?_⟩
 .rcases hr r h with⟨r',h',k⟩|⟨l,h',k⟩
  .exact lJ h' (bH _ _ _ g k)
  .exact((gu b r).1 g).2 l h' k
 .rcases hl l h with⟨l',h',k⟩|⟨r,h',k⟩
  .exact kV h' (bH _ _ _ k g)
  .exact((gu l a).1 g).1 r h' k
theorem Same.eqv{a b:Gm}(h:Same a b):jc a b:=by
 rw[same_iff]at h;obtain⟨h1,h2,h3,h4⟩:=h;constructor
 .refine Dl (λr hr=>?_) (λl hl=>?_)
  .obtain⟨y,hy,s⟩:=h3 r hr;exact .inl ⟨y,hy,(Same.eqv s).1⟩
  .obtain⟨x,hx,s⟩:=h2 l hl;exact .inl ⟨x,hx,(Same.eqv s).1⟩
 .refine Dl (λr hr=>?_) (λl hl=>?_)
  .obtain⟨x,hx,s⟩:=h4 r hr;exact .inl ⟨x,hx,(Same.eqv s).2⟩
  .obtain⟨y,hy,s⟩:=h1 l hl;exact .inl ⟨y,hy,(Same.eqv s).2⟩
termination_by sizeOf a+sizeOf b
decreasing_by
 .have:=Gm.jH hr;have:=Gm.jH hy;omega
 .have:=Gm.jI hl;have:=Gm.jI hx;omega
 .have:=Gm.jH hr;have:=Gm.jH hx;omega
 .have:=Gm.jI hl;have:=Gm.jI hy;omega
def IU(a:Gm):Prop:=
 (∀x y,x∈a.l->y∈a.l->Ge x y->Same x y)/\(∀x y,x∈a.r->y∈a.r->Ge x y->Same x y)/\
 (∀x,x∈a.l->∀y,y∈x.r->¬Ge a y)/\(∀x,x∈a.r->∀y,y∈x.l->¬Ge y a)
inductive Canon:Gm->Prop
 |mk (a:Gm) (ht:IU a) (hl:∀x,x∈a.l->Canon x) (hr:∀x,x∈a.r->Canon x):Canon a
theorem Canon.tight{a:Gm}(h:Canon a):IU a:=by cases h;assumption
theorem Canon.l{a x:Gm}(h:Canon a)(hx:x∈a.l):Canon x:=by cases h with|mk _ _ hl _=>exact hl x hx
theorem Canon.r{a x:Gm}(h:Canon a)(hx:x∈a.r):Canon x:=by cases h with|mk _ _ _ hr=>exact hr x hx
theorem oh{a b:Gm}(h:¬Ge a b):(∃r,r∈a.r/\Ge b r)\/(∃l,l∈b.l/\Ge l a):=by
 rw[gu]at h;by_cases h1:∃r,r∈a.r/\Ge b r
 .exact .inl h1
 .refine .inr (iw λh2=>h ⟨λr hr g=>h1 ⟨r,hr,g⟩,λl hl g=>h2 ⟨l,hl,g⟩⟩)
theorem fT{a b:Gm}(ha:Canon a)(hb:Canon b)(h:jc a b):Same a b:=by
 have L:∀{a b:Gm},IU a->IU b->jc a b->∀x,x∈a.l->∃y,y∈b.l/\jc x y:=by
  intro a b ta tb h x hx;have n1:¬Ge x b:=λg=>kV hx (bH _ _ _ g h.2)
  rcases oh n1 with⟨r,hr,g⟩|⟨y,hy,g⟩
  .exact absurd (bH _ _ _ h.1 g) (ta.2.2.1 x hx r hr)
  .have n2:¬Ge y a:=λk=>kV hy (bH _ _ _ k h.1)
   rcases oh n2 with⟨r,hr,g2⟩|⟨z,hz,g2⟩
   .exact absurd (bH _ _ _ h.2 g2) (tb.2.2.1 y hy r hr)
   .have s:=ta.1 z x hz hx (bH _ _ _ g2 g)
    exact⟨y,hy,bH _ _ _ s.eqv.2 g2,g⟩
 have R:∀{a b:Gm},IU a->IU b->jc a b->∀x,x∈a.r->∃y,y∈b.r/\jc x y:=by
  intro a b ta tb h x hx;have n1:¬Ge b x:=λg=>lJ hx (bH _ _ _ h.1 g)
  rcases oh n1 with⟨y,hy,g⟩|⟨r,hr,g⟩
  .have n2:¬Ge a y:=λk=>lJ hy (bH _ _ _ h.2 k)
   rcases oh n2 with⟨z,hz,g2⟩|⟨r,hr,g2⟩
   .have s:=ta.2.1 x z hx hz (bH _ _ _ g g2)
    exact⟨y,hy,g,bH _ _ _ g2 s.eqv.2⟩
   .exact absurd (bH _ _ _ g2 h.1) (tb.2.2.2 y hy r hr)
  .exact absurd (bH _ _ _ g h.2) (ta.2.2.2 x hx r hr)
 rw[same_iff];refine⟨λx hx=>?_,λy hy=>?_,λx hx=>?_,λy hy=>?_⟩
 .obtain⟨y,hy,e⟩:=L ha.tight hb.tight h x hx;exact⟨y,hy,fT (ha.l hx) (hb.l hy) e⟩
 .obtain⟨x,hx,e⟩:=L hb.tight ha.tight h.symm y hy;exact⟨x,hx,fT (ha.l hx) (hb.l hy) e.symm⟩
 .obtain⟨y,hy,e⟩:=R ha.tight hb.tight h x hx;exact⟨y,hy,fT (ha.r hx) (hb.r hy) e⟩
 .obtain⟨x,hx,e⟩:=R hb.tight ha.tight h.symm y hy;exact⟨x,hx,fT (ha.r hx) (hb.r hy) e.symm⟩
termination_by sizeOf a+sizeOf b
decreasing_by
 .have:=Gm.jI hx;have:=Gm.jI hy;omega
 .have:=Gm.jI hx;have:=Gm.jI hy;omega
 .have:=Gm.jH hx;have:=Gm.jH hy;omega
 .have:=Gm.jH hx;have:=Gm.jH hy;omega
end Go.Proofs.YtplgooajigigkaaGreatDoor.bE
namespace Go.Proofs.YtplgooajigigkaaGreatDoor.bE
variable {i:Nat}
abbrev Nd:=List Nat × List Nat
abbrev dh:=List Nd
def WF(D:dh):Prop:=∀(i:Nat) (nd:Nd),D[i]?=some nd->(∀k,k∈nd.1->k<i)/\(∀k,k∈nd.2->k<i)
def Asc(l:List Nat):Prop:=l.Pairwise (· < ·)
structure Good(D:dh):Prop where
 wf:WF D
 xD:∀nd,nd∈D->Asc nd.1/\Asc nd.2
 nodup:D.Nodup
def vf(D:dh):Nat->Nat->Gm
 | 0,_=>.mk [] []
 |f+1,i=>match D[i]? with
  |some nd=>.mk (nd.1.map (vf D f)) (nd.2.map (vf D f))
  |none=>.mk [] []
def vl(D:dh)(i:Nat):Gm:=vf D (i+1) i
theorem G8{D:dh}(h:WF D):∀f i,i<f->vf D f i=vl D i:=by
 intro f
 induction f using Nat.strongRecOn with
 |_ f ih=>
  intro i hi;cases f with
  |zero=>omega
  |succ f=>
   unfold vl;simp only[vf];cases hd:D[i]? with
   |none=>rfl
   |some nd=>
    obtain⟨h1,h2⟩:=h i nd hd;simp only;congr 1
    .refine dC λk hk=>?_
     have hk':=h1 k hk;by_cases e:f=i
     .rw[e]
     .rw[ih f (by omega) k (by omega),ih i (by omega) k hk']
    .refine dC λk hk=>?_
     have hk':=h2 k hk;by_cases e:f=i
     .rw[e]
     .rw[ih f (by omega) k (by omega),ih i (by omega) k hk']
theorem mJ{D:dh}(h:WF D){nd:Nd}(hd:D[i]?=some nd):vl D i=.mk (nd.1.map (vl D)) (nd.2.map (vl D)):=by
 obtain⟨h1,h2⟩:=h i nd hd;unfold vl;rw[vf,hd];simp only;congr 1
 .exact dC λk hk=>G8 h i k (h1 k hk)
 .exact dC λk hk=>G8 h i k (h2 k hk)
theorem lI{D:dh}(h:WF D){nd:Nd}(hd:D[i]?=some nd):(vl D i).l=nd.1.map (vl D):=by rw[mJ h hd];rfl
theorem lH{D:dh}(h:WF D){nd:Nd}(hd:D[i]?=some nd):(vl D i).r=nd.2.map (vl D):=by rw[mJ h hd];rfl
theorem DR{D:dh}(hd:D[i]?=none):vl D i=.mk [] []:=by unfold vl;rw[vf,hd]
theorem getElem?_append_some{α:Type}{D E:List α}{x:α}(h:D[i]?=some x):(D++E)[i]?=some x:=by
 have:=(df.1 h).1;rw[dN this];exact h
theorem jJ{D E:dh}(h:WF D)(h':WF (D++E)):∀i,i<D.length->vl (D++E) i=vl D i:=by
 intro i
 induction i using Nat.strongRecOn with
 |_ i ih=>
  intro hi;have hd:D[i]?=some D[i]:=af hi;obtain⟨h1,h2⟩:=h i _ hd;rw[mJ h hd,mJ h' (getElem?_append_some hd)];congr 1
  .exact dC λk hk=>ih k (h1 k hk) (by have:=h1 k hk;omega)
  .exact dC λk hk=>ih k (h2 k hk) (by have:=h2 k hk;omega)
theorem WF.nil:WF []:=by intro i nd h;simp at h
theorem WF.snoc{D:dh}(h:WF D){nd:Nd}(h1:∀k,k∈nd.1->k<D.length)(h2:∀k,k∈nd.2->k<D.length):WF (D++[nd]):=by
 intro i x hx;by_cases hi:i<D.length
 .rw[dN hi]at hx;exact h i x hx
 .rw[dX (by omega)]at hx
  have:i-D.length=0:=by
   have:=(df.1 hx).1;simp at this;omega
  rw[this]at hx;simp at hx;subst hx;have e:i=D.length:=by omega
  subst e;exact⟨h1,h2⟩
theorem Good.nil:Good []:=⟨WF.nil,by simp,List.nodup_nil⟩
theorem Good.snoc{D:dh}(h:Good D){nd:Nd}(h1:∀k,k∈nd.1->k<D.length)(h2:∀k,k∈nd.2->k<D.length)(a1:Asc nd.1)(a2:Asc nd.2)(hn:nd ∉ D):Good (D++[nd]):=by
 refine⟨h.wf.snoc h1 h2,?_,?_⟩
 .intro x hx
  simp at hx;rcases hx with hx|rfl
  .exact h.xD x hx
  .exact⟨a1,a2⟩
 .rw[nW]
  exact⟨h.nodup,by simp,by intro a ha b hb;simp at hb;subst hb;intro e;subst e;exact hn ha⟩
theorem xx{a b:List Nat}(ha:Asc a)(hb:Asc b)(h:∀x,x∈a↔x∈b):a=b:=by
 induction a generalizing b with
 |nil=>cases b with
  |nil=>rfl
  |cons y b=>exact absurd ((h y).2 (by simp)) (by simp)
 |cons x a ih=>
  cases b with
  |nil=>exact absurd ((h x).1 (by simp)) (by simp)
  |cons y b=>
   unfold Asc at ha hb;rw[lu]at ha hb;have e:x=y:=by
    have p:=(h x).1 (by simp);have q:=(h y).2 (by simp);simp at p q;rcases p with p|p
    .exact p
    .rcases q with q|q
     .exact q.symm
     .have:=ha.1 y q;have:=hb.1 x p;omega
   subst e;congr 1;refine ih ha.2 hb.2 λz=>⟨λhz=>?_,λhz=>?_⟩
   .have:=(h z).1 (by simp[hz])
    simp at this;rcases this with rfl|t
    .exact absurd (ha.1 z hz) (by omega)
    .exact t
   .have:=(h z).2 (by simp[hz])
    simp at this;rcases this with rfl|t
    .exact absurd (hb.1 z hz) (by omega)
    .exact t
theorem lX{D:dh}(h:Good D):∀i j,i<D.length->j<D.length->Same (vl D i) (vl D j)->i=j:=by
 have main:∀n i j,i<n->i<D.length->j<D.length->Same (vl D i) (vl D j)->i=j:=by
  intro n
  induction n with
  |zero=>intro i j h0;omega
  |succ n ih=>
   intro i j hn hi hj s;have di:D[i]?=some D[i]:=af hi;have dj:D[j]?=some D[j]:=af hj;obtain⟨wi1,wi2⟩:=h.wf i _ di;obtain⟨wj1,wj2⟩:=h.wf j _ dj;rw[same_iff,lI h.wf di,lI h.wf dj,lH h.wf di,lH h.wf dj]at s;obtain⟨s1,s2,s3,s4⟩:=s;have e:D[i]=D[j]:=by
    have e1:(D[i]).1=(D[j]).1:=by
     refine xx (h.xD _ (ai hi)).1 (h.xD _ (ai hj)).1 λx=>⟨λhx=>?_,λhx=>?_⟩
     .obtain⟨y,hy,t⟩:=s1 _ (aV hx)
      obtain⟨k,hk,rfl⟩:=az.1 hy;have:=wi1 x hx;have:=wj1 k hk;rw[ih x k (by omega) (by omega) (by omega) t];exact hk
     .obtain⟨y,hy,t⟩:=s2 _ (aV hx)
      obtain⟨k,hk,rfl⟩:=az.1 hy;have:=wi1 k hk;have:=wj1 x hx;rw[<-ih k x (by omega) (by omega) (by omega) t];exact hk
    have e2:(D[i]).2=(D[j]).2:=by
     refine xx (h.xD _ (ai hi)).2 (h.xD _ (ai hj)).2 λx=>⟨λhx=>?_,λhx=>?_⟩
     .obtain⟨y,hy,t⟩:=s3 _ (aV hx)
      obtain⟨k,hk,rfl⟩:=az.1 hy;have:=wi2 x hx;have:=wj2 k hk;rw[ih x k (by omega) (by omega) (by omega) t];exact hk
     .obtain⟨y,hy,t⟩:=s4 _ (aV hx)
      obtain⟨k,hk,rfl⟩:=az.1 hy;have:=wi2 k hk;have:=wj2 x hx;rw[<-ih k x (by omega) (by omega) (by omega) t];exact hk
    exact Prod.ext e1 e2
   exact(List.getElem_inj h.nodup).1 e
 intro i j hi hj s;exact main (i+1) i j (by omega) hi hj s
end Go.Proofs.YtplgooajigigkaaGreatDoor.bE
namespace Go.Proofs.YtplgooajigigkaaGreatDoor.bE
variable {g x:Gm} {a b:List Nat} {D E F:dh} {i j k:Nat}
def born(g:Gm):Nat:=
 max (g.l.attach.foldr (λx m=>max (born x.1+1) m) 0) (g.r.attach.foldr (λx m=>max (born x.1+1) m) 0)
termination_by sizeOf g
decreasing_by
 .exact Gm.jI x.2
 .exact Gm.jH x.2
theorem BK{α:Type}(f:α->Nat)(l:List α)(n:Nat):l.foldr (λx m=>max (f x+1) m) 0<=n↔∀x,x∈l->f x<n:=by
 induction l with
 |nil=>simp
 |cons a l ih=>simp only[List.foldr_cons,Nat.max_le,jk,ih];constructor
               .rintro⟨h1,h2⟩ x (rfl|h)
                .omega
                .exact h2 x h
               .intro h;exact⟨h a (.inl rfl),λx hx=>h x (.inr hx)⟩
theorem uJ(g:Gm)(n:Nat):born g<=n↔(∀x,x∈g.l->born x<n)/\(∀x,x∈g.r->born x<n):=by
 rw[born,Nat.max_le,BK (λx:{x // x∈g.l}=>born x.1),BK (λx:{x // x∈g.r}=>born x.1)];constructor
 .rintro⟨h1,h2⟩;exact⟨λx hx=>h1 ⟨x,hx⟩ (by simp),λx hx=>h2 ⟨x,hx⟩ (by simp)⟩
 .rintro⟨h1,h2⟩;exact⟨λx _=>h1 x.1 x.2,λx _=>h2 x.1 x.2⟩
theorem yC(h:x∈g.l):born x<born g:=((uJ g _).1 (aJ _)).1 x h
theorem yB(h:x∈g.r):born x<born g:=((uJ g _).1 (aJ _)).2 x h
theorem mh{a b:Gm}(h:Same a b):born a=born b:=by
 have h':=h;rw[same_iff]at h';obtain⟨h1,h2,h3,h4⟩:=h';apply Nat.le_antisymm
 .rw[uJ]
  refine⟨λx hx=>?_,λx hx=>?_⟩
  .obtain⟨y,hy,s⟩:=h1 x hx;rw[mh s];exact yC hy
  .obtain⟨y,hy,s⟩:=h3 x hx;rw[mh s];exact yB hy
 .rw[uJ]
  refine⟨λy hy=>?_,λy hy=>?_⟩
  .obtain⟨x,hx,s⟩:=h2 y hy;rw[<-mh s];exact yC hx
  .obtain⟨x,hx,s⟩:=h4 y hy;rw[<-mh s];exact yB hx
termination_by sizeOf a+sizeOf b
decreasing_by
 .have:=Gm.jI hx;have:=Gm.jI hy;omega
 .have:=Gm.jH hx;have:=Gm.jH hy;omega
 .have:=Gm.jI hx;have:=Gm.jI hy;omega
 .have:=Gm.jH hx;have:=Gm.jH hy;omega
def cl:List Nat->List Nat->Int
 |[],[]=>0
 |[],_ :: _=>-1
 |_ :: _,[]=>1
 |a :: l,b :: m=>if a<b then -1 else if b<a then 1 else cl l m
theorem aa6(a:List Nat):cl a a=0:=by induction a with
 |nil=>rfl
 |cons x a ih=>simp[cl,ih]
theorem Yf(a b:List Nat):cl b a=- cl a b:=by
 induction a generalizing b with
 |nil=>cases b <;> simp[cl]
 |cons x a ih=>
  cases b with
  |nil=>simp[cl]
  |cons y b=>
   simp only[cl];by_cases h1:x<y
   .rw[if_neg (by omega),if_pos h1,if_pos h1];rfl
   .by_cases h2:y<x
    .rw[if_pos h2,if_neg h1,if_pos h2]
    .rw[if_neg h2,if_neg h1,if_neg h1,if_neg h2];exact ih b
theorem El(h:cl a b=0):a=b:=by
 induction a generalizing b with
 |nil=>cases b with
  |nil=>rfl
  |cons y b=>simp[cl]at h
 |cons x a ih=>
  cases b with
  |nil=>simp[cl]at h
  |cons y b=>
   simp only[cl]at h;split at h
   .omega
   .split at h
    .omega
    .rw[ih h,show x=y by omega]
theorem MH{c:List Nat}(h:cl a b<0)(k:cl b c<0):cl a c<0:=by
 induction a generalizing b c with
 |nil=>
  cases b with
  |nil=>simp[cl]at h
  |cons y b=>
   cases c with
   |nil=>simp[cl]at k
   |cons z c=>simp[cl]
 |cons x a ih=>
  cases b with
  |nil=>simp[cl]at h
  |cons y b=>
   cases c with
   |nil=>simp[cl]at k
   |cons z c=>
    simp only[cl]at h k ⊢;split at h <;> split at k <;> try(split at h <;> try omega)<;> try(split at k <;> try omega)
    all_goals first
     |(rw[if_pos (by omega)];omega)
     |(rename_i h1 h2;rw[if_neg (by omega),if_neg (by omega)];exact ih h k)
     |(split at k <;> first|omega|(rw[if_pos (by omega)];omega)|(rw[if_neg (by omega),if_neg (by omega)];exact ih h k))
def nc(a b:Nd):Int:=if cl a.1 b.1≠0 then cl a.1 b.1 else cl a.2 b.2
theorem Bl(a:Nd):nc a a=0:=by simp[nc,aa6]
theorem Bj{a b:Nd}(h:nc a b=0):a=b:=by
 unfold nc at h;split at h
 .contradiction
 .rename_i h1;exact Prod.ext (El (by simpa using h1)) (El h)
theorem Cr(a b:Nd):nc b a=- nc a b:=by
 unfold nc;rw[Yf a.1 b.1,Yf a.2 b.2];by_cases h:cl a.1 b.1=0
 .simp[h]
 .rw[if_pos (by omega),if_pos h]
theorem vo{a b c:Nd}(h:nc a b<0)(k:nc b c<0):nc a c<0:=by
 unfold nc at *;by_cases h1:cl a.1 b.1=0
 .have e:=El h1
  rw[if_neg (by simpa using h1)]at h;rw[e];by_cases h2:cl b.1 c.1=0
  .rw[if_neg (by simpa using h2)]at k ⊢;exact MH h k
  .rw[if_pos h2]at k ⊢;exact k
 .rw[if_pos h1]at h
  by_cases h2:cl b.1 c.1=0
  .have e:=El h2
   rw[<-e,if_pos h1];exact h
  .rw[if_pos h2]at k
   have:=MH h k;rw[if_pos (by omega)];exact this
def Ahead(D:dh)(i j:Nat):Prop:=
 born (vl D i)<born (vl D j)\/born (vl D i)=born (vl D j)/\nc (D.getD i ([],[])) (D.getD j ([],[]))<0
inductive Reach(D:dh)(i:Nat):Nat->Prop
 |here:Reach D i i
 |left {j k:Nat} {nd:Nd} (h:Reach D i j) (hd:D[j]?=some nd) (hk:k∈nd.1):Reach D i k
 |right {j k:Nat} {nd:Nd} (h:Reach D i j) (hd:D[j]?=some nd) (hk:k∈nd.2):Reach D i k
theorem oC(h:WF D):∀i,born (vl D i)<=i:=by
 intro i
 induction i using Nat.strongRecOn with
 |_ i ih=>
  cases hd:D[i]? with
  |none=>rw[DR hd,uJ];simp[Gm.l,Gm.r]
  |some nd=>
   obtain⟨h1,h2⟩:=h i nd hd;rw[uJ,lI h hd,lH h hd];refine⟨λx hx=>?_,λx hx=>?_⟩
   .obtain⟨k,hk,rfl⟩:=az.1 hx;have:=ih k (h1 k hk);have:=h1 k hk;omega
   .obtain⟨k,hk,rfl⟩:=az.1 hx;have:=ih k (h2 k hk);have:=h2 k hk;omega
structure bI(F:dh):Prop where
 good:Good F
 ne:F≠[]
 sorted:∀i j,i<j->j<F.length->Ahead F i j
 reach:∀i,i<F.length->Reach F (F.length-1) i
def bz(F:dh):Gm:=vl F (F.length-1)
theorem mi(h:WF D)(hr:Reach D i j):j<=i:=by
 induction hr with
 |here=>omega
 |left _ hd hk ih=>have:=(h _ _ hd).1 _ hk;omega
 |right _ hd hk ih=>have:=(h _ _ hd).2 _ hk;omega
theorem wJ(hD:Good D)(hE:Good E){a:Nat}(ha:a<E.length)(s:Same (vl D i) (vl E a))(hr:Reach D i j):
 ∃b,b<E.length/\Reach E a b/\Same (vl D j) (vl E b):=by
 induction hr with
 |here=>exact⟨a,ha,.here,s⟩
 |left hr hd hk ih=>
  obtain⟨b,hb,rb,sb⟩:=ih;have db:E[b]?=some E[b]:=af hb;rw[same_iff,lI hD.wf hd,lI hE.wf db]at sb;obtain⟨y,hy,t⟩:=sb.1 _ (aV hk);obtain⟨m,hm,rfl⟩:=az.1 hy;exact⟨m,by have:=(hE.wf b _ db).1 m hm;omega,.left rb db hm,t⟩
 |right hr hd hk ih=>
  obtain⟨b,hb,rb,sb⟩:=ih;have db:E[b]?=some E[b]:=af hb;rw[same_iff,lH hD.wf hd,lH hE.wf db]at sb;obtain⟨y,hy,t⟩:=sb.2.2.1 _ (aV hk);obtain⟨m,hm,rfl⟩:=az.1 hy;exact⟨m,by have:=(hE.wf b _ db).2 m hm;omega,.right rb db hm,t⟩
theorem I1(hD:WF D)(hE:WF E)(h:D.take k=E.take k):∀i,i<k->i<D.length->vl D i=vl E i:=by
 intro i
 induction i using Nat.strongRecOn with
 |_ i ih=>
  intro hik hi;have hd:D[i]?=some D[i]:=af hi;have he:E[i]?=some D[i]:=by
   have:=congrArg (λl=>l[i]?) h;simp only[pF,if_pos hik]at this;rw[<-this];exact hd
  obtain⟨h1,h2⟩:=hD i _ hd;rw[mJ hD hd,mJ hE he];congr 1
  .exact dC λm hm=>ih m (h1 m hm) (by have:=h1 m hm;omega) (by have:=h1 m hm;omega)
  .exact dC λm hm=>ih m (h2 m hm) (by have:=h2 m hm;omega) (by have:=h2 m hm;omega)
theorem PV(hF:bI F)(h:i<=j)(hj:j<F.length):born (vl F i)<=born (vl F j):=by
 rcases ib i j with h1|h1
 .rcases hF.sorted i j h1 hj with h2|h2 <;> omega
 .rw[show i=j by omega];exact aJ _
theorem jM(h:i<D.length):D.getD i ([],[])=D[i]:=by simp[List.getD,h]
theorem Ea(hF:bI F)(hE:bI E)(hs:Same (bz F) (bz E))(hk:F.take k=E.take k)(hn:k<F.length):
 ∃j,∃hj:j<E.length,k<=j/\Same (vl F k) (vl E j)/\E[j]=F[k]:=by
 have nF:0<F.length:=by omega
 have nE:0<E.length:=fV.2 hE.ne;obtain⟨j,hj,_,sj⟩:=wJ hF.good hE.good (by omega:E.length-1<E.length) hs (hF.reach k hn);have hkj:k<=j:=by
  rcases ib j k with h|h
  .have e:=I1 hF.good.wf hE.good.wf hk j h (by omega)
   rw[<-e]at sj;have:=lX hF.good k j hn (by omega) sj;omega
  .exact h
 refine⟨j,hj,hkj,sj,?_⟩;have dF:F[k]?=some F[k]:=af hn;have dE:E[j]?=some E[j]:=af hj;have bj:=mh sj;have low:∀o,o<E.length->born (vl E o)<born (vl E j)->o<k:=by
  intro o ho hb;obtain⟨m,hm,_,sm⟩:=wJ hE.good hF.good (by omega:F.length-1<F.length) (dU hs) (hE.reach o ho);have bm:=mh sm;have hmk:m<k:=by
   rcases ib m k with h|h
   .exact h
   .have:=PV hF h hm;omega
  have e:=I1 hF.good.wf hE.good.wf hk m hmk hm;rw[e]at sm;have hmE:m<E.length:=by
   have:=congrArg List.length hk;simp at this;omega
  have:=lX hE.good o m ho hmE sm;omega
 have wF:=hF.good.wf k _ dF;have wE:=hE.good.wf j _ dE;have s':=sj;rw[same_iff,lI hF.good.wf dF,lI hE.good.wf dE,lH hF.good.wf dF,lH hE.good.wf dE]at s';obtain⟨s1,s2,s3,s4⟩:=s';have key:∀x y,x<k->x<F.length->y<E.length->born (vl E y)<born (vl E j)->Same (vl F x) (vl E y)->x=y:=by
  intro x y hx hxF hy hb t;have hyk:=low y hy hb;have hyF:y<F.length:=by omega
  rw[<-I1 hF.good.wf hE.good.wf hk y hyk hyF]at t;exact lX hF.good x y hxF hyF t
 have bl:∀y,y∈(E[j]).1->born (vl E y)<born (vl E j):=λy hy=>yC (by rw[lI hE.good.wf dE];exact aV hy)
 have br:∀y,y∈(E[j]).2->born (vl E y)<born (vl E j):=λy hy=>yB (by rw[lH hE.good.wf dE];exact aV hy)
 refine Prod.ext ?_ ?_
 .refine xx (hE.good.xD _ (ai hj)).1 (hF.good.xD _ (ai hn)).1 λy=>⟨λhy=>?_,λhx=>?_⟩
  .obtain⟨x,hx,t⟩:=s2 _ (aV hy)
   obtain⟨x,hx2,rfl⟩:=az.1 hx;have:=wF.1 x hx2;have:=wE.1 y hy;rw[<-key x y (by omega) (by omega) (by omega) (bl y hy) t];exact hx2
  .obtain⟨z,hz,t⟩:=s1 _ (aV hx)
   obtain⟨z,hz2,rfl⟩:=az.1 hz;have:=wF.1 y hx;have:=wE.1 z hz2;rw[key y z (by omega) (by omega) (by omega) (bl z hz2) t];exact hz2
 .refine xx (hE.good.xD _ (ai hj)).2 (hF.good.xD _ (ai hn)).2 λy=>⟨λhy=>?_,λhx=>?_⟩
  .obtain⟨x,hx,t⟩:=s4 _ (aV hy)
   obtain⟨x,hx2,rfl⟩:=az.1 hx;have:=wF.2 x hx2;have:=wE.2 y hy;rw[<-key x y (by omega) (by omega) (by omega) (br y hy) t];exact hx2
  .obtain⟨z,hz,t⟩:=s3 _ (aV hx)
   obtain⟨z,hz2,rfl⟩:=az.1 hz;have:=wF.2 y hx;have:=wE.2 z hz2;rw[key y z (by omega) (by omega) (by omega) (br z hz2) t];exact hz2
theorem step_eq(hF:bI F)(hE:bI E)(hs:Same (bz F) (bz E))(hk:F.take k=E.take k)(hn:k<F.length)(hm:k<E.length):F[k]=E[k]:=by
 obtain⟨j,hj,hkj,sj,ej⟩:=Ea hF hE hs hk hn;obtain⟨i,hi,hki,si,ei⟩:=Ea hE hF (dU hs) hk.symm hm;rcases Nat.eq_or_lt_of_le hkj with h|h
 .subst h;exact ej.symm
 .rcases Nat.eq_or_lt_of_le hki with h'|h'
  .subst h';exact ei
  .have b1:=mh sj
   have b2:=mh si;have a1:=hE.sorted k j h hj;have a2:=hF.sorted k i h' hi;unfold Ahead at a1 a2;rw[jM hm,jM hj,ej]at a1;rw[jM hn,jM hi,ei]at a2;rcases a1 with a1|⟨a1,c1⟩
   .rcases a2 with a2|⟨a2,c2⟩ <;> omega
   .rcases a2 with a2|⟨a2,c2⟩
    .omega
    .have:=Cr F[k] E[k]
     omega
theorem kQ(hF:bI F)(hE:bI E)(hs:Same (bz F) (bz E)):F=E:=by
 have main:∀k,k<=F.length->k<=E.length/\F.take k=E.take k:=by
  intro k
  induction k with
  |zero=>intro _;exact⟨aU _,by simp⟩
  |succ k ih=>
   intro hk;obtain⟨h1,h2⟩:=ih (by omega);obtain⟨j,hj,hkj,_,_⟩:=Ea hF hE hs h2 (by omega);refine⟨by omega,?_⟩;rw[bJ (by omega),bJ (by omega),h2,step_eq hF hE hs h2 (by omega) (by omega)]
 obtain⟨h1,h2⟩:=main F.length (aJ _);rcases Nat.eq_or_lt_of_le h1 with h|h
 .rw[dZ,h,dZ]at h2;exact h2
 .obtain⟨j,hj,hkj,_,_⟩:=Ea hE hF (dU hs) h2.symm h
  omega
end Go.Proofs.YtplgooajigigkaaGreatDoor.bE
namespace Go.Proofs.YtplgooajigigkaaGreatDoor.bE
variable {c g x:Gm} {Q:Gm->Prop}
theorem U6(g:Gm):0<SizeOf.sizeOf g:=by cases g;simp;omega
theorem Bh(hc:Canon c)(h:jc c g)(h1:∀a,a∈g.l->∀b,b∈a.r->∀d,d∈b.l->Q d)(h2:∀d,Q d->∀e,e∈d.r->∀f,f∈e.l->Q f)(hx:x∈c.l):∃y,(y∈g.l\/Q y)/\jc x y:=by
 have key:∀n y,SizeOf.sizeOf y<=n->(y∈g.l\/Q y)->Ge y x->¬Ge y c->∃y,(y∈g.l\/Q y)/\jc x y:=by
  intro n
  induction n with
  |zero=>intro y hn;have:=U6 y;omega
  |succ n ih=>
   intro y hn hy g1 n1;rcases oh n1 with⟨r,hr,g2⟩|⟨z,hz,g2⟩
   .rcases oh (((gu y x).1 g1).1 r hr)with⟨s,hs,g3⟩|⟨l,hl,g3⟩
    .exact absurd (bH _ _ _ g2 g3) (hc.tight.2.2.1 x hx s hs)
    .refine ih l (by have:=Gm.jH hr;have:=Gm.jI hl;omega) (.inr ?_) g3 (((gu c r).1 g2).2 l hl)
     rcases hy with hy|hy
     .exact h1 y hy r hr l hl
     .exact h2 y hy r hr l hl
   .exact⟨y,hy,bH _ _ _ (hc.tight.1 z x hz hx (bH _ _ _ g2 g1)).eqv.2 g2,g1⟩
 rcases oh (λk=>kV hx (bH _ _ _ k h.2):¬Ge x g)with⟨r,hr,g1⟩|⟨y,hy,g1⟩
 .exact absurd (bH _ _ _ h.1 g1) (hc.tight.2.2.1 x hx r hr)
 .exact key _ y (aJ _) (.inl hy) g1 (λk=>kV hy (bH _ _ _ k h.1))
theorem Bf(hc:Canon c)(h:jc c g)(h1:∀a,a∈g.r->∀b,b∈a.l->∀d,d∈b.r->Q d)(h2:∀d,Q d->∀e,e∈d.l->∀f,f∈e.r->Q f)(hx:x∈c.r):∃y,(y∈g.r\/Q y)/\jc x y:=by
 have key:∀n y,SizeOf.sizeOf y<=n->(y∈g.r\/Q y)->Ge x y->¬Ge c y->∃y,(y∈g.r\/Q y)/\jc x y:=by
  intro n
  induction n with
  |zero=>intro y hn;have:=U6 y;omega
  |succ n ih=>
   intro y hn hy g1 n1;rcases oh n1 with⟨z,hz,g2⟩|⟨l,hl,g2⟩
   .exact⟨y,hy,g1,bH _ _ _ g2 (hc.tight.2.1 x z hx hz (bH _ _ _ g1 g2)).eqv.2⟩
   .rcases oh (((gu x y).1 g1).2 l hl)with⟨r,hr,g3⟩|⟨s,hs,g3⟩
    .refine ih r (by have:=Gm.jI hl;have:=Gm.jH hr;omega) (.inr ?_) g3 (((gu l c).1 g2).1 r hr)
     rcases hy with hy|hy
     .exact h1 y hy l hl r hr
     .exact h2 y hy l hl r hr
    .exact absurd (bH _ _ _ g3 g2) (hc.tight.2.2.2 x hx s hs)
 rcases oh (λk=>lJ hx (bH _ _ _ h.1 k):¬Ge g x)with⟨y,hy,g1⟩|⟨l,hl,g1⟩
 .exact key _ y (aJ _) (.inl hy) g1 (λk=>lJ hy (bH _ _ _ h.2 k))
 .exact absurd (bH _ _ _ g1 h.2) (hc.tight.2.2.2 x hx l hl)
end Go.Proofs.YtplgooajigigkaaGreatDoor.bE