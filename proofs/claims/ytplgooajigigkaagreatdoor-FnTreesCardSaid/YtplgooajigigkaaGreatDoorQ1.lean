/- 1 -/
import Derived.Test.YtplgooajigigkaaGreatDoorQ0
namespace Go.Proofs.YtplgooajigigkaaGreatDoor.aZ
inductive Gm where
 |mk (l r:List Gm)
def Gm.l:Gm->List Gm | .mk l _=>l
def Gm.r:Gm->List Gm | .mk _ r=>r
theorem Gm.jc{g x:Gm}(h:x∈g.l):sizeOf x<sizeOf g:=by
 cases g with
 |mk l r=>have:=qI h;simp[Gm.l]at this ⊢;omega
theorem Gm.jb{g x:Gm}(h:x∈g.r):sizeOf x<sizeOf g:=by
 cases g with
 |mk l r=>have:=qI h;simp[Gm.r]at this ⊢;omega
def Ge(a b:Gm):Prop:=
 (∀r,(h:r∈a.r)->¬Ge b r)/\(∀l,(h:l∈b.l)->¬Ge l a)
termination_by sizeOf a+sizeOf b
decreasing_by
 .have:=Gm.jb h;omega
 .have:=Gm.jc h;omega
theorem dY(a b:Gm):Ge a b↔(∀r,r∈a.r->¬Ge b r)/\(∀l,l∈b.l->¬Ge l a):=by
 rw[Ge]
theorem j6(a:Gm):Ge a a:=by
 rw[dY];refine⟨λr h g=>?_,λl h g=>?_⟩
 .exact((dY a r).1 g).1 r h (j6 r)
 .exact((dY l a).1 g).2 l h (j6 l)
termination_by sizeOf a
decreasing_by
 .exact Gm.jb h
 .exact Gm.jc h
theorem bZ(a b c:Gm)(h:Ge a b)(k:Ge b c):Ge a c:=by
 rw[dY];refine⟨λr hr g=>?_,λl hl g=>?_⟩
 .exact((dY a b).1 h).1 r hr (bZ b c r k g)
 .exact((dY b c).1 k).2 l hl (bZ l a b g h)
termination_by sizeOf a+sizeOf b+sizeOf c
decreasing_by
 .have:=Gm.jb hr;omega
 .have:=Gm.jc hl;omega
def eU(a b:Gm):Prop:=Ge a b/\Ge b a
theorem eU.refl(a:Gm):eU a a:=⟨j6 a,j6 a⟩
theorem eU.symm{a b:Gm}(h:eU a b):eU b a:=⟨h.2,h.1⟩
theorem eU.trans{a b c:Gm}(h:eU a b)(k:eU b c):eU a c:=⟨bZ _ _ _ h.1 k.1,bZ _ _ _ k.2 h.2⟩
theorem eU.nz{a b c:Gm}(h:eU a b):Ge a c↔Ge b c:=⟨bZ _ _ _ h.2,bZ _ _ _ h.1⟩
theorem eU.lM{a b c:Gm}(h:eU a b):Ge c a↔Ge c b:=⟨λg=>bZ _ _ _ g h.1,λg=>bZ _ _ _ g h.2⟩
theorem ku{a l:Gm}(h:l∈a.l):¬Ge l a:=((dY a a).1 (j6 a)).2 l h
theorem lG{a r:Gm}(h:r∈a.r):¬Ge a r:=((dY a a).1 (j6 a)).1 r h
def Same(a b:Gm):Prop:=
 (∀x,(h:x∈a.l)->∃y,∃(_:y∈b.l),Same x y)/\(∀y,(h:y∈b.l)->∃x,∃(_:x∈a.l),Same x y)/\
 (∀x,(h:x∈a.r)->∃y,∃(_:y∈b.r),Same x y)/\(∀y,(h:y∈b.r)->∃x,∃(_:x∈a.r),Same x y)
termination_by sizeOf a+sizeOf b
decreasing_by
 all_goals first
  |(rename_i h2;have:=Gm.jc h;have:=Gm.jc h2;omega)
  |(rename_i h2;have:=Gm.jb h;have:=Gm.jb h2;omega)
theorem same_iff(a b:Gm):Same a b↔
 (∀x,x∈a.l->∃y,y∈b.l/\Same x y)/\(∀y,y∈b.l->∃x,x∈a.l/\Same x y)/\
 (∀x,x∈a.r->∃y,y∈b.r/\Same x y)/\(∀y,y∈b.r->∃x,x∈a.r/\Same x y):=by
 rw[Same];simp only[exists_prop]
theorem iQ(a:Gm):Same a a:=by
 rw[same_iff];exact⟨λx h=>⟨x,h,iQ x⟩,λx h=>⟨x,h,iQ x⟩,λx h=>⟨x,h,iQ x⟩,λx h=>⟨x,h,iQ x⟩⟩
termination_by sizeOf a
decreasing_by
 .exact Gm.jc h
 .exact Gm.jc h
 .exact Gm.jb h
 .exact Gm.jb h
theorem iF{a b:Gm}(h:Same a b):Same b a:=by
 rw[same_iff]at h ⊢;obtain⟨h1,h2,h3,h4⟩:=h;refine⟨λy hy=>?_,λx hx=>?_,λy hy=>?_,λx hx=>?_⟩
 .obtain⟨x,hx,s⟩:=h2 y hy;exact⟨x,hx,iF s⟩
 .obtain⟨y,hy,s⟩:=h1 x hx;exact⟨y,hy,iF s⟩
 .obtain⟨x,hx,s⟩:=h4 y hy;exact⟨x,hx,iF s⟩
 .obtain⟨y,hy,s⟩:=h3 x hx;exact⟨y,hy,iF s⟩
termination_by sizeOf a+sizeOf b
decreasing_by
 .have:=Gm.jc hx;have:=Gm.jc hy;omega
 .have:=Gm.jc hx;have:=Gm.jc hy;omega
 .have:=Gm.jb hx;have:=Gm.jb hy;omega
 .have:=Gm.jb hx;have:=Gm.jb hy;omega
theorem fE{a b c:Gm}(h:Same a b)(k:Same b c):Same a c:=by
 rw[same_iff]at h k ⊢;obtain⟨h1,h2,h3,h4⟩:=h;obtain⟨k1,k2,k3,k4⟩:=k;refine⟨λx hx=>?_,λz hz=>?_,λx hx=>?_,λz hz=>?_⟩
 .obtain⟨y,hy,s⟩:=h1 x hx;obtain⟨z,hz,t⟩:=k1 y hy;exact⟨z,hz,fE s t⟩
 .obtain⟨y,hy,t⟩:=k2 z hz;obtain⟨x,hx,s⟩:=h2 y hy;exact⟨x,hx,fE s t⟩
 .obtain⟨y,hy,s⟩:=h3 x hx;obtain⟨z,hz,t⟩:=k3 y hy;exact⟨z,hz,fE s t⟩
 .obtain⟨y,hy,t⟩:=k4 z hz;obtain⟨x,hx,s⟩:=h4 y hy;exact⟨x,hx,fE s t⟩
termination_by sizeOf a+sizeOf b+sizeOf c
decreasing_by
 .have:=Gm.jc hx;have:=Gm.jc hy;have:=Gm.jc hz;omega
 .have:=Gm.jc hx;have:=Gm.jc hy;have:=Gm.jc hz;omega
 .have:=Gm.jb hx;have:=Gm.jb hy;have:=Gm.jb hz;omega
 .have:=Gm.jb hx;have:=Gm.jb hy;have:=Gm.jb hz;omega
theorem zV{a b:Gm}(hr:∀r,r∈a.r->(∃r',r'∈b.r/\Ge r r')\/(∃l,l∈r.l/\Ge l b))
 (hl:∀l,l∈b.l->(∃l',l'∈a.l/\Ge l' l)\/(∃r,r∈l.r/\Ge a r)):Ge a b:=by
 rw[dY];refine⟨λr h g=>?_,λl h g=>?_⟩
 .rcases hr r h with⟨r',h',k⟩|⟨l,h',k⟩
  .exact lG h' (bZ _ _ _ g k)
  .exact((dY b r).1 g).2 l h' k
 .rcases hl l h with⟨l',h',k⟩|⟨r,h',k⟩
  .exact ku h' (bZ _ _ _ k g)
  .exact((dY l a).1 g).1 r h' k
theorem Same.eqv{a b:Gm}(h:Same a b):eU a b:=by
 rw[same_iff]at h;obtain⟨h1,h2,h3,h4⟩:=h;constructor
 .refine zV (λr hr=>?_) (λl hl=>?_)
  .obtain⟨y,hy,s⟩:=h3 r hr;exact .inl ⟨y,hy,(Same.eqv s).1⟩
  .obtain⟨x,hx,s⟩:=h2 l hl;exact .inl ⟨x,hx,(Same.eqv s).1⟩
 .refine zV (λr hr=>?_) (λl hl=>?_)
  .obtain⟨x,hx,s⟩:=h4 r hr;exact .inl ⟨x,hx,(Same.eqv s).2⟩
  .obtain⟨y,hy,s⟩:=h1 l hl;exact .inl ⟨y,hy,(Same.eqv s).2⟩
termination_by sizeOf a+sizeOf b
decreasing_by
 .have:=Gm.jb hr;have:=Gm.jb hy;omega
 .have:=Gm.jc hl;have:=Gm.jc hx;omega
 .have:=Gm.jb hr;have:=Gm.jb hx;omega
 .have:=Gm.jc hl;have:=Gm.jc hy;omega
def Ez(a:Gm):Prop:=
 (∀x y,x∈a.l->y∈a.l->Ge x y->Same x y)/\(∀x y,x∈a.r->y∈a.r->Ge x y->Same x y)/\
 (∀x,x∈a.l->∀y,y∈x.r->¬Ge a y)/\(∀x,x∈a.r->∀y,y∈x.l->¬Ge y a)
inductive Canon:Gm->Prop
 |mk (a:Gm) (ht:Ez a) (hl:∀x,x∈a.l->Canon x) (hr:∀x,x∈a.r->Canon x):Canon a
theorem Canon.tight{a:Gm}(h:Canon a):Ez a:=by cases h;assumption
theorem Canon.l{a x:Gm}(h:Canon a)(hx:x∈a.l):Canon x:=by cases h with|mk _ _ hl _=>exact hl x hx
theorem Canon.r{a x:Gm}(h:Canon a)(hx:x∈a.r):Canon x:=by cases h with|mk _ _ _ hr=>exact hr x hx
theorem Fb{a b:Gm}(h:¬Ge a b):(∃r,r∈a.r/\Ge b r)\/(∃l,l∈b.l/\Ge l a):=by
 rw[dY]at h;by_cases h1:∃r,r∈a.r/\Ge b r
 .exact .inl h1
 .refine .inr (kF λh2=>h ⟨λr hr g=>h1 ⟨r,hr,g⟩,λl hl g=>h2 ⟨l,hl,g⟩⟩)
theorem iA{a b:Gm}(ha:Canon a)(hb:Canon b)(h:eU a b):Same a b:=by
 have L:∀{a b:Gm},Ez a->Ez b->eU a b->∀x,x∈a.l->∃y,y∈b.l/\eU x y:=by
  intro a b ta tb h x hx;have n1:¬Ge x b:=λg=>ku hx (bZ _ _ _ g h.2)
  rcases Fb n1 with⟨r,hr,g⟩|⟨y,hy,g⟩
  .exact absurd (bZ _ _ _ h.1 g) (ta.2.2.1 x hx r hr)
  .have n2:¬Ge y a:=λk=>ku hy (bZ _ _ _ k h.1)
   rcases Fb n2 with⟨r,hr,g2⟩|⟨z,hz,g2⟩
   .exact absurd (bZ _ _ _ h.2 g2) (tb.2.2.1 y hy r hr)
   .have s:=ta.1 z x hz hx (bZ _ _ _ g2 g)
    exact⟨y,hy,bZ _ _ _ s.eqv.2 g2,g⟩
 have R:∀{a b:Gm},Ez a->Ez b->eU a b->∀x,x∈a.r->∃y,y∈b.r/\eU x y:=by
  intro a b ta tb h x hx;have n1:¬Ge b x:=λg=>lG hx (bZ _ _ _ h.1 g)
  rcases Fb n1 with⟨y,hy,g⟩|⟨r,hr,g⟩
  .have n2:¬Ge a y:=λk=>lG hy (bZ _ _ _ h.2 k)
   rcases Fb n2 with⟨z,hz,g2⟩|⟨r,hr,g2⟩
   .have s:=ta.2.1 x z hx hz (bZ _ _ _ g g2)
    exact⟨y,hy,g,bZ _ _ _ g2 s.eqv.2⟩
   .exact absurd (bZ _ _ _ g2 h.1) (tb.2.2.2 y hy r hr)
  .exact absurd (bZ _ _ _ g h.2) (ta.2.2.2 x hx r hr)
 rw[same_iff];refine⟨λx hx=>?_,λy hy=>?_,λx hx=>?_,λy hy=>?_⟩
 .obtain⟨y,hy,e⟩:=L ha.tight hb.tight h x hx;exact⟨y,hy,iA (ha.l hx) (hb.l hy) e⟩
 .obtain⟨x,hx,e⟩:=L hb.tight ha.tight h.symm y hy;exact⟨x,hx,iA (ha.l hx) (hb.l hy) e.symm⟩
 .obtain⟨y,hy,e⟩:=R ha.tight hb.tight h x hx;exact⟨y,hy,iA (ha.r hx) (hb.r hy) e⟩
 .obtain⟨x,hx,e⟩:=R hb.tight ha.tight h.symm y hy;exact⟨x,hx,iA (ha.r hx) (hb.r hy) e.symm⟩
termination_by sizeOf a+sizeOf b
decreasing_by
 .have:=Gm.jc hx;have:=Gm.jc hy;omega
 .have:=Gm.jc hx;have:=Gm.jc hy;omega
 .have:=Gm.jb hx;have:=Gm.jb hy;omega
 .have:=Gm.jb hx;have:=Gm.jb hy;omega
end Go.Proofs.YtplgooajigigkaaGreatDoor.aZ
namespace Go.Proofs.YtplgooajigigkaaGreatDoor.aZ
variable {i:Nat}
abbrev Nd:=List Nat × List Nat
abbrev cZ:=List Nd
def WF(D:cZ):Prop:=∀(i:Nat) (nd:Nd),D[i]?=some nd->(∀k,k∈nd.1->k<i)/\(∀k,k∈nd.2->k<i)
def Asc(l:List Nat):Prop:=l.Pairwise (· < ·)
structure Good(D:cZ):Prop where
 wf:WF D
 yL:∀nd,nd∈D->Asc nd.1/\Asc nd.2
 nodup:D.Nodup
def vf(D:cZ):Nat->Nat->Gm
 | 0,_=>.mk [] []
 |f+1,i=>match D[i]? with
  |some nd=>.mk (nd.1.map (vf D f)) (nd.2.map (vf D f))
  |none=>.mk [] []
def vl(D:cZ)(i:Nat):Gm:=vf D (i+1) i
theorem Dm{D:cZ}(h:WF D):∀f i,i<f->vf D f i=vl D i:=by
 intro f
 induction f using Nat.strongRecOn with
 |_ f ih=>
  intro i hi;cases f with
  |zero=>omega
  |succ f=>
   unfold vl;simp only[vf];cases hd:D[i]? with
   |none=>rfl
   |some nd=>
    obtain⟨h1,h2⟩:=h i nd hd;simp only;congr 1
    .refine bE λk hk=>?_
     have hk':=h1 k hk;by_cases e:f=i
     .rw[e]
     .rw[ih f (by omega) k (by omega),ih i (by omega) k hk']
    .refine bE λk hk=>?_
     have hk':=h2 k hk;by_cases e:f=i
     .rw[e]
     .rw[ih f (by omega) k (by omega),ih i (by omega) k hk']
theorem mK{D:cZ}(h:WF D){nd:Nd}(hd:D[i]?=some nd):vl D i=.mk (nd.1.map (vl D)) (nd.2.map (vl D)):=by
 obtain⟨h1,h2⟩:=h i nd hd;unfold vl;rw[vf,hd];simp only;congr 1
 .exact bE λk hk=>Dm h i k (h1 k hk)
 .exact bE λk hk=>Dm h i k (h2 k hk)
theorem oN{D:cZ}(h:WF D){nd:Nd}(hd:D[i]?=some nd):(vl D i).l=nd.1.map (vl D):=by rw[mK h hd];rfl
theorem oK{D:cZ}(h:WF D){nd:Nd}(hd:D[i]?=some nd):(vl D i).r=nd.2.map (vl D):=by rw[mK h hd];rfl
theorem EG{D:cZ}(hd:D[i]?=none):vl D i=.mk [] []:=by unfold vl;rw[vf,hd]
theorem getElem?_append_some{α:Type}{D E:List α}{x:α}(h:D[i]?=some x):(D++E)[i]?=some x:=by
 have:=(cK.1 h).1;rw[bQ this];exact h
theorem gV{D E:cZ}(h:WF D)(h':WF (D++E)):∀i,i<D.length->vl (D++E) i=vl D i:=by
 intro i
 induction i using Nat.strongRecOn with
 |_ i ih=>
  intro hi;have hd:D[i]?=some D[i]:=ae hi;obtain⟨h1,h2⟩:=h i _ hd;rw[mK h hd,mK h' (getElem?_append_some hd)];congr 1
  .exact bE λk hk=>ih k (h1 k hk) (by have:=h1 k hk;omega)
  .exact bE λk hk=>ih k (h2 k hk) (by have:=h2 k hk;omega)
theorem WF.nil:WF []:=by intro i nd h;simp at h
theorem WF.snoc{D:cZ}(h:WF D){nd:Nd}(h1:∀k,k∈nd.1->k<D.length)(h2:∀k,k∈nd.2->k<D.length):WF (D++[nd]):=by
 intro i x hx;by_cases hi:i<D.length
 .rw[bQ hi]at hx;exact h i x hx
 .rw[dC (by omega)]at hx
  have:i-D.length=0:=by
   have:=(cK.1 hx).1;simp at this;omega
  rw[this]at hx;simp at hx;subst hx;have e:i=D.length:=by omega
  subst e;exact⟨h1,h2⟩
theorem Good.nil:Good []:=⟨WF.nil,by simp,List.nodup_nil⟩
theorem Good.snoc{D:cZ}(h:Good D){nd:Nd}(h1:∀k,k∈nd.1->k<D.length)(h2:∀k,k∈nd.2->k<D.length)(a1:Asc nd.1)(a2:Asc nd.2)(hn:nd ∉ D):Good (D++[nd]):=by
 refine⟨h.wf.snoc h1 h2,?_,?_⟩
 .intro x hx
  simp at hx;rcases hx with hx|rfl
  .exact h.yL x hx
  .exact⟨a1,a2⟩
 .rw[jq]
  exact⟨h.nodup,by simp,by intro a ha b hb;simp at hb;subst hb;intro e;subst e;exact hn ha⟩
theorem tC{a b:List Nat}(ha:Asc a)(hb:Asc b)(h:∀x,x∈a↔x∈b):a=b:=by
 induction a generalizing b with
 |nil=>cases b with
  |nil=>rfl
  |cons y b=>exact absurd ((h y).2 (by simp)) (by simp)
 |cons x a ih=>
  cases b with
  |nil=>exact absurd ((h x).1 (by simp)) (by simp)
  |cons y b=>
   unfold Asc at ha hb;rw[mE]at ha hb;have e:x=y:=by
    have p:=(h x).1 (by simp);have q:=(h y).2 (by simp);simp at p q;rcases p with p|p
    .exact p
    .rcases q with q|q
     .exact q.symm
     .have:=ha.1 y q;have:=hb.1 x p;omega
   subst e;congr 1;refine ih ha.2 hb.2 λz=>⟨λhz=>?_,λhz=>?_⟩
   .have:=(h z).1 (by simp[hz])
    simp at this;rcases this with rfl|t
    .exact absurd (ha.1 z hz) (by omega)
    .exact t
   .have:=(h z).2 (by simp[hz])
    simp at this;rcases this with rfl|t
    .exact absurd (hb.1 z hz) (by omega)
    .exact t
theorem ma{D:cZ}(h:Good D):∀i j,i<D.length->j<D.length->Same (vl D i) (vl D j)->i=j:=by
 have main:∀n i j,i<n->i<D.length->j<D.length->Same (vl D i) (vl D j)->i=j:=by
  intro n
  induction n with
  |zero=>intro i j h0;omega
  |succ n ih=>
   intro i j hn hi hj s;have di:D[i]?=some D[i]:=ae hi;have dj:D[j]?=some D[j]:=ae hj;obtain⟨wi1,wi2⟩:=h.wf i _ di;obtain⟨wj1,wj2⟩:=h.wf j _ dj;rw[same_iff,oN h.wf di,oN h.wf dj,oK h.wf di,oK h.wf dj]at s;obtain⟨s1,s2,s3,s4⟩:=s;have e:D[i]=D[j]:=by
    have e1:(D[i]).1=(D[j]).1:=by
     refine tC (h.yL _ (aj hi)).1 (h.yL _ (aj hj)).1 λx=>⟨λhx=>?_,λhx=>?_⟩
     .obtain⟨y,hy,t⟩:=s1 _ (bD hx)
      obtain⟨k,hk,rfl⟩:=ay.1 hy;have:=wi1 x hx;have:=wj1 k hk;rw[ih x k (by omega) (by omega) (by omega) t];exact hk
     .obtain⟨y,hy,t⟩:=s2 _ (bD hx)
      obtain⟨k,hk,rfl⟩:=ay.1 hy;have:=wi1 k hk;have:=wj1 x hx;rw[<-ih k x (by omega) (by omega) (by omega) t];exact hk
    have e2:(D[i]).2=(D[j]).2:=by
     refine tC (h.yL _ (aj hi)).2 (h.yL _ (aj hj)).2 λx=>⟨λhx=>?_,λhx=>?_⟩
     .obtain⟨y,hy,t⟩:=s3 _ (bD hx)
      obtain⟨k,hk,rfl⟩:=ay.1 hy;have:=wi2 x hx;have:=wj2 k hk;rw[ih x k (by omega) (by omega) (by omega) t];exact hk
     .obtain⟨y,hy,t⟩:=s4 _ (bD hx)
      obtain⟨k,hk,rfl⟩:=ay.1 hy;have:=wi2 k hk;have:=wj2 x hx;rw[<-ih k x (by omega) (by omega) (by omega) t];exact hk
    exact Prod.ext e1 e2
   exact(List.getElem_inj h.nodup).1 e
 intro i j hi hj s;exact main (i+1) i j (by omega) hi hj s
end Go.Proofs.YtplgooajigigkaaGreatDoor.aZ
namespace Go.Proofs.YtplgooajigigkaaGreatDoor.aZ
variable {a b x:Gm}
def plus:Gm->Gm->Gm
 |a,b=>.mk ((a.l.attach.map λx=>plus x.1 b)++b.l.attach.map λy=>plus a y.1) ((a.r.attach.map λx=>plus x.1 b)++b.r.attach.map λy=>plus a y.1)
termination_by a b=>sizeOf a+sizeOf b
decreasing_by
 .have:=Gm.jc x.2;omega
 .have:=Gm.jc y.2;omega
 .have:=Gm.jb x.2;omega
 .have:=Gm.jb y.2;omega
theorem MV(a b:Gm):plus a b=.mk ((a.l.map λx=>plus x b)++b.l.map λy=>plus a y) ((a.r.map λx=>plus x b)++b.r.map λy=>plus a y):=by
 rw[plus];simp
theorem iq:x∈(plus a b).l↔(∃y,y∈a.l/\plus y b=x)\/(∃y,y∈b.l/\plus a y=x):=by
 rw[MV];simp[Gm.l]
theorem il:x∈(plus a b).r↔(∃y,y∈a.r/\plus y b=x)\/(∃y,y∈b.r/\plus a y=x):=by
 rw[MV];simp[Gm.r]
theorem jM(a b:Gm):Same (plus a b) (plus b a):=by
 rw[same_iff];refine⟨λx hx=>?_,λy hy=>?_,λx hx=>?_,λy hy=>?_⟩
 .rcases iq.1 hx with⟨z,hz,rfl⟩|⟨z,hz,rfl⟩
  .exact⟨_,iq.2 (.inr ⟨z,hz,rfl⟩),jM _ _⟩
  .exact⟨_,iq.2 (.inl ⟨z,hz,rfl⟩),jM _ _⟩
 .rcases iq.1 hy with⟨z,hz,rfl⟩|⟨z,hz,rfl⟩
  .exact⟨_,iq.2 (.inr ⟨z,hz,rfl⟩),jM _ _⟩
  .exact⟨_,iq.2 (.inl ⟨z,hz,rfl⟩),jM _ _⟩
 .rcases il.1 hx with⟨z,hz,rfl⟩|⟨z,hz,rfl⟩
  .exact⟨_,il.2 (.inr ⟨z,hz,rfl⟩),jM _ _⟩
  .exact⟨_,il.2 (.inl ⟨z,hz,rfl⟩),jM _ _⟩
 .rcases il.1 hy with⟨z,hz,rfl⟩|⟨z,hz,rfl⟩
  .exact⟨_,il.2 (.inr ⟨z,hz,rfl⟩),jM _ _⟩
  .exact⟨_,il.2 (.inl ⟨z,hz,rfl⟩),jM _ _⟩
termination_by sizeOf a+sizeOf b
decreasing_by
 all_goals first
  |(have:=Gm.jc hz;omega)
  |(have:=Gm.jb hz;omega)
theorem qz(x y b:Gm):Ge (plus x b) (plus y b)↔Ge x y:=by
 constructor
 .intro h
  obtain⟨h1,h2⟩:=(dY _ _).1 h;rw[dY];exact⟨λr hr g=>h1 _ (il.2 (.inl ⟨r,hr,rfl⟩)) ((qz y r b).2 g),λl hl g=>h2 _ (iq.2 (.inl ⟨l,hl,rfl⟩)) ((qz l x b).2 g)⟩
 .intro h
  obtain⟨h1,h2⟩:=(dY _ _).1 h;rw[dY];refine⟨λr hr g=>?_,λl hl g=>?_⟩
  .rcases il.1 hr with⟨z,hz,rfl⟩|⟨z,hz,rfl⟩
   .exact h1 z hz ((qz y z b).1 g)
   .exact((dY _ _).1 g).1 _ (il.2 (.inr ⟨z,hz,rfl⟩)) ((qz x y z).2 h)
  .rcases iq.1 hl with⟨z,hz,rfl⟩|⟨z,hz,rfl⟩
   .exact h2 z hz ((qz z x b).1 g)
   .exact((dY _ _).1 g).2 _ (iq.2 (.inr ⟨z,hz,rfl⟩)) ((qz x y z).2 h)
termination_by sizeOf x+sizeOf y+sizeOf b
decreasing_by
 all_goals first
  |(have:=Gm.jb hr;omega)
  |(have:=Gm.jc hl;omega)
  |(have:=Gm.jb hz;omega)
  |(have:=Gm.jc hz;omega)
theorem pX{a' b':Gm}(h:eU a a')(k:eU b b'):eU (plus a b) (plus a' b'):=by
 have p:∀{u v:Gm} (c:Gm),eU u v->eU (plus u c) (plus v c):=λc e=>⟨(qz _ _ c).2 e.1,(qz _ _ c).2 e.2⟩
 exact(p b h).trans ((jM a' b).eqv.trans ((p a' k).trans (jM b' a').eqv))
def jX:Gm:=.mk [] []
theorem pq(a:Gm):Same (plus a jX) a:=by
 rw[same_iff];refine⟨λx hx=>?_,λy hy=>⟨_,iq.2 (.inl ⟨y,hy,rfl⟩),pq y⟩,λx hx=>?_,λy hy=>⟨_,il.2 (.inl ⟨y,hy,rfl⟩),pq y⟩⟩
 .rcases iq.1 hx with⟨z,hz,rfl⟩|⟨z,hz,rfl⟩
  .exact⟨z,hz,pq z⟩
  .cases hz
 .rcases il.1 hx with⟨z,hz,rfl⟩|⟨z,hz,rfl⟩
  .exact⟨z,hz,pq z⟩
  .cases hz
termination_by sizeOf a
decreasing_by
 all_goals first
  |exact Gm.jc hy
  |exact Gm.jb hy
  |exact Gm.jc hz
  |exact Gm.jb hz
end Go.Proofs.YtplgooajigigkaaGreatDoor.aZ
namespace Go.Proofs.YtplgooajigigkaaGreatDoor.aZ
variable {n p:Nat} {k:Int} {x:Gm}
def nn:Nat->Gm
 | 0=>.mk [] []
 |n+1=>.mk [nn n] []
def nm:Nat->Gm
 | 0=>.mk [] []
 |n+1=>.mk [] [nm n]
def nw(k:Int):Gm:=if 0<=k then nn k.toNat else nm (-k).toNat
def nf:Nat->Int->Gm
 | 0,k=>nw k
 |p+1,k=>if k % 2=0 then nf p (k / 2)else .mk [nf p ((k-1) / 2)] [nf p ((k+1) / 2)]
theorem Bw:(nn n).l=if n=0 then []else [nn (n-1)]:=by cases n <;> simp[nn,Gm.l]
theorem KC:(nn n).r=[]:=by cases n <;> simp[nn,Gm.r]
theorem ZE:(nm n).l=[]:=by cases n <;> simp[nm,Gm.l]
theorem Ww:(nm n).r=if n=0 then []else [nm (n-1)]:=by cases n <;> simp[nm,Gm.r]
theorem WJ(h:0<k):(nw k).l=[nw (k-1)]:=by
 unfold nw;rw[if_pos (by omega),if_pos (by omega),Bw,if_neg (by omega)];congr 2;omega
theorem Wj(h:k<0):(nw k).r=[nw (k+1)]:=by
 unfold nw;rw[if_neg (by omega),Ww,if_neg (by omega)];by_cases e:k+1=0
 .rw[if_pos (by omega),e];rw[show(-k).toNat-1=0 by omega];rfl
 .rw[if_neg (by omega)];congr 2;omega
theorem ace(h:k<=0):(nw k).l=[]:=by
 unfold nw;split
 .rw[Bw,if_pos (by omega)]
 .rw[ZE]
theorem ab4(h:0<=k):(nw k).r=[]:=by
 unfold nw;rw[if_pos h,KC]
theorem E9(h:x∈(nw k).l):0<k/\x=nw (k-1):=by
 by_cases e:0<k
 .rw[WJ e]at h;exact⟨e,by simpa using h⟩
 .rw[ace (by omega)]at h;simp at h
theorem E8(h:x∈(nw k).r):k<0/\x=nw (k+1):=by
 by_cases e:k<0
 .rw[Wj e]at h;exact⟨e,by simpa using h⟩
 .rw[ab4 (by omega)]at h;simp at h
theorem eO(p:Nat)(k:Int):nf (p+1) (2*k)=nf p k:=by
 rw[nf,if_pos (by omega)];congr 1;omega
theorem lH(h:k % 2≠0):nf (p+1) k=.mk [nf (p+1) (k-1)] [nf (p+1) (k+1)]:=by
 rw[nf,if_neg h];have h1:nf (p+1) (k-1)=nf p ((k-1) / 2):=by rw[nf,if_pos (by omega)]
 have h2:nf (p+1) (k+1)=nf p ((k+1) / 2):=by rw[nf,if_pos (by omega)]
 rw[h1,h2]
theorem Ad:∀{p:Nat} {k:Int} {x:Gm},x∈(nf p k).l->∃j,j<k/\x=nf p j
 | 0,k,x,h=>⟨k-1,by omega,(E9 h).2⟩
 |p+1,k,x,h=>by
  by_cases e:k % 2=0
  .rw[nf,if_pos e]at h
   obtain⟨j,hj,rfl⟩:=Ad h;exact⟨2*j,by omega,(eO p j).symm⟩
  .rw[lH e]at h
   simp only[Gm.l,dB]at h;exact⟨k-1,by omega,h⟩
theorem Ac:∀{p:Nat} {k:Int} {x:Gm},x∈(nf p k).r->∃j,k<j/\x=nf p j
 | 0,k,x,h=>⟨k+1,by omega,(E8 h).2⟩
 |p+1,k,x,h=>by
  by_cases e:k % 2=0
  .rw[nf,if_pos e]at h
   obtain⟨j,hj,rfl⟩:=Ac h;exact⟨2*j,by omega,(eO p j).symm⟩
  .rw[lH e]at h
   simp only[Gm.r,dB]at h;exact⟨k+1,by omega,h⟩
theorem RJ:∀(p:Nat) {k m:Int},k<m->(∃j,j<=m/\nf p j∈(nf p k).r)\/∃j,k<=j/\nf p j∈(nf p m).l
 | 0,k,m,h=>by
  by_cases hm:0<m
  .exact .inr ⟨m-1,by omega,by show nw (m-1)∈(nw m).l;rw[WJ hm];simp⟩
  .exact .inl ⟨k+1,by omega,by show nw (k+1)∈(nw k).r;rw[Wj (by omega)];simp⟩
 |p+1,k,m,h=>by
  by_cases e:k % 2=0
  .by_cases e2:m % 2=0
   .obtain⟨a,rfl⟩:∃a,k=2*a:=⟨k / 2,by omega⟩
    obtain⟨b,rfl⟩:∃b,m=2*b:=⟨m / 2,by omega⟩;rw[eO,eO];rcases RJ p (k:=a) (m:=b) (by omega)with⟨j,hj,x⟩|⟨j,hj,x⟩
    .exact .inl ⟨2*j,by omega,by rw[eO];exact x⟩
    .exact .inr ⟨2*j,by omega,by rw[eO];exact x⟩
   .exact .inr ⟨m-1,by omega,by rw[lH e2];simp[Gm.l]⟩
  .exact .inl ⟨k+1,by omega,by rw[lH e];simp[Gm.r]⟩
theorem kI(p:Nat)(k m:Int):Ge (nf p k) (nf p m)↔m<=k:=by
 constructor
 .intro g
  refine kF λhn=>?_
  rcases RJ p (k:=k) (m:=m) (by omega)with⟨j,hj,x⟩|⟨j,hj,x⟩
  .exact((dY _ _).1 g).1 _ x ((kI p m j).2 hj)
  .exact((dY _ _).1 g).2 _ x ((kI p j k).2 hj)
 .intro h
  rw[dY];refine⟨λr hr g=>?_,λl hl g=>?_⟩
  .obtain⟨j,hj,rfl⟩:=Ac hr
   have:=(kI p m j).1 g;omega
  .obtain⟨j,hj,rfl⟩:=Ad hl
   have:=(kI p j k).1 g;omega
termination_by sizeOf (nf p k)+sizeOf (nf p m)
decreasing_by
 .have:=Gm.jb x;omega
 .have:=Gm.jc x;omega
 .have:=Gm.jb hr;omega
 .have:=Gm.jc hl;omega
theorem kz{m:Int}:eU (nf p k) (nf p m)↔k=m:=by
 constructor
 .rintro⟨h1,h2⟩
  have:=(kI p k m).1 h1;have:=(kI p m k).1 h2;omega
 .rintro rfl;exact eU.refl _
theorem rY(p q:Nat)(k:Int):nf (p+q) (2 ^ q*k)=nf p k:=by
 induction q with
 |zero=>simp
 |succ q ih=>rw[Int.pow_succ,nI (2 ^ q) 2,ja,<-Nat.add_assoc,eO,ih]
theorem BA:∀(p:Nat) (k:Int),(nf p k).l.length<=1/\(nf p k).r.length<=1
 | 0,k=>by
  show(nw k).l.length<=1/\(nw k).r.length<=1;unfold nw;split
  .rw[Bw,KC];split <;> simp
  .rw[ZE,Ww];split <;> simp
 |p+1,k=>by
  rw[nf];split
  .exact BA p _
  .simp[Gm.l,Gm.r]
theorem EY{l:List Gm}(h:l.length<=1){y:Gm}(hx:x∈l)(hy:y∈l):x=y:=by
 match l with
 |[]=>simp at hx
 |[a]=>simp at hx hy;rw[hx,hy]
 |a :: b :: l=>simp at h
theorem Ff:∀(p:Nat) (k:Int),(∀x,x∈(nf p k).l->∀y,y∈x.r->¬Ge (nf p k) y)/\(∀x,x∈(nf p k).r->∀y,y∈x.l->¬Ge y (nf p k))
 | 0,k=>by
  refine⟨λx hx y hy _=>?_,λx hx y hy _=>?_⟩
  .obtain⟨h1,rfl⟩:=E9 hx
   have:=(E8 hy).1;omega
  .obtain⟨h1,rfl⟩:=E8 hx
   have:=(E9 hy).1;omega
 |p+1,k=>by
  by_cases e:k % 2=0
  .rw[nf,if_pos e];exact Ff p _
  .rw[lH e]
   refine⟨λx hx y hy g=>?_,λx hx y hy g=>?_⟩
   .simp only[Gm.l,dB]at hx
    subst hx;rw[<-lH e]at g;obtain⟨a,ha⟩:∃a,k-1=2*a:=⟨(k-1) / 2,by omega⟩;rw[ha,eO]at hy;obtain⟨j,hj,rfl⟩:=Ac hy;rw[<-eO p j,kI]at g;omega
   .simp only[Gm.r,dB]at hx
    subst hx;rw[<-lH e]at g;obtain⟨a,ha⟩:∃a,k+1=2*a:=⟨(k+1) / 2,by omega⟩;rw[ha,eO]at hy;obtain⟨j,hj,rfl⟩:=Ad hy;rw[<-eO p j,kI]at g;omega
theorem oh(p:Nat)(k:Int):Canon (nf p k):=by
 refine .mk _ ⟨λx y hx hy _=>?_,λx y hx hy _=>?_,(Ff p k).1,(Ff p k).2⟩ (λx hx=>?_) (λx hx=>?_)
 .rw[EY (BA p k).1 hx hy];exact iQ _
 .rw[EY (BA p k).2 hx hy];exact iQ _
 .obtain⟨j,hj,e⟩:=Ad hx
  rw[e];exact oh p j
 .obtain⟨j,hj,e⟩:=Ac hx
  rw[e];exact oh p j
termination_by sizeOf (nf p k)
decreasing_by
 .rw[<-e];exact Gm.jc hx
 .rw[<-e];exact Gm.jb hx
theorem M5(p:Nat)(k m:Int):eU (plus (nf p k) (nf p m)) (nf p (k+m)):=by
 have H:∀(x y z:Int),sizeOf (nf p x)+sizeOf (nf p y)<sizeOf (nf p k)+sizeOf (nf p m)->z=x+y->eU (plus (nf p x) (nf p y)) (nf p z):=λx y z h e=>by
  subst e;exact M5 p x y
 have A:∀x j,x∈(nf p k).l->x=nf p j->eU (plus x (nf p m)) (nf p (j+m)):=λx j hx e=>by
  have:=Gm.jc hx;subst e;exact H j m _ (by omega) rfl
 have B:∀x j,x∈(nf p k).r->x=nf p j->eU (plus x (nf p m)) (nf p (j+m)):=λx j hx e=>by
  have:=Gm.jb hx;subst e;exact H j m _ (by omega) rfl
 have C:∀x j,x∈(nf p m).l->x=nf p j->eU (plus (nf p k) x) (nf p (k+j)):=λx j hx e=>by
  have:=Gm.jc hx;subst e;exact H k j _ (by omega) rfl
 have D:∀x j,x∈(nf p m).r->x=nf p j->eU (plus (nf p k) x) (nf p (k+j)):=λx j hx e=>by
  have:=Gm.jb hx;subst e;exact H k j _ (by omega) rfl
 have L:∀(q:Nat) (k m j:Int),nf q j∈(nf q (k+m)).l->(∃i,nf q i∈(nf q k).l/\j<=i+m)\/∃i,nf q i∈(nf q m).l/\j<=k+i:=by
  intro q
  induction q with
  |zero=>
   intro k m j h;obtain⟨h1,h2⟩:=E9 h;have h3:=(kz (p:=0)).1 (show eU (nf 0 j) (nf 0 (k+m-1)) by rw[show nf 0 j=nf 0 (k+m-1) from h2];exact eU.refl _);by_cases hk:0<k
   .exact .inl ⟨k-1,by show nw (k-1)∈(nw k).l;rw[WJ hk];simp,by omega⟩
   .exact .inr ⟨m-1,by show nw (m-1)∈(nw m).l;rw[WJ (by omega)];simp,by omega⟩
  |succ q ih=>
   intro k m j h;obtain⟨j',hj,e⟩:=Ad h;have hjj:j=j':=(kz (p:=q+1)).1 (by rw[e];exact eU.refl _);subst hjj;by_cases e1:k % 2=0
   .by_cases e2:m % 2=0
    .obtain⟨a,rfl⟩:∃a,k=2*a:=⟨k / 2,by omega⟩
     obtain⟨b,rfl⟩:∃b,m=2*b:=⟨m / 2,by omega⟩;rw[<-Int.mul_add,eO]at h;obtain⟨i,hi,ei⟩:=Ad h;rw[ei]at h;have hji:j=2*i:=(kz (p:=q+1)).1 (by rw[ei,eO];exact eU.refl _);rw[eO,eO];rcases ih a b i h with⟨u,hu,l⟩|⟨u,hu,l⟩
     .exact .inl ⟨2*u,by rw[eO];exact hu,by omega⟩
     .exact .inr ⟨2*u,by rw[eO];exact hu,by omega⟩
    .exact .inr ⟨m-1,by rw[lH e2];simp[Gm.l],by omega⟩
   .exact .inl ⟨k-1,by rw[lH e1];simp[Gm.l],by omega⟩
 have R:∀(q:Nat) (k m j:Int),nf q j∈(nf q (k+m)).r->(∃i,nf q i∈(nf q k).r/\i+m<=j)\/∃i,nf q i∈(nf q m).r/\k+i<=j:=by
  intro q
  induction q with
  |zero=>
   intro k m j h;obtain⟨h1,h2⟩:=E8 h;have h3:=(kz (p:=0)).1 (show eU (nf 0 j) (nf 0 (k+m+1)) by rw[show nf 0 j=nf 0 (k+m+1) from h2];exact eU.refl _);by_cases hk:k<0
   .exact .inl ⟨k+1,by show nw (k+1)∈(nw k).r;rw[Wj hk];simp,by omega⟩
   .exact .inr ⟨m+1,by show nw (m+1)∈(nw m).r;rw[Wj (by omega)];simp,by omega⟩
  |succ q ih=>
   intro k m j h;obtain⟨j',hj,e⟩:=Ac h;have hjj:j=j':=(kz (p:=q+1)).1 (by rw[e];exact eU.refl _);subst hjj;by_cases e1:k % 2=0
   .by_cases e2:m % 2=0
    .obtain⟨a,rfl⟩:∃a,k=2*a:=⟨k / 2,by omega⟩
     obtain⟨b,rfl⟩:∃b,m=2*b:=⟨m / 2,by omega⟩;rw[<-Int.mul_add,eO]at h;obtain⟨i,hi,ei⟩:=Ac h;rw[ei]at h;have hji:j=2*i:=(kz (p:=q+1)).1 (by rw[ei,eO];exact eU.refl _);rw[eO,eO];rcases ih a b i h with⟨u,hu,l⟩|⟨u,hu,l⟩
     .exact .inl ⟨2*u,by rw[eO];exact hu,by omega⟩
     .exact .inr ⟨2*u,by rw[eO];exact hu,by omega⟩
    .exact .inr ⟨m+1,by rw[lH e2];simp[Gm.r],by omega⟩
   .exact .inl ⟨k+1,by rw[lH e1];simp[Gm.r],by omega⟩
 constructor
 .rw[dY]
  refine⟨λr hr g=>?_,λl hl g=>?_⟩
  .rcases il.1 hr with⟨y,hy,rfl⟩|⟨y,hy,rfl⟩
   .obtain⟨j,hj,e⟩:=Ac hy
    have:=(kI p _ _).1 ((B y j hy e).lM.1 g);omega
   .obtain⟨j,hj,e⟩:=Ac hy
    have:=(kI p _ _).1 ((D y j hy e).lM.1 g);omega
  .obtain⟨j,hj,rfl⟩:=Ad hl
   rcases L p k m j hl with⟨i,hi,le⟩|⟨i,hi,le⟩
   .exact((dY _ _).1 g).2 _ (iq.2 (.inl ⟨_,hi,rfl⟩)) ((A _ i hi rfl).nz.2 ((kI p _ _).2 le))
   .exact((dY _ _).1 g).2 _ (iq.2 (.inr ⟨_,hi,rfl⟩)) ((C _ i hi rfl).nz.2 ((kI p _ _).2 le))
 .rw[dY]
  refine⟨λr hr g=>?_,λl hl g=>?_⟩
  .obtain⟨j,hj,rfl⟩:=Ac hr
   rcases R p k m j hr with⟨i,hi,le⟩|⟨i,hi,le⟩
   .exact((dY _ _).1 g).1 _ (il.2 (.inl ⟨_,hi,rfl⟩)) ((B _ i hi rfl).lM.2 ((kI p _ _).2 le))
   .exact((dY _ _).1 g).1 _ (il.2 (.inr ⟨_,hi,rfl⟩)) ((D _ i hi rfl).lM.2 ((kI p _ _).2 le))
  .rcases iq.1 hl with⟨y,hy,rfl⟩|⟨y,hy,rfl⟩
   .obtain⟨j,hj,e⟩:=Ad hy
    have:=(kI p _ _).1 ((A y j hy e).nz.1 g);omega
   .obtain⟨j,hj,e⟩:=Ad hy
    have:=(kI p _ _).1 ((C y j hy e).nz.1 g);omega
termination_by sizeOf (nf p k)+sizeOf (nf p m)
decreasing_by
 exact h
end Go.Proofs.YtplgooajigigkaaGreatDoor.aZ