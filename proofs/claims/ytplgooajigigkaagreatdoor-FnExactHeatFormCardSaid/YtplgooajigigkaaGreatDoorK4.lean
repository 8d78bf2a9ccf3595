/- 4 -/
import Derived.Test.YtplgooajigigkaaGreatDoorK3
namespace Go.Proofs.YtplgooajigigkaaGreatDoor.bE
variable {g h k x:Gm}
theorem Ib(SL:Gm->Prop)
 (cover:∀l,l∈g.l->∃i,SL i/\Ge i l)
 (step:∀i,SL i->(∃x,x∈h.l/\Ge x i)\/(∃k,k∈i.r/\Ge g k/\∀x,x∈k.l->SL x))
 (Vg:∀r,r∈h.r->¬Ge g r):Ge h g:=by
 have main:∀n i,sizeOf i<n->SL i->¬Ge i h:=by
  intro n
  induction n with
  |zero=>intro i h0;omega
  |succ n ih=>
   intro i hn hi hg;rcases step i hi with⟨x,hx,k⟩|⟨k,hk,hgk,hc⟩
   .exact kV hx (bH _ _ _ k hg)
   .refine((gu i h).1 hg).1 k hk ?_
    rw[gu];refine⟨λr hr c=>Vg r hr (bH _ _ _ hgk c),λx hx c=>?_⟩;have h1:=Gm.jH hk;have h2:=Gm.jI hx;exact ih x (by omega) (hc x hx) c
 rw[gu];refine⟨Vg,λl hl c=>?_⟩;obtain⟨i,hi,k⟩:=cover l hl;exact main _ i (mO _) hi (bH _ _ _ k c)
theorem Ia(SR:Gm->Prop)
 (cover:∀r,r∈g.r->∃i,SR i/\Ge r i)
 (step:∀i,SR i->(∃x,x∈h.r/\Ge i x)\/(∃k,k∈i.l/\Ge k g/\∀x,x∈k.r->SR x))
 (Vh:∀l,l∈h.l->¬Ge l g):Ge g h:=by
 have main:∀n i,sizeOf i<n->SR i->¬Ge h i:=by
  intro n
  induction n with
  |zero=>intro i h0;omega
  |succ n ih=>
   intro i hn hi hg;rcases step i hi with⟨x,hx,k⟩|⟨k,hk,hgk,hc⟩
   .exact lJ hx (bH _ _ _ hg k)
   .refine((gu h i).1 hg).2 k hk ?_
    rw[gu];refine⟨λx hx c=>?_,λl hl c=>Vh l hl (bH _ _ _ c hgk)⟩;have h1:=Gm.jI hk;have h2:=Gm.jH hx;exact ih x (by omega) (hc x hx) c
 rw[gu];refine⟨λr hr c=>?_,Vh⟩;obtain⟨i,hi,k⟩:=cover r hr;exact main _ i (mO _) hi (bH _ _ _ c k)
theorem Qt(hk:Ge g k)(hx:x∈k.l):¬Ge x g:=λc=>kV hx (bH _ _ _ c hk)
theorem Qs(hk:Ge k g)(hx:x∈k.r):¬Ge g x:=λc=>lJ hx (bH _ _ _ hk c)
theorem stays{α:Type}(ge:α->α->Prop)(refl:∀a,ge a a)(trans:∀a b c,ge a b->ge b c->ge a c)
 (l:List α) (abo:∀a b,a∈l->b∈l->ge a b->ge b a->a=b):
 ∀a,a∈l->∃b,b∈l/\ge b a/\∀c,c∈l->ge c b->c=b:=by
 classical
 have main:∀n a,a∈l->(l.filter (λc=>decide (ge c a))).length<=n->∃b,b∈l/\ge b a/\∀c,c∈l->ge c b->c=b:=by
  intro n
  induction n with
  |zero=>
   intro a ha hn;have:a∈l.filter (λc=>decide (ge c a)):=(by simp[ha,refl]);have:=List.length_pos_of_mem this;omega
  |succ n ih=>
   intro a ha hn;by_cases h:∃c,c∈l/\ge c a/\c≠a
   .obtain⟨c,hc,Xy,hne⟩:=h
    have hlt:(l.filter (λd=>decide (ge d c))).length<(l.filter (λd=>decide (ge d a))).length:=by
     have e:l.filter (λd=>decide (ge d c))=(l.filter (λd=>decide (ge d a))).filter (λd=>decide (ge d c)):=by
      rw[List.filter_filter];refine List.filter_congr λd _=>?_
      by_cases h1:ge d c
      .simp[h1,trans _ _ _ h1 Xy]
      .simp[h1]
     rw[e];have hm:a∈l.filter (λd=>decide (ge d a)):=(by simp[ha,refl]);have hna:¬ge a c:=λk=>hne (abo c a hc ha Xy k)
     refine Nat.lt_of_le_of_ne (pO _ _) λe2=>?_
     have:=(List.filter_eq_self.1 (List.filter_sublist.eq_of_length e2)) a hm;simp[hna]at this
    obtain⟨b,hb,hbc,hmax⟩:=ih c hc (by omega);exact⟨b,hb,trans _ _ _ hbc Xy,hmax⟩
   .exact⟨a,ha,refl a,λc hc Xy=>iw λhne=>h ⟨c,hc,Xy,hne⟩⟩
 intro a ha;exact main _ a ha (aJ _)
end Go.Proofs.YtplgooajigigkaaGreatDoor.bE
namespace Go.Proofs.YtplgooajigigkaaGreatDoor.bE
variable {a b x:Gm}
def plus:Gm->Gm->Gm
 |a,b=>.mk ((a.l.attach.map λx=>plus x.1 b)++b.l.attach.map λy=>plus a y.1) ((a.r.attach.map λx=>plus x.1 b)++b.r.attach.map λy=>plus a y.1)
termination_by a b=>sizeOf a+sizeOf b
decreasing_by
 .have:=Gm.jI x.2;omega
 .have:=Gm.jI y.2;omega
 .have:=Gm.jH x.2;omega
 .have:=Gm.jH y.2;omega
theorem Jg(a b:Gm):plus a b=.mk ((a.l.map λx=>plus x b)++b.l.map λy=>plus a y) ((a.r.map λx=>plus x b)++b.r.map λy=>plus a y):=by
 rw[plus];simp
theorem ja:x∈(plus a b).l↔(∃y,y∈a.l/\plus y b=x)\/(∃y,y∈b.l/\plus a y=x):=by
 rw[Jg];simp[Gm.l]
theorem iX:x∈(plus a b).r↔(∃y,y∈a.r/\plus y b=x)\/(∃y,y∈b.r/\plus a y=x):=by
 rw[Jg];simp[Gm.r]
theorem kD{a a' b b':Gm}(h:Same a a')(k:Same b b'):Same (plus a b) (plus a' b'):=by
 rw[same_iff];obtain⟨h1,h2,h3,h4⟩:=(same_iff _ _).1 h;obtain⟨k1,k2,k3,k4⟩:=(same_iff _ _).1 k;refine⟨λx hx=>?_,λy hy=>?_,λx hx=>?_,λy hy=>?_⟩
 .rcases ja.1 hx with⟨z,hz,rfl⟩|⟨z,hz,rfl⟩
  .obtain⟨u,hu,s⟩:=h1 z hz;exact⟨_,ja.2 (.inl ⟨u,hu,rfl⟩),kD s k⟩
  .obtain⟨u,hu,s⟩:=k1 z hz;exact⟨_,ja.2 (.inr ⟨u,hu,rfl⟩),kD h s⟩
 .rcases ja.1 hy with⟨z,hz,rfl⟩|⟨z,hz,rfl⟩
  .obtain⟨u,hu,s⟩:=h2 z hz;exact⟨_,ja.2 (.inl ⟨u,hu,rfl⟩),kD s k⟩
  .obtain⟨u,hu,s⟩:=k2 z hz;exact⟨_,ja.2 (.inr ⟨u,hu,rfl⟩),kD h s⟩
 .rcases iX.1 hx with⟨z,hz,rfl⟩|⟨z,hz,rfl⟩
  .obtain⟨u,hu,s⟩:=h3 z hz;exact⟨_,iX.2 (.inl ⟨u,hu,rfl⟩),kD s k⟩
  .obtain⟨u,hu,s⟩:=k3 z hz;exact⟨_,iX.2 (.inr ⟨u,hu,rfl⟩),kD h s⟩
 .rcases iX.1 hy with⟨z,hz,rfl⟩|⟨z,hz,rfl⟩
  .obtain⟨u,hu,s⟩:=h4 z hz;exact⟨_,iX.2 (.inl ⟨u,hu,rfl⟩),kD s k⟩
  .obtain⟨u,hu,s⟩:=k4 z hz;exact⟨_,iX.2 (.inr ⟨u,hu,rfl⟩),kD h s⟩
termination_by sizeOf a+sizeOf b
decreasing_by
 all_goals first
  |(have:=Gm.jI hz;omega)
  |(have:=Gm.jI hu;omega)
  |(have:=Gm.jH hz;omega)
  |(have:=Gm.jH hu;omega)
theorem jV(a b:Gm):Same (plus a b) (plus b a):=by
 rw[same_iff];refine⟨λx hx=>?_,λy hy=>?_,λx hx=>?_,λy hy=>?_⟩
 .rcases ja.1 hx with⟨z,hz,rfl⟩|⟨z,hz,rfl⟩
  .exact⟨_,ja.2 (.inr ⟨z,hz,rfl⟩),jV _ _⟩
  .exact⟨_,ja.2 (.inl ⟨z,hz,rfl⟩),jV _ _⟩
 .rcases ja.1 hy with⟨z,hz,rfl⟩|⟨z,hz,rfl⟩
  .exact⟨_,ja.2 (.inr ⟨z,hz,rfl⟩),jV _ _⟩
  .exact⟨_,ja.2 (.inl ⟨z,hz,rfl⟩),jV _ _⟩
 .rcases iX.1 hx with⟨z,hz,rfl⟩|⟨z,hz,rfl⟩
  .exact⟨_,iX.2 (.inr ⟨z,hz,rfl⟩),jV _ _⟩
  .exact⟨_,iX.2 (.inl ⟨z,hz,rfl⟩),jV _ _⟩
 .rcases iX.1 hy with⟨z,hz,rfl⟩|⟨z,hz,rfl⟩
  .exact⟨_,iX.2 (.inr ⟨z,hz,rfl⟩),jV _ _⟩
  .exact⟨_,iX.2 (.inl ⟨z,hz,rfl⟩),jV _ _⟩
termination_by sizeOf a+sizeOf b
decreasing_by
 all_goals first
  |(have:=Gm.jI hz;omega)
  |(have:=Gm.jH hz;omega)
theorem mQ(x y b:Gm):Ge (plus x b) (plus y b)↔Ge x y:=by
 constructor
 .intro h
  obtain⟨h1,h2⟩:=(gu _ _).1 h;rw[gu];exact⟨λr hr g=>h1 _ (iX.2 (.inl ⟨r,hr,rfl⟩)) ((mQ y r b).2 g),λl hl g=>h2 _ (ja.2 (.inl ⟨l,hl,rfl⟩)) ((mQ l x b).2 g)⟩
 .intro h
  obtain⟨h1,h2⟩:=(gu _ _).1 h;rw[gu];refine⟨λr hr g=>?_,λl hl g=>?_⟩
  .rcases iX.1 hr with⟨z,hz,rfl⟩|⟨z,hz,rfl⟩
   .exact h1 z hz ((mQ y z b).1 g)
   .exact((gu _ _).1 g).1 _ (iX.2 (.inr ⟨z,hz,rfl⟩)) ((mQ x y z).2 h)
  .rcases ja.1 hl with⟨z,hz,rfl⟩|⟨z,hz,rfl⟩
   .exact h2 z hz ((mQ z x b).1 g)
   .exact((gu _ _).1 g).2 _ (ja.2 (.inr ⟨z,hz,rfl⟩)) ((mQ x y z).2 h)
termination_by sizeOf x+sizeOf y+sizeOf b
decreasing_by
 all_goals first
  |(have:=Gm.jH hr;omega)
  |(have:=Gm.jI hl;omega)
  |(have:=Gm.jH hz;omega)
  |(have:=Gm.jI hz;omega)
theorem o6{a' b':Gm}(h:jc a a')(k:jc b b'):jc (plus a b) (plus a' b'):=by
 have p:∀{u v:Gm} (c:Gm),jc u v->jc (plus u c) (plus v c):=λc e=>⟨(mQ _ _ c).2 e.1,(mQ _ _ c).2 e.2⟩
 exact(p b h).trans ((jV a' b).eqv.trans ((p a' k).trans (jV b' a').eqv))
def xL:Gm:=.mk [] []
theorem pR(a:Gm):Same (plus a xL) a:=by
 rw[same_iff];refine⟨λx hx=>?_,λy hy=>⟨_,ja.2 (.inl ⟨y,hy,rfl⟩),pR y⟩,λx hx=>?_,λy hy=>⟨_,iX.2 (.inl ⟨y,hy,rfl⟩),pR y⟩⟩
 .rcases ja.1 hx with⟨z,hz,rfl⟩|⟨z,hz,rfl⟩
  .exact⟨z,hz,pR z⟩
  .cases hz
 .rcases iX.1 hx with⟨z,hz,rfl⟩|⟨z,hz,rfl⟩
  .exact⟨z,hz,pR z⟩
  .cases hz
termination_by sizeOf a
decreasing_by
 all_goals first
  |exact Gm.jI hy
  |exact Gm.jH hy
  |exact Gm.jI hz
  |exact Gm.jH hz
end Go.Proofs.YtplgooajigigkaaGreatDoor.bE
namespace Go.Proofs.YtplgooajigigkaaGreatDoor
open bE (dh Gm Canon jc bI bz Same plus)
variable {F:dh} {g:Gm}
def dm(F:dh):Bool:=decide (1<=F.length/\F.length<=120/\∀i (h:i<F.length),(F[i]).1.length<=24/\(F[i]).2.length<=24)
def fA(F:dh)(g:Gm):Prop:=bI F/\∃c,Same (bz F) c/\Canon c/\jc c g
theorem fA.eqv{F:dh}{g:Gm}(h:fA F g):jc (bz F) g:=by
 obtain⟨_,c,h1,_,h2⟩:=h;exact h1.eqv.trans h2
theorem fA.to{g':Gm}(h:fA F g)(e:jc g g'):fA F g':=by
 obtain⟨i,c,h1,h2,h3⟩:=h;exact⟨i,c,h1,h2,h3.trans e⟩
theorem fA.unique{G:dh}(h:fA F g)(k:fA G g):F=G:=by
 obtain⟨i1,g1,s1,c1,e1⟩:=h;obtain⟨i2,g2,s2,c2,e2⟩:=k;exact bE.kQ i1 i2 (bE.dn s1 (bE.dn (bE.fT c1 c2 (e1.trans e2.symm)) (bE.dU s2)))
theorem IE:fA [([],[])] bE.xL:=by
 have hw:bE.WF [([],[])]:=λi nd h=>by
  cases i with
  |zero=>simp at h;subst h;exact⟨λk hk=>(by cases hk),λk hk=>(by cases hk)⟩
  |succ i=>simp at h
 have no:∀{x:Gm},x∈([]:List Gm)->False:=λh=>by cases h
 refine⟨⟨⟨hw,λnd h=>?_,by simp⟩,by simp,λi j h hj=>by simp at hj;omega,λi hi=>?_⟩,bE.xL,?_,?_,jc.refl _⟩
 .simp at h;subst h;exact⟨List.Pairwise.nil,List.Pairwise.nil⟩
 .have:i=0:=by simp at hi;omega
  subst this;exact bE.Reach.here
 .have e:bz [([],[])]=bE.xL:=rfl
  rw[e];exact bE.gT _
 .exact Canon.mk _ ⟨λ_ _ h=>(no h).elim,λ_ _ h=>(no h).elim,λ_ h=>(no h).elim,λ_ h=>(no h).elim⟩ (λ_ h=>(no h).elim) (λ_ h=>(no h).elim)
end Go.Proofs.YtplgooajigigkaaGreatDoor
namespace Go.Proofs.YtplgooajigigkaaGreatDoor.bE
variable {D:dh}
theorem MW{i j k:Nat}(h1:Ahead D i j)(h2:Ahead D j k):Ahead D i k:=by
 unfold Ahead at *;rcases h1 with h1|⟨h1,c1⟩
 .rcases h2 with h2|⟨h2,_⟩
  .exact .inl (by omega)
  .exact .inl (by omega)
 .rcases h2 with h2|⟨h2,c2⟩
  .exact .inl (by omega)
  .exact .inr ⟨by omega,vo c1 c2⟩
theorem SY(hne:D≠[])(wf:WF D)(xD:∀nd,nd∈D->Asc nd.1/\Asc nd.2)(hs:∀i,i+1<D.length->Ahead D i (i+1))(hr:∀i,i<D.length->Reach D (D.length-1) i):bI D:=by
 have sorted:∀i j,i<j->j<D.length->Ahead D i j:=by
  intro i j
  induction j with
  |zero=>intro h;omega
  |succ j ih=>
   intro h hj;by_cases e:i=j
   .subst e;exact hs i hj
   .exact MW (ih (by omega) (by omega)) (hs j hj)
 refine⟨⟨wf,xD,?_⟩,hne,sorted,hr⟩;rw[List.nodup_iff_pairwise_ne,dx];intro i j hi hj hij e;have di:=af hi;have dj:=af hj;have s:=sorted i j hij hj;have ev:vl D i=vl D j:=by rw[mJ wf di,mJ wf dj,e]
 unfold Ahead at s;rw[ev,jM hi,jM hj,e,Bl]at s;omega
theorem Ow(hne:D≠[])(wf:WF D)(xD:∀nd,nd∈D->Asc nd.1/\Asc nd.2):bI D↔(∀i,i+1<D.length->Ahead D i (i+1))/\∀i,i<D.length->Reach D (D.length-1) i:=
 ⟨λh=>⟨λi hi=>h.sorted i (i+1) (by omega) hi,h.reach⟩,λ⟨h1,h2⟩=>SY hne wf xD h1 h2⟩
end Go.Proofs.YtplgooajigigkaaGreatDoor.bE
namespace Go.Proofs.YtplgooajigigkaaGreatDoor.bE
variable {B:List Bool} {i k j:Nat} {F:dh}
def mk(B:List Bool)(i:Nat):List Nat:=(List.range i).filter λj=>B.getD j false
def rk(B:List Bool)(i:Nat):Nat:=(mk B i).length
def Ig(F:dh)(B:List Bool)(j:Nat):Nd:=((F.getD j ([],[])).1.map (rk B),(F.getD j ([],[])).2.map (rk B))
def pG(F:dh)(B:List Bool)(i:Nat):dh:=(mk B i).map (Ig F B)
theorem Eb(B:List Bool)(i:Nat):mk B (i+1)=mk B i++if B.getD i false then [i]else []:=by
 unfold mk;rw[List.range_succ,List.filter_append];congr 1;cases h:B.getD i false <;> simp only[List.filter_cons,List.filter_nil,h] <;> rfl
theorem DY(h:B.getD i false=true):rk B (i+1)=rk B i+1:=by unfold rk;rw[Eb,if_pos h];simp
theorem Qx(B:List Bool)(h:i<=k):rk B i<=rk B k:=by
 induction k with
 |zero=>rw[show i=0 by omega];exact aJ _
 |succ k ih=>
  by_cases e:i=k+1
  .rw[e];exact aJ _
  .have:=ih (by omega)
   have:rk B k<=rk B (k+1):=(by unfold rk;rw[Eb];simp);omega
theorem Qy(hb:B.getD i false=true)(h:i<k):rk B i<rk B k:=by
 have:=Qx B (show i+1<=k from h);rw[DY hb]at this;omega
theorem ab1(B:List Bool)(i:Nat):rk B i<=i:=by
 have:(mk B i).length<=(List.range i).length:=pO _ _
 simpa [rk]using this
theorem ab9(hb:B.getD j false=true)(h:j<i):(mk B i)[rk B j]?=some j:=by
 induction i with
 |zero=>omega
 |succ i ih=>
  rw[Eb];by_cases e:j=i
  .subst e;rw[if_pos hb,dX (by unfold rk;exact aJ _)];simp[rk]
  .have hr:=Qy hb (show j<i by omega)
   rw[dN (show rk B j<(mk B i).length from hr)];exact ih (by omega)
theorem ac9:j∈mk B i↔j<i/\B.getD j false=true:=by unfold mk;simp
theorem QC(F:dh)(B:List Bool)(i:Nat):pG F B (i+1)=pG F B i++if B.getD i false then [Ig F B i]else []:=by
 unfold pG;rw[Eb,dw];split <;> rfl
theorem Jh(F:dh)(B:List Bool)(i:Nat):(pG F B i).length=rk B i:=by simp[pG,rk]
theorem QD(hb:B.getD j false=true)(h:j<i):(pG F B i)[rk B j]?=some (Ig F B j):=by
 unfold pG;rw[ek,ab9 hb h];rfl
theorem yS{m:Nat}(h:m<(pG F B i).length):∃j,j<i/\B.getD j false=true/\rk B j=m/\(pG F B i)[m]?=some (Ig F B j):=by
 have hm:m<(mk B i).length:=by simpa [pG]using h
 have hj:=ai hm;obtain⟨h1,h2⟩:=ac9.1 hj;have h3:=ab9 h2 h1;have e:rk B (mk B i)[m]=m:=by
  have up:(mk B i).Pairwise (· < ·):=List.Pairwise.filter _ sZ;obtain⟨q,e⟩:=df.1 h3;have up:=dx.1 up;rcases nV (rk B (mk B i)[m]) m with c|c|c
  .have:=up _ _ q hm c;omega
  .exact c
  .have:=up _ _ hm q c;omega
 have h4:=QD (F:=F) h2 h1;rw[e]at h4;exact⟨_,h1,h2,e,h4⟩
theorem Yg{f:Nat->Nat}:∀{a b:List Nat},(∀x y,x∈a->y∈b->(x<y↔f x<f y)/\(y<x↔f y<f x))->cl (a.map f) (b.map f)=cl a b:=by
 intro a
 induction a with
 |nil=>intro b _;cases b <;> rfl
 |cons x a ih=>
  intro b h;cases b with
  |nil=>rfl
  |cons y b=>
   have h0:=h x y (by simp) (by simp);have h1:=ih (b:=b) λu v hu hv=>h u v (by simp[hu]) (by simp[hv])
   simp only[List.map_cons,cl];rw[h1];by_cases c:x<y
   .rw[if_pos c,if_pos (h0.1.1 c)]
   .rw[if_neg c,if_neg (λk=>c (h0.1.2 k))]
    by_cases d:y<x
    .rw[if_pos d,if_pos (h0.2.1 d)]
    .rw[if_neg d,if_neg (λk=>d (h0.2.2 k))]
structure CV(F:dh)(r:Nat)(B:List Bool):Prop where
 lt:r<F.length
 iff:∀j:Nat,B[j]?=some true↔Reach F r j
section
variable {F:dh} {r:Nat} {B:List Bool}
theorem CV.get(m:CV F r B){j:Nat}:B.getD j false=true↔Reach F r j:=by
 rw[<-m.iff,bD];cases B[j]? <;> simp
theorem CV.wf(g:Good F)(m:CV F r B):WF (pG F B (r+1)):=by
 intro k nd hk;obtain⟨hk1,_⟩:=df.1 hk;obtain⟨j,hj,hb,e,h⟩:=yS hk1;rw[hk]at h;injection h with h;subst h;have hr:=m.get.1 hb;have L9:j<F.length:=by have:=m.lt;omega
 have d:=af L9;obtain⟨w1,w2⟩:=g.wf j _ d;simp only[Ig,jM L9];refine⟨λy hy=>?_,λy hy=>?_⟩
 .obtain⟨x,hx,rfl⟩:=az.1 hy
  rw[<-e];exact Qy (m.get.2 (.left hr d hx)) (w1 x hx)
 .obtain⟨x,hx,rfl⟩:=az.1 hy
  rw[<-e];exact Qy (m.get.2 (.right hr d hx)) (w2 x hx)
theorem CV.vl(g:Good F)(m:CV F r B):∀j,Reach F r j->bE.vl (pG F B (r+1)) (rk B j)=bE.vl F j:=by
 intro j
 induction j using Nat.strongRecOn with
 |_ j ih=>
  intro hr;have hj:=mi g.wf hr;have L9:j<F.length:=by have:=m.lt;omega
  have d:=af L9;obtain⟨w1,w2⟩:=g.wf j _ d;have hp:=QD (F:=F) (m.get.2 hr) (show j<r+1 by omega);rw[mJ (m.wf g) hp,mJ g.wf d];simp only[Ig,jM L9,jg];congr 1
  .exact dC λx hx=>ih x (w1 x hx) (.left hr d hx)
  .exact dC λx hx=>ih x (w2 x hx) (.right hr d hx)
theorem CV.len(m:CV F r B):(pG F B (r+1)).length-1=rk B r:=by
 rw[Jh,DY (m.get.2 .here)];rfl
theorem CV.form(hF:bI F)(m:CV F r B):bI (pG F B (r+1))/\bz (pG F B (r+1))=bE.vl F r:=by
 have g:=hF.good;have xD:∀{j:Nat},Reach F r j->∀x y,Reach F r x->Reach F r y->(x<y↔rk B x<rk B y):=λ_ x y hx hy=>by
  refine⟨λh=>Qy (m.get.2 hx) h,λh=>?_⟩;rcases ib x y with c|c
  .exact c
  .have:=Qx B c;omega
 have sorted:∀i j,i<j->j<(pG F B (r+1)).length->Ahead (pG F B (r+1)) i j:=by
  intro i j hij hj;obtain⟨a,ha,Rc,ea,pa⟩:=yS (show i<(pG F B (r+1)).length by omega);obtain⟨b,hb,hbb,eb,pb⟩:=yS hj;have ra:=m.get.1 Rc;have rb:=m.get.1 hbb;have hab:a<b:=(xD (.here) a b ra rb).2 (by omega);have hbF:b<F.length:=by have:=m.lt;omega
  have haF:a<F.length:=by omega
  have s:=hF.sorted a b hab hbF;unfold Ahead at s ⊢;have e1:=m.vl g a ra;have e2:=m.vl g b rb;rw[ea]at e1;rw[eb]at e2;have q1:(pG F B (r+1)).getD i ([],[])=Ig F B a:=by rw[bD,pa];rfl
  have q2:(pG F B (r+1)).getD j ([],[])=Ig F B b:=by rw[bD,pb];rfl
  rw[e1,e2,q1,q2];refine s.imp id λ⟨s1,s2⟩=>⟨s1,?_⟩
  have da:=af haF;have db:=af hbF;rw[jM haF,jM hbF]at s2;unfold nc at s2 ⊢;simp only[Ig,jM haF,jM hbF]
  rw[Yg (a:=(F[a]).1) (b:=(F[b]).1) λx y hx hy=>⟨xD .here x y (.left ra da hx) (.left rb db hy),xD .here y x (.left rb db hy) (.left ra da hx)⟩,
   Yg (a:=(F[a]).2) (b:=(F[b]).2) λx y hx hy=>⟨xD .here x y (.right ra da hx) (.right rb db hy),xD .here y x (.right rb db hy) (.right ra da hx)⟩]
  exact s2
 have wf:=m.wf g;refine⟨⟨⟨wf,λnd hnd=>?_,?_⟩,?_,sorted,λi hi=>?_⟩,?_⟩
 .obtain⟨k,hk,rfl⟩:=aQ.1 hnd
  obtain⟨j,hj,hb,e,h⟩:=yS hk;rw[af hk]at h;injection h with h;rw[h];have hr:=m.get.1 hb;have L9:j<F.length:=by have:=m.lt;omega
  have d:=af L9;obtain⟨a1,a2⟩:=g.xD _ (ai L9);simp only[Ig,jM L9,Asc,gU];exact⟨a1.imp_of_mem λ{x y} hx hy c=>(xD .here x y (.left hr d hx) (.left hr d hy)).1 c,a2.imp_of_mem λ{x y} hx hy c=>(xD .here x y (.right hr d hx) (.right hr d hy)).1 c⟩
 .rw[List.nodup_iff_pairwise_ne,dx]
  intro i j hi hj hij e;have di:=af hi;have dj:=af hj;have s:=sorted i j hij hj;have ev:bE.vl (pG F B (r+1)) i=bE.vl (pG F B (r+1)) j:=by rw[mJ wf di,mJ wf dj,e]
  unfold Ahead at s;rw[ev,jM hi,jM hj,e,Bl]at s;omega
 .intro e
  have:=Jh F B (r+1);rw[e,DY (m.get.2 .here)]at this;simp at this
 .obtain⟨j,hj,hb,e,h⟩:=yS hi
  have key:∀j,Reach F r j->Reach (pG F B (r+1)) (rk B r) (rk B j):=by
   intro j hr
   induction hr with
   |here=>exact .here
   | @left j k nd hr hd hk ih=>
    have hj:=mi g.wf hr;obtain⟨L9,e⟩:=df.1 hd;refine .left ih (QD (m.get.2 hr) (by omega)) ?_;simp only[Ig,jM L9,e];exact aV hk
   | @right j k nd hr hd hk ih=>
    have hj:=mi g.wf hr;obtain⟨L9,e⟩:=df.1 hd;refine .right ih (QD (m.get.2 hr) (by omega)) ?_;simp only[Ig,jM L9,e];exact aV hk
  rw[m.len,<-e];exact key j (m.get.1 hb)
 .unfold bz
  rw[m.len];exact m.vl g r .here
end
theorem ZZ{F:dh}{B:List Bool}{r:Nat}(m:CV F r B)(hf:dm F=true):dm (pG F B (r+1))=true:=by
 obtain⟨h1,h2,h3⟩:=of_decide_eq_true hf;have hl:=Jh F B (r+1);have hk:rk B (r+1)<=r+1:=by
  have:(mk B (r+1)).length<=(List.range (r+1)).length:=pO _ _
  simpa [rk]using this
 have h4:=DY (m.get.2 .here);refine decide_eq_true ⟨by omega,by have:=m.lt;omega,λi hi=>?_⟩;obtain⟨j,hj,hb,e,h⟩:=yS hi;have L9:j<F.length:=by have:=m.lt;omega
 rw[af hi]at h;injection h with h;rw[h];simp only[Ig,jM L9,bK];exact h3 j L9
end Go.Proofs.YtplgooajigigkaaGreatDoor.bE
namespace Go.Proofs.YtplgooajigigkaaGreatDoor.bE
variable {n p:Nat} {k:Int} {x:Gm}
def nn:Nat->Gm
 | 0=>.mk [] []
 |n+1=>.mk [nn n] []
def nm:Nat->Gm
 | 0=>.mk [] []
 |n+1=>.mk [] [nm n]
def nw(k:Int):Gm:=if 0<=k then nn k.toNat else nm (-k).toNat
def nf:Nat->Int->Gm
 | 0,k=>nw k
 |p+1,k=>if k % 2=0 then nf p (k / 2)else .mk [nf p ((k-1) / 2)] [nf p ((k+1) / 2)]
theorem ac7:(nn n).l=if n=0 then []else [nn (n-1)]:=by cases n <;> simp[nn,Gm.l]
theorem af0:(nn n).r=[]:=by cases n <;> simp[nn,Gm.r]
theorem af2:(nm n).l=[]:=by cases n <;> simp[nm,Gm.l]
theorem af1:(nm n).r=if n=0 then []else [nm (n-1)]:=by cases n <;> simp[nm,Gm.r]
theorem SK(h:0<k):(nw k).l=[nw (k-1)]:=by
 unfold nw;rw[if_pos (by omega),if_pos (by omega),ac7,if_neg (by omega)];congr 2;omega
theorem Sc(h:k<0):(nw k).r=[nw (k+1)]:=by
 unfold nw;rw[if_neg (by omega),af1,if_neg (by omega)];by_cases e:k+1=0
 .rw[if_pos (by omega),e];rw[show(-k).toNat-1=0 by omega];rfl
 .rw[if_neg (by omega)];congr 2;omega
theorem af7(h:k<=0):(nw k).l=[]:=by
 unfold nw;split
 .rw[ac7,if_pos (by omega)]
 .rw[af2]
theorem afN(h:0<=k):(nw k).r=[]:=by
 unfold nw;rw[if_pos h,af0]
theorem Dt(h:x∈(nw k).l):0<k/\x=nw (k-1):=by
 by_cases e:0<k
 .rw[SK e]at h;exact⟨e,by simpa using h⟩
 .rw[af7 (by omega)]at h;simp at h
theorem Dr(h:x∈(nw k).r):k<0/\x=nw (k+1):=by
 by_cases e:k<0
 .rw[Sc e]at h;exact⟨e,by simpa using h⟩
 .rw[afN (by omega)]at h;simp at h
theorem je(p:Nat)(k:Int):nf (p+1) (2*k)=nf p k:=by
 rw[nf,if_pos (by omega)];congr 1;omega
theorem oU(h:k % 2≠0):nf (p+1) k=.mk [nf (p+1) (k-1)] [nf (p+1) (k+1)]:=by
 rw[nf,if_neg h];have h1:nf (p+1) (k-1)=nf p ((k-1) / 2):=by rw[nf,if_pos (by omega)]
 have h2:nf (p+1) (k+1)=nf p ((k+1) / 2):=by rw[nf,if_pos (by omega)]
 rw[h1,h2]
theorem Bi:∀{p:Nat} {k:Int} {x:Gm},x∈(nf p k).l->∃j,j<k/\x=nf p j
 | 0,k,x,h=>⟨k-1,by omega,(Dt h).2⟩
 |p+1,k,x,h=>by
  by_cases e:k % 2=0
  .rw[nf,if_pos e]at h
   obtain⟨j,hj,rfl⟩:=Bi h;exact⟨2*j,by omega,(je p j).symm⟩
  .rw[oU e]at h
   simp only[Gm.l,eT]at h;exact⟨k-1,by omega,h⟩
theorem zZ:∀{p:Nat} {k:Int} {x:Gm},x∈(nf p k).r->∃j,k<j/\x=nf p j
 | 0,k,x,h=>⟨k+1,by omega,(Dr h).2⟩
 |p+1,k,x,h=>by
  by_cases e:k % 2=0
  .rw[nf,if_pos e]at h
   obtain⟨j,hj,rfl⟩:=zZ h;exact⟨2*j,by omega,(je p j).symm⟩
  .rw[oU e]at h
   simp only[Gm.r,eT]at h;exact⟨k+1,by omega,h⟩
theorem V9:∀(p:Nat) {k m:Int},k<m->(∃j,j<=m/\nf p j∈(nf p k).r)\/∃j,k<=j/\nf p j∈(nf p m).l
 | 0,k,m,h=>by
  by_cases hm:0<m
  .exact .inr ⟨m-1,by omega,by show nw (m-1)∈(nw m).l;rw[SK hm];simp⟩
  .exact .inl ⟨k+1,by omega,by show nw (k+1)∈(nw k).r;rw[Sc (by omega)];simp⟩
 |p+1,k,m,h=>by
  by_cases e:k % 2=0
  .by_cases e2:m % 2=0
   .obtain⟨a,rfl⟩:∃a,k=2*a:=⟨k / 2,by omega⟩
    obtain⟨b,rfl⟩:∃b,m=2*b:=⟨m / 2,by omega⟩;rw[je,je];rcases V9 p (k:=a) (m:=b) (by omega)with⟨j,hj,x⟩|⟨j,hj,x⟩
    .exact .inl ⟨2*j,by omega,by rw[je];exact x⟩
    .exact .inr ⟨2*j,by omega,by rw[je];exact x⟩
   .exact .inr ⟨m-1,by omega,by rw[oU e2];simp[Gm.l]⟩
  .exact .inl ⟨k+1,by omega,by rw[oU e];simp[Gm.r]⟩
theorem j6(p:Nat)(k m:Int):Ge (nf p k) (nf p m)↔m<=k:=by
 constructor
 .intro g
  refine iw λhn=>?_
  rcases V9 p (k:=k) (m:=m) (by omega)with⟨j,hj,x⟩|⟨j,hj,x⟩
  .exact((gu _ _).1 g).1 _ x ((j6 p m j).2 hj)
  .exact((gu _ _).1 g).2 _ x ((j6 p j k).2 hj)
 .intro h
  rw[gu];refine⟨λr hr g=>?_,λl hl g=>?_⟩
  .obtain⟨j,hj,rfl⟩:=zZ hr
   have:=(j6 p m j).1 g;omega
  .obtain⟨j,hj,rfl⟩:=Bi hl
   have:=(j6 p j k).1 g;omega
termination_by sizeOf (nf p k)+sizeOf (nf p m)
decreasing_by
 .have:=Gm.jH x;omega
 .have:=Gm.jI x;omega
 .have:=Gm.jH hr;omega
 .have:=Gm.jI hl;omega
theorem mU{m:Int}:jc (nf p k) (nf p m)↔k=m:=by
 constructor
 .rintro⟨h1,h2⟩
  have:=(j6 p k m).1 h1;have:=(j6 p m k).1 h2;omega
 .rintro rfl;exact jc.refl _
theorem lY(p q:Nat)(k:Int):nf (p+q) (2 ^ q*k)=nf p k:=by
 induction q with
 |zero=>simp
 |succ q ih=>rw[Int.pow_succ,mX (2 ^ q) 2,jO,<-Nat.add_assoc,je,ih]
theorem z8:∀(p:Nat) (k:Int),(nf p k).l.length<=1/\(nf p k).r.length<=1
 | 0,k=>by
  show(nw k).l.length<=1/\(nw k).r.length<=1;unfold nw;split
  .rw[ac7,af0];split <;> simp
  .rw[af2,af1];split <;> simp
 |p+1,k=>by
  rw[nf];split
  .exact z8 p _
  .simp[Gm.l,Gm.r]
theorem Jm{l:List Gm}(h:l.length<=1){y:Gm}(hx:x∈l)(hy:y∈l):x=y:=by
 match l with
 |[]=>simp at hx
 |[a]=>simp at hx hy;rw[hx,hy]
 |a :: b :: l=>simp at h
theorem Jq:∀(p:Nat) (k:Int),(∀x,x∈(nf p k).l->∀y,y∈x.r->¬Ge (nf p k) y)/\(∀x,x∈(nf p k).r->∀y,y∈x.l->¬Ge y (nf p k))
 | 0,k=>by
  refine⟨λx hx y hy _=>?_,λx hx y hy _=>?_⟩
  .obtain⟨h1,rfl⟩:=Dt hx
   have:=(Dr hy).1;omega
  .obtain⟨h1,rfl⟩:=Dr hx
   have:=(Dt hy).1;omega
 |p+1,k=>by
  by_cases e:k % 2=0
  .rw[nf,if_pos e];exact Jq p _
  .rw[oU e]
   refine⟨λx hx y hy g=>?_,λx hx y hy g=>?_⟩
   .simp only[Gm.l,eT]at hx
    subst hx;rw[<-oU e]at g;obtain⟨a,ha⟩:∃a,k-1=2*a:=⟨(k-1) / 2,by omega⟩;rw[ha,je]at hy;obtain⟨j,hj,rfl⟩:=zZ hy;rw[<-je p j,j6]at g;omega
   .simp only[Gm.r,eT]at hx
    subst hx;rw[<-oU e]at g;obtain⟨a,ha⟩:∃a,k+1=2*a:=⟨(k+1) / 2,by omega⟩;rw[ha,je]at hy;obtain⟨j,hj,rfl⟩:=Bi hy;rw[<-je p j,j6]at g;omega
theorem mE(p:Nat)(k:Int):Canon (nf p k):=by
 refine .mk _ ⟨λx y hx hy _=>?_,λx y hx hy _=>?_,(Jq p k).1,(Jq p k).2⟩ (λx hx=>?_) (λx hx=>?_)
 .rw[Jm (z8 p k).1 hx hy];exact gT _
 .rw[Jm (z8 p k).2 hx hy];exact gT _
 .obtain⟨j,hj,e⟩:=Bi hx
  rw[e];exact mE p j
 .obtain⟨j,hj,e⟩:=zZ hx
  rw[e];exact mE p j
termination_by sizeOf (nf p k)
decreasing_by
 .rw[<-e];exact Gm.jI hx
 .rw[<-e];exact Gm.jH hx
theorem uA(p:Nat)(k m:Int):jc (plus (nf p k) (nf p m)) (nf p (k+m)):=by
 have H:∀(x y z:Int),sizeOf (nf p x)+sizeOf (nf p y)<sizeOf (nf p k)+sizeOf (nf p m)->z=x+y->jc (plus (nf p x) (nf p y)) (nf p z):=λx y z h e=>by
  subst e;exact uA p x y
 have A:∀x j,x∈(nf p k).l->x=nf p j->jc (plus x (nf p m)) (nf p (j+m)):=λx j hx e=>by
  have:=Gm.jI hx;subst e;exact H j m _ (by omega) rfl
 have B:∀x j,x∈(nf p k).r->x=nf p j->jc (plus x (nf p m)) (nf p (j+m)):=λx j hx e=>by
  have:=Gm.jH hx;subst e;exact H j m _ (by omega) rfl
 have C:∀x j,x∈(nf p m).l->x=nf p j->jc (plus (nf p k) x) (nf p (k+j)):=λx j hx e=>by
  have:=Gm.jI hx;subst e;exact H k j _ (by omega) rfl
 have D:∀x j,x∈(nf p m).r->x=nf p j->jc (plus (nf p k) x) (nf p (k+j)):=λx j hx e=>by
  have:=Gm.jH hx;subst e;exact H k j _ (by omega) rfl
 have L:∀(q:Nat) (k m j:Int),nf q j∈(nf q (k+m)).l->(∃i,nf q i∈(nf q k).l/\j<=i+m)\/∃i,nf q i∈(nf q m).l/\j<=k+i:=by
  intro q
  induction q with
  |zero=>
   intro k m j h;obtain⟨h1,h2⟩:=Dt h;have h3:=(mU (p:=0)).1 (show jc (nf 0 j) (nf 0 (k+m-1)) by rw[show nf 0 j=nf 0 (k+m-1) from h2];exact jc.refl _);by_cases hk:0<k
   .exact .inl ⟨k-1,by show nw (k-1)∈(nw k).l;rw[SK hk];simp,by omega⟩
   .exact .inr ⟨m-1,by show nw (m-1)∈(nw m).l;rw[SK (by omega)];simp,by omega⟩
  |succ q ih=>
   intro k m j h;obtain⟨j',hj,e⟩:=Bi h;have hjj:j=j':=(mU (p:=q+1)).1 (by rw[e];exact jc.refl _);subst hjj;by_cases e1:k % 2=0
   .by_cases e2:m % 2=0
    .obtain⟨a,rfl⟩:∃a,k=2*a:=⟨k / 2,by omega⟩
     obtain⟨b,rfl⟩:∃b,m=2*b:=⟨m / 2,by omega⟩;rw[<-Int.mul_add,je]at h;obtain⟨i,hi,ei⟩:=Bi h;rw[ei]at h;have hji:j=2*i:=(mU (p:=q+1)).1 (by rw[ei,je];exact jc.refl _);rw[je,je];rcases ih a b i h with⟨u,hu,l⟩|⟨u,hu,l⟩
     .exact .inl ⟨2*u,by rw[je];exact hu,by omega⟩
     .exact .inr ⟨2*u,by rw[je];exact hu,by omega⟩
    .exact .inr ⟨m-1,by rw[oU e2];simp[Gm.l],by omega⟩
   .exact .inl ⟨k-1,by rw[oU e1];simp[Gm.l],by omega⟩
 have R:∀(q:Nat) (k m j:Int),nf q j∈(nf q (k+m)).r->(∃i,nf q i∈(nf q k).r/\i+m<=j)\/∃i,nf q i∈(nf q m).r/\k+i<=j:=by
  intro q
  induction q with
  |zero=>
   intro k m j h;obtain⟨h1,h2⟩:=Dr h;have h3:=(mU (p:=0)).1 (show jc (nf 0 j) (nf 0 (k+m+1)) by rw[show nf 0 j=nf 0 (k+m+1) from h2];exact jc.refl _);by_cases hk:k<0
   .exact .inl ⟨k+1,by show nw (k+1)∈(nw k).r;rw[Sc hk];simp,by omega⟩
   .exact .inr ⟨m+1,by show nw (m+1)∈(nw m).r;rw[Sc (by omega)];simp,by omega⟩
  |succ q ih=>
   intro k m j h;obtain⟨j',hj,e⟩:=zZ h;have hjj:j=j':=(mU (p:=q+1)).1 (by rw[e];exact jc.refl _);subst hjj;by_cases e1:k % 2=0
   .by_cases e2:m % 2=0
    .obtain⟨a,rfl⟩:∃a,k=2*a:=⟨k / 2,by omega⟩
     obtain⟨b,rfl⟩:∃b,m=2*b:=⟨m / 2,by omega⟩;rw[<-Int.mul_add,je]at h;obtain⟨i,hi,ei⟩:=zZ h;rw[ei]at h;have hji:j=2*i:=(mU (p:=q+1)).1 (by rw[ei,je];exact jc.refl _);rw[je,je];rcases ih a b i h with⟨u,hu,l⟩|⟨u,hu,l⟩
     .exact .inl ⟨2*u,by rw[je];exact hu,by omega⟩
     .exact .inr ⟨2*u,by rw[je];exact hu,by omega⟩
    .exact .inr ⟨m+1,by rw[oU e2];simp[Gm.r],by omega⟩
   .exact .inl ⟨k+1,by rw[oU e1];simp[Gm.r],by omega⟩
 constructor
 .rw[gu]
  refine⟨λr hr g=>?_,λl hl g=>?_⟩
  .rcases iX.1 hr with⟨y,hy,rfl⟩|⟨y,hy,rfl⟩
   .obtain⟨j,hj,e⟩:=zZ hy
    have:=(j6 p _ _).1 ((B y j hy e).ow.1 g);omega
   .obtain⟨j,hj,e⟩:=zZ hy
    have:=(j6 p _ _).1 ((D y j hy e).ow.1 g);omega
  .obtain⟨j,hj,rfl⟩:=Bi hl
   rcases L p k m j hl with⟨i,hi,le⟩|⟨i,hi,le⟩
   .exact((gu _ _).1 g).2 _ (ja.2 (.inl ⟨_,hi,rfl⟩)) ((A _ i hi rfl).qo.2 ((j6 p _ _).2 le))
   .exact((gu _ _).1 g).2 _ (ja.2 (.inr ⟨_,hi,rfl⟩)) ((C _ i hi rfl).qo.2 ((j6 p _ _).2 le))
 .rw[gu]
  refine⟨λr hr g=>?_,λl hl g=>?_⟩
  .obtain⟨j,hj,rfl⟩:=zZ hr
   rcases R p k m j hr with⟨i,hi,le⟩|⟨i,hi,le⟩
   .exact((gu _ _).1 g).1 _ (iX.2 (.inl ⟨_,hi,rfl⟩)) ((B _ i hi rfl).ow.2 ((j6 p _ _).2 le))
   .exact((gu _ _).1 g).1 _ (iX.2 (.inr ⟨_,hi,rfl⟩)) ((D _ i hi rfl).ow.2 ((j6 p _ _).2 le))
  .rcases ja.1 hl with⟨y,hy,rfl⟩|⟨y,hy,rfl⟩
   .obtain⟨j,hj,e⟩:=Bi hy
    have:=(j6 p _ _).1 ((A y j hy e).qo.1 g);omega
   .obtain⟨j,hj,e⟩:=Bi hy
    have:=(j6 p _ _).1 ((C y j hy e).qo.1 g);omega
termination_by sizeOf (nf p k)+sizeOf (nf p m)
decreasing_by
 exact h
end Go.Proofs.YtplgooajigigkaaGreatDoor.bE